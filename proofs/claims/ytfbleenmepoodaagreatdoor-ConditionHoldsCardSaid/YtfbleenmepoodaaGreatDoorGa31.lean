/- A part of the framework and of the walks: W157 W158 C60 V56 W161 W162 V4 V11 V6 V7 V8 V12 V13 W2 W31 V15 V16 T24 V18 V19. -/
import Derived.Test.YtfbleenmepoodaaGreatDoorGa30
set_option linter.unusedSimpArgs false
set_option linter.unusedVariables false
set_option linter.unusedSectionVars false
set_option linter.defProp false
set_option maxRecDepth 100000
set_option maxHeartbeats 0
namespace Go.Gv
open Cod (enc dec)
variable {S S0:Nat->Spc}
def featS:List B:=[⟨#[124]⟩,⟨#[124,112,124]⟩,⟨#[124,112,124,113,124]⟩,⟨#[124,113,124]⟩]
def EA(s v:B):Option Bool:=if(featS.any λz=>decide (z=s))=true/\(v=⟨#[112]⟩\/v=⟨#[113]⟩)then some (s.data.toList.any λc=>decide (v.data.toList=[c]))else none
structure Ic where
 c:Corpus
 tok:Int
 lb:List B
 bd:List Int
def kp(E:Ic):Nat->Cond->Option Bool
 | 0=>λ_=>none
 | n+1=>λx=>
   if x.op=1 then some true else
   if x.op=2 then wz x.val (ln E.c.toks E.tok (kI E.c.attrs x.name)) x.fold else
   if x.op=3 then EA (ln E.c.toks E.tok (di E.c.attrs x.name)) x.val else
   if x.op=4 then(if ko E.lb (λz=>decide (z=x.lab)) < 0 then none else match E.bd[(ko E.lb λz=>decide (z=x.lab)).toNat]? with
    | some o=>some (decide (0<=o) && decide (ln E.c.toks E.tok (di E.c.attrs x.name)=ln E.c.toks o (di E.c.attrs x.arg)))
    | none=>none)else
   if x.op=5 then some (E.c.regs.any (pA x E.tok))else
   if x.op=6 then(match x.kids with|k::_=>(kp E n k).map not|[]=>none)else
   if(x.kids.all λk=>(kp E n k).isSome)=true then
    (if x.op=7 then some (!(x.kids.any λk=>!((kp E n k).getD false)))else some (x.kids.any λk=>(kp E n k).getD false))
   else none
def VF(c:Corpus):Prop:=c.toks.length<=100000/\(∀r∈c.toks,r.length<=100000)/\c.attrs.length<=1000
abbrev HZ:=Corpus×Cond×Int×List B×List Int
def Pg(z:HZ):Ic:=⟨z.1,z.2.2.1,z.2.2.2.1,z.2.2.2.2⟩
def Vt(n:Nat)(z:HZ):Prop:=VF z.1/\∃y,kp (Pg z) n z.2.1=some y
def PB(n:Nat)(z:HZ)(y:Bool):Prop:=kp (Pg z) n z.2.1=some y
abbrev aH:fw HZ:=aE Corpus (a4 Cond Int (List B) (List Int))
abbrev xZ(n:Nat):Spc:=aZ aH (Vt n) (enc (X:=Bool)) (PB n)
def NJ(c:Corpus):List D:=[.list 2 (c.attrs.map enc), .list 1 (c.toks.map enc), .list 4 (c.texts.map enc), .list 4 (c.regs.map enc), .list 4 (c.nodes.map enc), .list 1 (c.heads.map enc), .list 1 (c.rels.map enc)]
def NI(c:Corpus): .agg (NJ c)=enc c:=by simp[NJ]
def NH{x y:Corpus}(h:NJ x=NJ y):x=y:=bC (by rw[<-NI,<-NI,h])
def Sn(z:HZ):List D:=[.cptr (NJ z.1) 0, .cptr [enc z.2.2.1] 0, .cptr [enc z.2.2.2.1] 0, .cptr [enc z.2.2.2.2] 0]
def Ti(z:HZ):List D:=enc z.2.1::Sn z
def YQ(z:HZ):List D:=[enc z.2.1, .cptr [.clo aB (Sn z)] 0]
def BP(z z':HZ)(h:Ti z=Ti z'):z=z':=by
 obtain⟨a,b,c,d,e⟩:=z;obtain⟨a',b',c',d',e'⟩:=z';unfold Ti Sn at h;simp only[qke,D.cptr.injEq,and_true]at h;rw[bC h.1,NH h.2.1,bC h.2.2.1,bC h.2.2.2.1,bC h.2.2.2.2]
def MO(z z':HZ)(h:YQ z=YQ z'):z=z':=by
 unfold YQ at h;simp only[qke,D.cptr.injEq,D.clo.injEq,and_true,true_and]at h;refine BP z z' ?_;unfold Ti;rw[h.1,h.2]
noncomputable abbrev aH1:fw HZ:=aX Ti BP
noncomputable abbrev qiD:fw HZ:=aX YQ MO
noncomputable abbrev LJ(n:Nat):Spc:=aZ aH1 (Vt n) (enc (X:=Bool)) (PB n)
noncomputable abbrev Qv(n:Nat):Spc:=aZ qiD (Vt n) (enc (X:=Bool)) λz y=>∃b,kp (Pg z) n z.2.1=some b/\y=!b
def Oc(n:Nat)(h1:S cp=xZ n):ax gS gz S aH1 (Vt n) (enc (X:=Bool)) (PB n):=by
 rintro z hz;rw[uG];obtain⟨c,x,tok,lb,bd⟩:=z;simp[Ti,Sn,NJ,gS,gz,h1,hz, -Bool.forall_bool, -Bool.exists_bool]
@[simp] theorem qeN(c:Corpus)(x:Cond)(tok:Int)(lb:List B)(bd:List Int):aH1.dec [.agg [.v (.int .i64 x.op), .v (.string x.name), .v (.string x.arg), .v (.string x.val), .v (.string x.lab), .v (.bool x.fold), .list 7 (x.kids.map enc)], .cptr [.list 2 (c.attrs.map enc), .list 1 (c.toks.map enc), .list 4 (c.texts.map enc), .list 4 (c.regs.map enc), .list 4 (c.nodes.map enc), .list 1 (c.heads.map enc), .list 1 (c.rels.map enc)] 0, .cptr [.v (.int .i64 tok)] 0, .cptr [.list 1 (lb.map enc)] 0, .cptr [.list 1 (bd.map enc)] 0]=some (c,x,tok,lb,bd):=by
 have h:=wV Ti BP (c,x,tok,lb,bd);have e:Ti (c,x,tok,lb,bd)=[.agg [.v (.int .i64 x.op), .v (.string x.name), .v (.string x.arg), .v (.string x.val), .v (.string x.lab), .v (.bool x.fold), .list 7 (x.kids.map enc)], .cptr [.list 2 (c.attrs.map enc), .list 1 (c.toks.map enc), .list 4 (c.texts.map enc), .list 4 (c.regs.map enc), .list 4 (c.nodes.map enc), .list 1 (c.heads.map enc), .list 1 (c.rels.map enc)] 0, .cptr [.v (.int .i64 tok)] 0, .cptr [.list 1 (lb.map enc)] 0, .cptr [.list 1 (bd.map enc)] 0]:=by simp[Ti,Sn,NJ]
 rw[<-e];exact h
def Ob(n:Nat)(h1:S aB=LJ n):ax gQ gy S qiD (Vt n) (enc (X:=Bool)) λz y=>∃b,kp (Pg z) n z.2.1=some b/\y=!b:=by
 rintro z hz;rw[uG];obtain⟨c,x,tok,lb,bd⟩:=z;simp[YQ,Sn,NJ,gQ,gy,h1,hz, -Bool.forall_bool, -Bool.exists_bool];exactλy hy=>hy
abbrev Qw:Spc:=aZ (a2 B B) (λx=>∃b,EA x.1 x.2=some b) (enc (X:=Bool)) λx y=>EA x.1 x.2=some y
set_option maxHeartbeats 4000000 in
theorem Ts(n:Nat)(h0:S0 aB=LJ n)(h0':S0 bJ=Qv n)(h1:S aB=LJ n)(h2:S aV=JC Cond S0)(h3:S gb=CG)(h4:S jO=Jz)(h5:S pN=MY)(h6:S bO=ya)(h7:S pM=Qw)(h8:S dD=LI)(h9:S iS=Qz):
 ax ja iO S aH (Vt (n+1)) (enc (X:=Bool)) (PB (n+1)):=by
 rintro⟨c,x,tok,lb,bd⟩ ⟨⟨z1,z2,z3⟩,y,hy⟩;simp only at z1 z2 z3;have hy0:kp ⟨c,tok,lb,bd⟩ (n+1) x=some y:=hy;have hQ:∀w,w=y->PB (n+1) (c,x,tok,lb,bd) w:=λw e=>by subst e;exact hy
 clear hy;obtain⟨op,name,arg,val,lab,fold,ks⟩:=x;unfold kp at hy0;simp only at hy0;have hval:∀i k:Int,VF c:=λ_ _=>⟨z1,z2,z3⟩
 simp[ja,iO, -Bool.forall_bool, -Bool.exists_bool];refine kW (X:=Unit) [5,6,7,8,9] [] [11] [] (λ_=>True) (λ_=>[(11, .cptr [.clo aB (Sn (c,⟨op,name,arg,val,lab,fold,ks⟩,tok,lb,bd))] 0)]) (λ_=>[]) [] (λ_=>rfl) (by decide) ?_ ?_
 ·simp[Sn,NJ];exactλb=> .box rfl
 rintro - -;simp only[Sn,NJ];split at hy0
 ·rename_i e;subst e;obtain rfl:=qjJ hy0;simp[-Bool.forall_bool, -Bool.exists_bool];exact hQ _ rfl
 rename_i e1;split at hy0
 ·rename_i e;subst e;have hM:SV (val,ln c.toks tok (kI c.attrs name),fold):=⟨y,hy0⟩
  simp[h3,h4,h5,z1,z2,z3,hM, -Bool.forall_bool, -Bool.exists_bool];refine⟨z2,λw hw=>hQ _ (qjJ (hw.symm.trans hy0))⟩
 rename_i e2;split at hy0
 ·rename_i e;subst e;have hM:∃b,EA (ln c.toks tok (di c.attrs name)) val=some b:=⟨y,hy0⟩
  simp[h6,h4,h7,z1,z2,z3,hM, -Bool.forall_bool, -Bool.exists_bool];refine⟨z2,λw hw=>hQ _ (qjJ (hw.symm.trans hy0))⟩
 rename_i e3;split at hy0
 ·rename_i e;subst e;split at hy0
  ·cases hy0
  rename_i hj;obtain⟨j,hjj⟩:∃j,j=ko lb λz=>decide (z=lab):=⟨_,rfl⟩
  rw[<-hjj]at hj hy0;cases ho:bd[j.toNat]? with
  | none=>rw[ho]at hy0;cases hy0
  | some o=>
  rw[ho]at hy0;have hy1:(decide (0<=o) && decide (ln c.toks tok (di c.attrs name)=ln c.toks o (di c.attrs arg)))=y:=qjJ hy0;have j0:0<=j:=by omega
  obtain⟨hjl,hgo⟩:=qjA.1 ho;have j1:j < (bd.length:Int):=by omega
  by_cases h0o:0<=o
  ·simp[h8,<-hjj,j0,j1,ho,hgo,h0o,h6,h4,z1,z2,z3, -Bool.forall_bool, -Bool.exists_bool];exact⟨⟨z2,hQ _ (by rw[<-hy1];simp[h0o])⟩,λh=>by omega⟩
  ·simp[h8,<-hjj,j0,j1,ho,hgo,h0o, -Bool.forall_bool, -Bool.exists_bool];exactλ_=>hQ _ (by rw[<-hy1];simp[h0o])
 rename_i e4;split at hy0
 ·rename_i e;subst e;have hy1:=qjJ hy0;simp[h9, -Bool.forall_bool, -Bool.exists_bool];exact hQ _ hy1
 rename_i e5;split at hy0
 ·rename_i e;subst e;split at hy0
  ·rename_i k ks';obtain⟨b,hb,rfl⟩:=qjH.1 hy0;have hp:Vt n (c,k,tok,lb,bd):=⟨⟨z1,z2,z3⟩,b,hb⟩
   simp[h1,hp, -Bool.forall_bool, -Bool.exists_bool];intro w hw;have hw:kp ⟨c,tok,lb,bd⟩ n k=some w:=hw;rw[hb]at hw;cases hw;exact hQ _ rfl
  ·cases hy0
 rename_i e6;split at hy0
 rotate_left
 ·cases hy0
 rename_i hall;have hal:∀k∈ks,∃b,kp ⟨c,tok,lb,bd⟩ n k=some b:=λk hk=>qkk.1 (qjF.1 hall k hk)
 have hf2:FunOn S0 (.clo bJ [.cptr [.clo aB (Sn (c,⟨op,name,arg,val,lab,fold,ks⟩,tok,lb,bd))] 0]) ks λk=>!((kp ⟨c,tok,lb,bd⟩ n k).getD false):=
  nh (f:=λk=>(c,k,tok,lb,bd)) h0' (λk _=>wV YQ MO (c,k,tok,lb,bd)) (λk hk=>⟨⟨z1,z2,z3⟩,hal k hk⟩) (λk hk y hy=>by
   obtain⟨b,h1,h2⟩:=hy;have h1:kp ⟨c,tok,lb,bd⟩ n k=some b:=h1;rw[h2,h1];rfl)
 have hf1:FunOn S0 (.clo aB (Sn (c,⟨op,name,arg,val,lab,fold,ks⟩,tok,lb,bd))) ks λk=>(kp ⟨c,tok,lb,bd⟩ n k).getD false:=
  nh (f:=λk=>(c,k,tok,lb,bd)) h0 (λk _=>wV Ti BP (c,k,tok,lb,bd)) (λk hk=>⟨⟨z1,z2,z3⟩,hal k hk⟩) (λk hk y hy=>by
   have h1:kp ⟨c,tok,lb,bd⟩ n k=some y:=hy;rw[h1];rfl)
 split at hy0
 ·rename_i e;subst e;have hy1:=qjJ hy0;simp[h2, -Bool.forall_bool, -Bool.exists_bool];exact⟨⟨_,hf2⟩,λw hw=>hQ _ (by rw[hw _ hf2];exact hy1)⟩
 ·rename_i e7;have hy1:=qjJ hy0;simp[h2,e1,e2,e3,e4,e5,e6,e7, -Bool.forall_bool, -Bool.exists_bool];exact⟨⟨_,hf1⟩,λw hw=>hQ _ (by rw[hw _ hf1];exact hy1)⟩
def Wu(z:Int×Corpus):List D:=[enc z.1, .cptr (NJ z.2) 0]
def MN(z z':Int×Corpus)(h:Wu z=Wu z'):z=z':=by
 obtain⟨a,s⟩:=z;obtain⟨a',s'⟩:=z';unfold Wu at h;simp only[qke,D.cptr.injEq,and_true]at h;rw[bC h.1,NH h.2]
noncomputable abbrev qiC:fw (Int×Corpus):=aX Wu MN
def LS(c:Corpus)(b:Int):Bool:=decide (b < -1)||decide ((c.toks.length:Int)<=b)
noncomputable abbrev JB:Spc:=aZ qiC (λz=>VF z.2) (enc (X:=Bool)) λz y=>y=LS z.2 z.1
def Od:ax eb dU S qiC (λz=>VF z.2) (enc (X:=Bool)) λz y=>y=LS z.2 z.1:=by
 rintro⟨b,c⟩ ⟨z1,z2,z3⟩;simp only at z1 z2 z3;rw[uG];have hl:(c.toks.length:Int)<=9223372036854775807:=by omega
 by_cases e:b < -1
 ·simp[Wu,NJ,eb,dU,LS,e, -Bool.forall_bool, -Bool.exists_bool]
 ·simp[Wu,NJ,eb,dU,LS,e,hl, -Bool.forall_bool, -Bool.exists_bool]
def YB(z:HZ):Prop:=VF z.1/\Pz z.1.attrs z.2.2.2.1 z.2.1=true/\0<=z.2.2.1/\z.2.2.1 < z.1.toks.length/\z.2.2.2.2.length=z.2.2.2.1.length/\z.2.2.2.1.length<=1000/\(∀b∈z.2.2.2.2, -1<=b/\b < z.1.toks.length)/\∃y,kp (Pg z) 21 z.2.1=some y
abbrev Z3:Spc:=aZ aH YB (enc (X:=Bool)) (PB 21)
theorem Tv(h0:S0 bc=JB)(h1:S bv=Gu)(h2:S cw=JC Int S0)(h3:S cp=xZ 21):ax jc iP S aH YB (enc (X:=Bool)) (PB 21):=by
 rintro⟨c,x,tok,lb,bd⟩ ⟨⟨z1,z2,z3⟩,hok,t0,t1,hbl,hll,hb,y,hy⟩;simp only at z1 z2 z3 hok t0 t1 hbl hll hb;have hl:(c.toks.length:Int)<=9223372036854775807:=by omega
 have hl2:(lb.length:Int)<=9223372036854775807:=by omega
 have hp:Vt 21 (c,x,tok,lb,bd):=⟨⟨z1,z2,z3⟩,y,hy⟩
 have hf:FunOn S0 (.clo bc [.cptr (NJ c) 0]) bd (LS c):=
  nh (f:=λb=>(b,c)) h0 (λb _=>wV Wu MN (b,c)) (λ_ _=>⟨z1,z2,z3⟩) (λr _ y hy=>hy)
 have hno:bd.any (LS c)=false:=by
  rw[List.any_eq_false];intro b hbm;obtain⟨q1,q2⟩:=hb b hbm;have n1:¬b < -1:=by omega
  have n2:¬ (c.toks.length:Int)<=b:=by omega
  simp[LS,n1,n2]
 have n0:¬tok < 0:=by omega
 have n1:¬ (c.toks.length:Int)<=tok:=by omega
 simp[jc,iP,h1,h2,h3,hok,z3,hl,hl2,n0,n1,hbl,hp, -Bool.forall_bool, -Bool.exists_bool];exact⟨⟨hok,z3⟩,⟨_,hf⟩,λw hw e=>by rw[hw _ hf]at e;exact absurd (e.symm.trans hno) (by simp)⟩
def Jg(c:Corpus)(x:Cond)(k:Nat):List Int:=((List.range k).filter λi:Nat=>(kp ⟨c,(i:Int), [], []⟩ 21 (jz x)).getD false).map λi:Nat=>(i:Int)
def LF(c:Corpus)(x:Cond):List Int:=Jg c x c.toks.length
def Oq(c:Corpus)(x:Cond)(k:Nat):Jg c x (k+1)=Jg c x k++ (if(kp ⟨c,(k:Int), [], []⟩ 21 (jz x)).getD false=true then[(k:Int)]else[]):=by
 unfold Jg;rw[List.range_succ,qkZ,qkO];congr 1;simp only[List.filter];cases(kp ⟨c,(k:Int), [], []⟩ 21 (jz x)).getD false <;> rfl
def Qg(c:Corpus)(x:Cond)(k:Nat):(Jg c x k).length<=k:=by
 unfold Jg;rw[qka];exact qj8 (List.length_filter_le _ _) (by simp)
def K3(z:Corpus×Cond):Prop:=VF z.1/\cY z.2<=60/\bM z.2<=60/\Pz z.1.attrs [] (jz z.2)=true/\∀i:Nat,i < z.1.toks.length->∃y,kp ⟨z.1,(i:Int), [], []⟩ 21 (jz z.2)=some y
abbrev VP:Spc:=aZ (a2 Corpus Cond) K3 (sj (Y:=List Int) (Z:=Int)) λz y=>y=(LF z.1 z.2,0)
theorem PN(h1:S ga=Jw)(h2:S cn=M0)(h3:S bv=Gu)(h4:S cp=xZ 21):ax iz ic S (a2 Corpus Cond) K3 (sj (Y:=List Int) (Z:=Int)) λz y=>y=(LF z.1 z.2,0):=by
 rintro⟨c,x⟩ ⟨⟨z1,z2,z3⟩,hn,hd,hok,hall⟩;simp only at z1 z2 z3 hn hd hok hall;have hl:(c.toks.length:Int)<=9223372036854775807:=by omega
 have hlo:∃n,bM x<=n/\cY x<=60:=⟨_,qjL _,hn⟩
 simp[iz,ic,h1,h2,h3,hn,hd,hok,hlo,hl,z3, -Bool.forall_bool, -Bool.exists_bool];intro b;refine⟨⟨_,qjL _⟩,⟨hok,z3⟩,?_⟩;refine am (X:=Value×List Int) [2,3] [3] c.toks.length (λk z=>z.2=Jg c x k) (λz=>[(7, .own 33 z.1)]) (λz=>[(33, .row z.1 hU 1 (z.2.map enc))]) (.slice none 0 0, []) (by simp) (by simp) (by omega) (by simp) (by simp) (by simp[Jg]) (by simp) (by simp[isNilRow]) ?_ ?_
 ·rintro k ⟨v,l⟩ hk hl1;simp only at hl1;obtain⟨y,hy⟩:=hall k hk;have hp:Vt 21 (c,jz x,(k:Int), [], []):=⟨⟨z1,z2,z3⟩,y,hy⟩
  have hs:=Oq c x k;have hln:=Qg c x k;rw[<-hl1]at hs hln;have e0:(if(kp ⟨c,(k:Int), [], []⟩ 21 (jz x)).getD false=true then[(k:Int)]else[])=if y=true then[(k:Int)]else[]:=by rw[hy];rfl
  rw[e0]at hs;simp[hk,h4,hp, -Bool.forall_bool, -Bool.exists_bool];intro w hw;have hw:kp ⟨c,(k:Int), [], []⟩ 21 (jz x)=some w:=hw;rw[hy]at hw;cases hw;refine⟨λe=>⟨by omega,by omega,λv'=> .inl ?_⟩,λe=> .inl ?_⟩
  ·rw[hs,e];simp
  ·rw[hs,e];simp
 ·rintro⟨v,l⟩ hl1;simp only at hl1;simp[-Bool.forall_bool, -Bool.exists_bool];have e:LF c x=l:=hl1.symm;rw[e];exact jD hU rfl
end Go.Gv
namespace Go.Gv
open Go.Proofs
def oa:CC:=gq Tryz.f13 [] {} _
def nt:List ai:=[.tmp 0]
def C1:aq Tryz.prog pJ [] oa nt 36:=fo
def mA:CC:=gq Tryz.f36 [] {} _
def ma:List ai:=[.cell 0 true 7]
def Bo:aq Tryz.prog nQ [] mA ma 11:=fo
def mz:CC:=gq Tryz.f8 [] {} _
def lZ:List ai:=[.tmp 0]
def Bn:aq Tryz.prog nP [] mz lZ 2:=fo
def pi:CC:=gq Tryz.f16 [] {} _
def oV:List ai:=[.tmp 4]
def JH:aq Tryz.prog wG [] pi oV 26:=fo
def valsA:List B:=[⟨#[97]⟩,⟨#[98]⟩,⟨#[97,46,42]⟩,⟨#[91,97,98,93]⟩,⟨#[88]⟩,⟨#[]⟩,⟨#[99,63]⟩,⟨#[97,124,98]⟩,⟨#[89]⟩,⟨#[111,46,42]⟩,⟨#[78]⟩,⟨#[97,124,88]⟩]
def wordsA:List B:=[⟨#[97]⟩,⟨#[98]⟩,⟨#[99]⟩,⟨#[65]⟩,⟨#[97,98]⟩,⟨#[]⟩,⟨#[88]⟩,⟨#[89]⟩,⟨#[116,104,101]⟩,⟨#[111,108,100]⟩,⟨#[109,97,110]⟩,⟨#[68]⟩,⟨#[65]⟩,⟨#[78]⟩,⟨#[124]⟩,⟨#[124,112,124]⟩,⟨#[124,112,124,113,124]⟩,⟨#[124,113,124]⟩]
def ZM:Bool:=valsA.all λv=>wordsA.all λw=>(wz v w false).isSome && (wz v w true).isSome
def Uv:ZM=true:=by kernel_rfl
def Db{v w:B}(hv:v∈valsA)(hw:w∈wordsA)(f:Bool):∃y,wz v w f=some y:=by
 have h:=qjF.1 (qjF.1 Uv v hv) w hw;simp only[qjE]at h;cases f
 ·exact qkk.1 h.1
 ·exact qkk.1 h.2
open Cod (enc dec)
variable {S S0:Nat->Spc}
def UR{H0 H:aa}(hh:∀i,H0 i=none){d d':D}(h:FrzTo H0 d d'):FrzTo H d d':=by
 induction h with
 | same d=>exact .same d
 | any d=>exact .any d
 | nil n=>exact .nil n
 | own i j x=>exact .own i j x
 | nilown j=>exact .nilown j
 | bptr i j b off=>exact .bptr i j b off
 | row h _ _ _ _=>rw[hh]at h;cases h
 | sub h _ _ _ _=>rw[hh]at h;cases h
 | list hl hk _ ih=>exact .list hl hk ih
 | box h=>rw[hh]at h;cases h
 | agg hl _ ih=>exact .agg hl ih
 | tup hl _ ih=>exact .tup hl ih
 | clo hl _ ih=>exact .clo hl ih
 | nomp=>exact .nomp
 | mrow h _ _ _=>rw[hh]at h;cases h
 | mp hl _ ih=>exact .mp hl ih
def UQ{H:aa}{d d':D}(h:FrzTo cv d d'):FrzTo H d d':=UR (λ_=>rfl) h
def exC:Corpus:=⟨[⟨⟨#[119,111,114,100]⟩,false⟩,⟨⟨#[112,111,115]⟩,false⟩], [[⟨#[116,104,101]⟩,⟨#[68]⟩], [⟨#[111,108,100]⟩,⟨#[65]⟩], [⟨#[109,97,110]⟩,⟨#[78]⟩]], [⟨⟨#[116]⟩,0,3, []⟩], [], [], [], []⟩
abbrev VO:Spc:=aZ a0 (λ_=>True) (enc (X:=Corpus)) λ_ y=>y=exC
def Ch:ax mA ma S a0 (λ_=>True) (enc (X:=Corpus)) λ_ y=>y=exC:=by
 rintro⟨⟩ -;simp[mA,ma, -Bool.forall_bool, -Bool.exists_bool];intro b;refine dm exC ?_ rfl;have h:∀d,dec (X:=Corpus) d=some exC->∀H,FrzTo H d (enc exC):=λd hd H=>by
  have:=Cod.le (X:=Corpus) d exC hd;exact UQ this
 exact h _ (by simp[exC]) _
def U1:Cond:=⟨2,dF,dF,⟨#[111,46,42]⟩,dF,false, []⟩
def U0:Cond:=⟨8,dF,dF,dF,dF,false, [⟨4,⟨#[119,111,114,100]⟩,⟨#[119,111,114,100]⟩,dF,⟨#[97]⟩,false, []⟩,⟨2,⟨#[112,111,115]⟩,dF,⟨#[78]⟩,dF,false, []⟩]⟩
def qfm:LF exC U1=[1]:=by kernel_rfl
def qfl:LF exC U0=[0,1,2]:=by kernel_rfl
def qfD:(Pz exC.attrs [] (jz U1) && (List.range 3).all λi=>(kp ⟨exC,(i:Int), [], []⟩ 21 (jz U1)).isSome)=true:=by kernel_rfl
def qfC:(Pz exC.attrs [] (jz U0) && (List.range 3).all λi=>(kp ⟨exC,(i:Int), [], []⟩ 21 (jz U0)).isSome)=true:=by kernel_rfl
def qiO:VF exC:=⟨by decide,by decide,by decide⟩
def Qf{x:Cond}(h1:cY x<=60)(h2:bM x<=60)(h:(Pz exC.attrs [] (jz x) && (List.range 3).all λi=>(kp ⟨exC,(i:Int), [], []⟩ 21 (jz x)).isSome)=true):K3 (exC,x):=by
 simp only[qjE]at h;exact⟨qiO,h1,h2,h.1,λi hi=>qkk.1 (qjF.1 h.2 i (qk6.2 hi))⟩
def xU(a b:List Int):Bool:=decide (a=b)
abbrev QD:Spc:=aZ (a2 (List Int) (List Int)) (λx=>x.1.length<=100000/\x.2.length<=100000) (enc (X:=Bool)) λx y=>y=xU x.1 x.2
theorem Ld:ax pi oV S (a2 (List Int) (List Int)) (λx=>x.1.length<=100000/\x.2.length<=100000) (enc (X:=Bool)) λx y=>y=xU x.1 x.2:=by
 rintro⟨a,b⟩ ⟨la,lb⟩;simp only at la lb;have la':(a.length:Int)<=9223372036854775807:=by omega
 have lb':(b.length:Int)<=9223372036854775807:=by omega
 by_cases hl:a.length=b.length
 ·have hli:(a.length:Int)=b.length:=by omega
  simp[pi,oV,la',lb',hl,hli, -Bool.forall_bool, -Bool.exists_bool];refine am (X:=Unit) [0,1] [] b.length (λk _=>a.take k=b.take k) (λ_=>[]) (λ_=>[]) () (by simp) (by simp) (by omega) (by simp) (by simp) (by simp) (by simp) (by simp) ?_ ?_
  ·rintro k -hk hP;have hka:k < a.length:=by omega
   obtain⟨x,hx⟩:=cX hka;obtain⟨y,hy⟩:=cX hk;obtain⟨_,hgx⟩:=qjA.1 hx;obtain⟨_,hgy⟩:=qjA.1 hy;have hab:xU a b=decide (a=b):=rfl;by_cases hxy:x=y
   ·subst hxy;simp[hk,hka,hx,hy,hgx,hgy, -Bool.forall_bool, -Bool.exists_bool];rw[bi hx,bi hy,hP]
   ·have hne:xU a b=false:=by
     unfold xU;rw[decide_eq_false_iff_not];intro e;subst e;rw[hx]at hy;exact hxy (qjJ hy)
    simp[hk,hka,hx,hy,hgx,hgy,hxy,hne, -Bool.forall_bool, -Bool.exists_bool]
  ·rintro -hP;rw[<-hl,qkl,hl,qkl]at hP;have he:xU a b=true:=decide_eq_true hP;simp[he, -Bool.forall_bool, -Bool.exists_bool]
 ·have hli:¬ (a.length:Int)=b.length:=by omega
  have hne:xU a b=false:=by
   unfold xU;rw[decide_eq_false_iff_not];intro e;exact hl (by rw[e])
  simp[pi,oV,la',lb',hl,hli,hne, -Bool.forall_bool, -Bool.exists_bool]
abbrev E6:Spc:=aZ a0 (λ_=>True) (enc (X:=Bool)) λ_ y=>y=true
theorem Oa(h1:S nQ=VO)(h2:S iT=VP)(h3:S wG=QD):ax oa nt S a0 (λ_=>True) (enc (X:=Bool)) λ_ y=>y=true:=by
 rintro⟨⟩ -;have p1:K3 (exC,⟨2,⟨#[]⟩,⟨#[]⟩,⟨#[111,46,42]⟩,⟨#[]⟩,false, []⟩):=Qf (x:=U1) (by decide) (by decide) qfD;have p2:K3 (exC,⟨8,⟨#[]⟩,⟨#[]⟩,⟨#[]⟩,⟨#[]⟩,false, [⟨4,⟨#[119,111,114,100]⟩,⟨#[119,111,114,100]⟩,⟨#[]⟩,⟨#[97]⟩,false, []⟩,⟨2,⟨#[112,111,115]⟩,⟨#[]⟩,⟨#[78]⟩,⟨#[]⟩,false, []⟩]⟩):=Qf (x:=U0) (by decide) (by decide) qfC;have e1:LF exC ⟨2,⟨#[]⟩,⟨#[]⟩,⟨#[111,46,42]⟩,⟨#[]⟩,false, []⟩=[1]:=qfm;have e2:LF exC ⟨8,⟨#[]⟩,⟨#[]⟩,⟨#[]⟩,⟨#[]⟩,false, [⟨4,⟨#[119,111,114,100]⟩,⟨#[119,111,114,100]⟩,⟨#[]⟩,⟨#[97]⟩,false, []⟩,⟨2,⟨#[112,111,115]⟩,⟨#[]⟩,⟨#[78]⟩,⟨#[]⟩,false, []⟩]⟩=[0,1,2]:=qfl;simp[oa,nt,h1,h2,h3,p1,p2,e1,e2,xU, -Bool.forall_bool, -Bool.exists_bool]
def lbs2:List B:=[⟨#[120]⟩,⟨#[121]⟩]
abbrev Jo:Spc:=aZ a0 (λ_=>True) (enc (X:=List B)) λ_ y=>y=lbs2
def Cg:ax mz lZ S a0 (λ_=>True) (enc (X:=List B)) λ_ y=>y=lbs2:=by
 rintro⟨⟩ -;simp[mz,lZ,lbs2, -Bool.forall_bool, -Bool.exists_bool];exact dm _ (.same _) rfl
def OkCorp(c:Corpus):Prop:=c.attrs=dC/\1<=c.toks.length/\c.toks.length<=4096/\∀r∈c.toks,zg r
def OkCorp.sz{c:Corpus}(h:OkCorp c):VF c:=by
 obtain⟨h1,h2,h3,h4⟩:=h;refine⟨by omega,λr hr=>?_,by rw[h1];decide⟩;obtain⟨w,t,f,_,_,_,rfl⟩:=h4 r hr;simp
def KD:∀ {l:List un} {s e:Int},vy s l e->s<=e
 | [],s,e,h=>by have h:s=e:=h;omega
 | a::l,s,e,h=>by have:=KD h.2.2;have:=h.1;have:=h.2.1;omega
def Xf{c:Corpus}(h:K9 c)(hk:Ib c):OkCorp c:=by
 obtain⟨h1,h2,h3,_⟩:=h;refine⟨hk.1,?_,h3,hk.2⟩;cases hl:c.texts with
 | nil=>exact absurd hl h2
 | cons a l=>
   rw[hl]at h1;have:=KD h1.2.2;have:=h1.1;have:=h1.2.1;omega
end Go.Gv
namespace Go.Gv
def qix:B:=⟨#[115]⟩
def qb4:B:=⟨#[110,112]⟩
def qiw:B:=⟨#[116]⟩
def Types:List B:=[qix,qb4,qiw]

open Cod (enc dec)
structure ut where
 op:Int
 a:B
 b:B
 name:B
 arg:B
 val:B
 fold:Bool
 mn:Int
 mx:Int
 args:List B
 kids:List ut
mutual
def HI:ut->D
 | .mk p0 p1 p2 p3 p4 p5 p6 p7 p8 p9 ks=> .agg [enc p0,enc p1,enc p2,enc p3,enc p4,enc p5,enc p6,enc p7,enc p8,enc p9, .list 11 (tZ ks)]
def tZ:List ut->List D
 | []=>[]
 | k::ks=>HI k::tZ ks
end
mutual
def Pl:D->Option ut
 | .agg [x0,x1,x2,x3,x4,x5,x6,x7,x8,x9,x10]=>(dec x0).bind λp0=>(dec x1).bind λp1=>(dec x2).bind λp2=>(dec x3).bind λp3=>(dec x4).bind λp4=>(dec x5).bind λp5=>(dec x6).bind λp6=>(dec x7).bind λp7=>(dec x8).bind λp8=>(dec x9).bind λp9=>(FF x10).bind λks=>some (.mk p0 p1 p2 p3 p4 p5 p6 p7 p8 p9 ks)
 | _=>none
def FF:D->Option (List ut)
 | .list n es=>if n=11 then AU es else none
 | .v (.slice none 0 0)=>some []
 | _=>none
def AU:List D->Option (List ut)
 | []=>some []
 | d::ds=>(Pl d).bind λx=>(AU ds).bind λxs=>some (x::xs)
end
def Fz:∀l:List ut,tZ l=l.map HI
 | []=>rfl
 | _::l=>by rw[tZ,Fz l];rfl
def Ny:∀c:ut,(HI c).kn=true
 | .mk .. =>rfl
def Kn:∀c:ut,(HI c).cells.length=11
 | .mk .. =>rfl
mutual
def Kz:∀c:ut,Pl (HI c)=some c
 | .mk p0 p1 p2 p3 p4 p5 p6 p7 p8 p9 ks=>by
   have h:FF (.list 11 (tZ ks))=some ks:=by rw[FF,if_pos rfl];exact FE ks
   simp only[HI,Pl,Cod.dec_enc,qjV,h]
def FE:∀l:List ut,AU (tZ l)=some l
 | []=>by simp only[tZ,AU]
 | c::l=>by simp only[tZ,AU,Kz c,FE l,qjV]
end
mutual
def NE:∀ (d:D) (c:ut),Pl d=some c->FrzTo cv d (HI c)
 | .agg [x0,x1,x2,x3,x4,x5,x6,x7,x8,x9,x10],c,h=>by
   simp only[Pl,qjy,qjO]at h;obtain⟨p0,h0,p1,h1,p2,h2,p3,h3,p4,h4,p5,h5,p6,h6,p7,h7,p8,h8,p9,h9,ks,hk,rfl⟩:=h;rw[HI];exact LeL.agg (.cons (Cod.le _ _ h0) (.cons (Cod.le _ _ h1) (.cons (Cod.le _ _ h2) (.cons (Cod.le _ _ h3) (.cons (Cod.le _ _ h4) (.cons (Cod.le _ _ h5) (.cons (Cod.le _ _ h6) (.cons (Cod.le _ _ h7) (.cons (Cod.le _ _ h8) (.cons (Cod.le _ _ h9) ((.cons (Sj x10 ks hk) .nil))))))))))))
def Sj:∀ (d:D) (l:List ut),FF d=some l->FrzTo cv d (.list 11 (tZ l))
 | .list n es,l,h=>by
   simp only[FF]at h;split at h
   ·rename_i hn;subst hn;have hl:=Kx es l h;refine .list hl.1 (λe he=>?_) hl.2;rw[Fz]at he;obtain⟨x,hx,rfl⟩:=qjN.1 he;exact⟨Ny x,Kn x⟩
   ·cases h
 | .v (.slice none 0 0),l,h=>by
   simp only[FF,qjO]at h;subst h;exact .nil _
def Kx:∀ (es:List D) (l:List ut),AU es=some l->LeL es (tZ l)
 | [],l,h=>by
   simp only[AU,qjO]at h;subst h;exact .nil
 | d::ds,l,h=>by
   simp only[AU,qjy,qjO]at h;obtain⟨x,h1,xs,h2,rfl⟩:=h;rw[tZ];exact .cons (NE d x h1) (Kx ds xs h2)
end
instance:Cod ut where
 wd:=11
 enc:=HI
 dec:=Pl
 kn:=Ny
 wid:=Kn
 dec_enc:=Kz
 le:=NE
structure qiE where
 kind:Int
 text:B
 pos:Int
instance:Cod qiE where
 wd:=3
 enc t:= .agg [.v (.int .u8 t.kind),enc t.text,enc t.pos]
 dec| .agg [.v (.int .u8 k),x1,x2]=>(dec x1).bind λb=>(dec x2).bind λc=>some ⟨k,b,c⟩|_=>none
 kn _:=rfl
 wid _:=rfl
 dec_enc f:=by simp only[Cod.dec_enc,qjV]
 le d x h:=by
  split at h
  ·simp only[qjy,qjO]at h;obtain⟨b,h1,c,h2,rfl⟩:=h;exact LeL.agg (.cons (.same _) (.cons (Cod.le _ _ h1) (.cons (Cod.le _ _ h2) .nil)))
  ·cases h
structure Pst where
 l:List qiE
 pos:Int
 deep:Int
 e:Int
 fail:Int
def Pst.step(s:Pst):Pst:={ s with pos:=s.pos+1 }
def E0:B:=⟨#[]⟩
section
variable (A:Pst->Option (Pst×H6))
end

section
variable (N:Pst->Option (Pst×Cond))(O:Pst->Option (Pst×Cond))
end
section
variable (A:Pst->Option (Pst×H6))(O:Pst->Option (Pst×Cond))
end
section
variable (N:Pst->Option (Pst×ut))(O:Pst->Option (Pst×ut))
end

variable {S S0:Nat->Spc}

end Go.Gv
namespace Go.Gv

open Cod (enc dec)
variable {dq:Prop}
structure Wi where
 txt:B
 rv:Int
 kind:Int
 text:B
 pos:Int
section
variable {Y Z:Type}
variable {P:Program}{S:Nat->Spc}{f:Nat}{im:List Nat}{cc:CC}{rs:List ai}{N:Nat}
end
section
variable {Y Z:Type}
variable {P:Program}{S:Nat->Spc}{f:Nat}{im:List Nat}{cc:CC}{rs:List ai}{N:Nat}
end
end Go.Gv
namespace Go.Gv
section
variable (N:Wi->Option (Wi×Cond))(O:Wi->Option (Wi×Cond))
end
section
variable (A:Wi->Bool->Option (Wi×H6))(O:Wi->Option (Wi×Cond))
end
def vU:B:=⟨#[119,111,114,100]⟩
def AH:B:=⟨#[116,97,103]⟩
def vV:B:=⟨#[102,101,97,116]⟩
def ValsT:List B:=[⟨#[97]⟩,⟨#[98]⟩,⟨#[97,46,42]⟩,⟨#[91,97,98,93]⟩]
def ValsI:List B:=[⟨#[97]⟩,⟨#[98]⟩,⟨#[97,46,42]⟩,⟨#[91,97,98,93]⟩,⟨#[88]⟩,⟨#[]⟩,⟨#[99,63]⟩,⟨#[97,124,98]⟩,⟨#[89]⟩,⟨#[97,124,88]⟩]
def Attr2:List B:=[vU,AH]
def FeatL:List B:=[⟨#[112]⟩,⟨#[113]⟩]
def NumL:List B:=[⟨#[49]⟩,⟨#[50]⟩]
def VE:B:=⟨#[110]⟩
inductive GA (lb:List B):Cond->Prop
 | val (n v:B) (f:Bool) (h1:n∈Attr2) (h2:v∈ValsI):GA lb ⟨2,n,E0,v,E0,f, []⟩
 | feat (v:B) (h:v∈FeatL):GA lb ⟨3,vV,E0,v,E0,false, []⟩
 | same (n l a:B) (h1:n∈Attr2) (h2:l∈lb) (h3:a∈Attr2):GA lb ⟨4,n,a,E0,l,false, []⟩
 | reg (n:B) (h:n∈Types):GA lb ⟨5,n,E0,E0,E0,false, []⟩
 | regk (n v:B) (h1:n∈Types) (h2:v∈NumL):GA lb ⟨5,n,VE,v,E0,false, []⟩
inductive GI (lb:List B):Nat->Cond->Prop
 | atom (n:Nat) (c:Cond) (h:GA lb c):GI lb n c
 | not (n:Nat) (k:Cond) (h:GI lb n k):GI lb (n+1) ⟨6,E0,E0,E0,E0,false, [k]⟩
 | two (n:Nat) (op:Int) (a b:Cond) (ho:op=7\/op=8) (h1:GI lb n a) (h2:GI lb n b):GI lb (n+1) ⟨op,E0,E0,E0,E0,false, [a,b]⟩
inductive GC (lb:List B) (n:Nat):Cond->Prop
 | any:GC lb n ⟨1,E0,E0,E0,E0,false, []⟩
 | top (v:B) (f:Bool) (h:v∈ValsT):GC lb n ⟨2,E0,E0,v,E0,f, []⟩
 | inner (c:Cond) (h:GI lb n c):GC lb n c
def Ht{lb:List B}{c:Cond}(h:GA lb c):c.kids=[]:=by cases h <;> rfl
def Xz(l:List B)(x:B):Bool:=l.any λz=>decide (z=x)
def JZ(l:List B)(x:B):Xz l x=true↔x∈l:=by
 unfold Xz;rw[qko];exact⟨λ⟨z,h1,h2⟩=>by rw[decide_eq_true_eq]at h2;rwa [<-h2],λh=>⟨x,h,decide_eq_true rfl⟩⟩
instance decMem (l:List B) (x:B):Decidable (x∈l):=if h:Xz l x=true then .isTrue ((JZ l x).1 h)else .isFalse λhx=>h ((JZ l x).2 hx)
end Go.Gv
