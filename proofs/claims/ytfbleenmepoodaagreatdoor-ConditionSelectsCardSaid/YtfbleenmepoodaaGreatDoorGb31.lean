/- A part of the framework and of the walks: W157 W158 C60 V56 W161 W162 V4 V11 V6 V7 V8 V12 V13 W2 W31 V15 V16 T24 V18 V19. -/
import Derived.Test.YtfbleenmepoodaaGreatDoorGb30
set_option linter.unusedSimpArgs false
set_option linter.unusedVariables false
set_option linter.unusedSectionVars false
set_option linter.defProp false
set_option maxRecDepth 100000
set_option maxHeartbeats 0
namespace Go.Gv
open Cod (enc dec)
variable {S S0:Nat->Spc}
def featS:List B:=[⟨#[124]⟩,⟨#[124,112,124]⟩,⟨#[124,112,124,113,124]⟩,⟨#[124,113,124]⟩]
def Gj(s v:B):Option Bool:=if(featS.any λz=>decide (z=s))=true/\(v=⟨#[112]⟩\/v=⟨#[113]⟩)then some (s.data.toList.any λc=>decide (v.data.toList=[c]))else none
structure Gz where
 c:Corpus
 tok:Int
 lb:List B
 bd:List Int
def jN(E:Gz):Nat->Cond->Option Bool
 | 0=>λ_=>none
 | n+1=>λx=>
   if x.op=1 then some true else
   if x.op=2 then yj x.val (mi E.c.toks E.tok (lF E.c.attrs x.name)) x.fold else
   if x.op=3 then Gj (mi E.c.toks E.tok (dB E.c.attrs x.name)) x.val else
   if x.op=4 then(if ln E.lb (λz=>decide (z=x.lab)) < 0 then none else match E.bd[(ln E.lb λz=>decide (z=x.lab)).toNat]? with
    | some o=>some (decide (0<=o) && decide (mi E.c.toks E.tok (dB E.c.attrs x.name)=mi E.c.toks o (dB E.c.attrs x.arg)))
    | none=>none)else
   if x.op=5 then some (E.c.regs.any (qz x E.tok))else
   if x.op=6 then(match x.kids with|k::_=>(jN E n k).map not|[]=>none)else
   if(x.kids.all λk=>(jN E n k).isSome)=true then
    (if x.op=7 then some (!(x.kids.any λk=>!((jN E n k).getD false)))else some (x.kids.any λk=>(jN E n k).getD false))
   else none
def YG(c:Corpus):Prop:=c.toks.length<=100000/\(∀r∈c.toks,r.length<=100000)/\c.attrs.length<=1000
abbrev HZ:=Corpus×Cond×Int×List B×List Int
def Rs(z:HZ):Gz:=⟨z.1,z.2.2.1,z.2.2.2.1,z.2.2.2.2⟩
def Ys(n:Nat)(z:HZ):Prop:=YG z.1/\∃y,jN (Rs z) n z.2.1=some y
def RN(n:Nat)(z:HZ)(y:Bool):Prop:=jN (Rs z) n z.2.1=some y
abbrev aH:eZ HZ:=aE Corpus (a4 Cond Int (List B) (List Int))
abbrev zM(n:Nat):Spc:=aY aH (Ys n) (enc (X:=Bool)) (RN n)
def PV(c:Corpus):List D:=[.list 2 (c.attrs.map enc), .list 1 (c.toks.map enc), .list 4 (c.texts.map enc), .list 4 (c.regs.map enc), .list 4 (c.nodes.map enc), .list 1 (c.heads.map enc), .list 1 (c.rels.map enc)]
def PU(c:Corpus): .agg (PV c)=enc c:=by simp[PV]
def PS{x y:Corpus}(h:PV x=PV y):x=y:=bJ (by rw[<-PU,<-PU,h])
def UX(z:HZ):List D:=[.cptr (PV z.1) 0, .cptr [enc z.2.2.1] 0, .cptr [enc z.2.2.2.1] 0, .cptr [enc z.2.2.2.2] 0]
def VM(z:HZ):List D:=enc z.2.1::UX z
def qbd(z:HZ):List D:=[enc z.2.1, .cptr [.clo aF (UX z)] 0]
def Dj(z z':HZ)(h:VM z=VM z'):z=z':=by
 obtain⟨a,b,c,d,e⟩:=z;obtain⟨a',b',c',d',e'⟩:=z';unfold VM UX at h;simp only[qmR,D.cptr.injEq,and_true]at h;rw[bJ h.1,PS h.2.1,bJ h.2.2.1,bJ h.2.2.2.1,bJ h.2.2.2.2]
def OW(z z':HZ)(h:qbd z=qbd z'):z=z':=by
 unfold qbd at h;simp only[qmR,D.cptr.injEq,D.clo.injEq,and_true,true_and]at h;refine Dj z z' ?_;unfold VM;rw[h.1,h.2]
noncomputable abbrev aH1:eZ HZ:=aX VM Dj
noncomputable abbrev qle:eZ HZ:=aX qbd OW
noncomputable abbrev NF(n:Nat):Spc:=aY aH1 (Ys n) (enc (X:=Bool)) (RN n)
noncomputable abbrev SH(n:Nat):Spc:=aY qle (Ys n) (enc (X:=Bool)) λz y=>∃b,jN (Rs z) n z.2.1=some b/\y=!b
def Qq(n:Nat)(h1:S cF=zM n):av ip gQ S aH1 (Ys n) (enc (X:=Bool)) (RN n):=by
 rintro z hz;rw[wg];obtain⟨c,x,tok,lb,bd⟩:=z;simp[VM,UX,PV,ip,gQ,h1,hz, -Bool.forall_bool, -Bool.exists_bool]
@[simp] theorem qhb(c:Corpus)(x:Cond)(tok:Int)(lb:List B)(bd:List Int):aH1.dec [.agg [.v (.int .i64 x.op), .v (.string x.name), .v (.string x.arg), .v (.string x.val), .v (.string x.lab), .v (.bool x.fold), .list 7 (x.kids.map enc)], .cptr [.list 2 (c.attrs.map enc), .list 1 (c.toks.map enc), .list 4 (c.texts.map enc), .list 4 (c.regs.map enc), .list 4 (c.nodes.map enc), .list 1 (c.heads.map enc), .list 1 (c.rels.map enc)] 0, .cptr [.v (.int .i64 tok)] 0, .cptr [.list 1 (lb.map enc)] 0, .cptr [.list 1 (bd.map enc)] 0]=some (c,x,tok,lb,bd):=by
 have h:=yH VM Dj (c,x,tok,lb,bd);have e:VM (c,x,tok,lb,bd)=[.agg [.v (.int .i64 x.op), .v (.string x.name), .v (.string x.arg), .v (.string x.val), .v (.string x.lab), .v (.bool x.fold), .list 7 (x.kids.map enc)], .cptr [.list 2 (c.attrs.map enc), .list 1 (c.toks.map enc), .list 4 (c.texts.map enc), .list 4 (c.regs.map enc), .list 4 (c.nodes.map enc), .list 1 (c.heads.map enc), .list 1 (c.rels.map enc)] 0, .cptr [.v (.int .i64 tok)] 0, .cptr [.list 1 (lb.map enc)] 0, .cptr [.list 1 (bd.map enc)] 0]:=by simp[VM,UX,PV]
 rw[<-e];exact h
def Qp(n:Nat)(h1:S aF=NF n):av io gP S qle (Ys n) (enc (X:=Bool)) λz y=>∃b,jN (Rs z) n z.2.1=some b/\y=!b:=by
 rintro z hz;rw[wg];obtain⟨c,x,tok,lb,bd⟩:=z;simp[qbd,UX,PV,io,gP,h1,hz, -Bool.forall_bool, -Bool.exists_bool];exactλy hy=>hy
abbrev SI:Spc:=aY (a2 B B) (λx=>∃b,Gj x.1 x.2=some b) (enc (X:=Bool)) λx y=>Gj x.1 x.2=some y
set_option maxHeartbeats 4000000 in
theorem VX(n:Nat)(h0:S0 aF=NF n)(h0':S0 bS=SH n)(h1:S aF=NF n)(h2:S be=LE Cond S0)(h3:S gC=Eg)(h4:S kN=LB)(h5:S qI=O6)(h6:S bX=zN)(h7:S qH=SI)(h8:S cO=Iw)(h9:S jx=SM):
 av jF js S aH (Ys (n+1)) (enc (X:=Bool)) (RN (n+1)):=by
 rintro⟨c,x,tok,lb,bd⟩ ⟨⟨z1,z2,z3⟩,y,hy⟩;simp only at z1 z2 z3;have hy0:jN ⟨c,tok,lb,bd⟩ (n+1) x=some y:=hy;have hQ:∀w,w=y->RN (n+1) (c,x,tok,lb,bd) w:=λw e=>by subst e;exact hy
 clear hy;obtain⟨op,name,arg,val,lab,fold,ks⟩:=x;unfold jN at hy0;simp only at hy0;have hval:∀i k:Int,YG c:=λ_ _=>⟨z1,z2,z3⟩
 simp[jF,js, -Bool.forall_bool, -Bool.exists_bool];refine jO (X:=Unit) [5,6,7,8,9] [] [11] [] (λ_=>True) (λ_=>[(11, .cptr [.clo aF (UX (c,⟨op,name,arg,val,lab,fold,ks⟩,tok,lb,bd))] 0)]) (λ_=>[]) [] (λ_=>rfl) (by decide) ?_ ?_
 ·simp[UX,PV];exactλb=> .box rfl
 rintro - -;simp only[UX,PV];split at hy0
 ·rename_i e;subst e;obtain rfl:=qmk hy0;simp[-Bool.forall_bool, -Bool.exists_bool];exact hQ _ rfl
 rename_i e1;split at hy0
 ·rename_i e;subst e;have hM:Vy (val,mi c.toks tok (lF c.attrs name),fold):=⟨y,hy0⟩
  simp[h3,h4,h5,z1,z2,z3,hM, -Bool.forall_bool, -Bool.exists_bool];refine⟨z2,λw hw=>hQ _ (qmk (hw.symm.trans hy0))⟩
 rename_i e2;split at hy0
 ·rename_i e;subst e;have hM:∃b,Gj (mi c.toks tok (dB c.attrs name)) val=some b:=⟨y,hy0⟩
  simp[h6,h4,h7,z1,z2,z3,hM, -Bool.forall_bool, -Bool.exists_bool];refine⟨z2,λw hw=>hQ _ (qmk (hw.symm.trans hy0))⟩
 rename_i e3;split at hy0
 ·rename_i e;subst e;split at hy0
  ·cases hy0
  rename_i hj;obtain⟨j,hjj⟩:∃j,j=ln lb λz=>decide (z=lab):=⟨_,rfl⟩
  rw[<-hjj]at hj hy0;cases ho:bd[j.toNat]? with
  | none=>rw[ho]at hy0;cases hy0
  | some o=>
  rw[ho]at hy0;have hy1:(decide (0<=o) && decide (mi c.toks tok (dB c.attrs name)=mi c.toks o (dB c.attrs arg)))=y:=qmk hy0;have j0:0<=j:=by omega
  obtain⟨hjl,hgo⟩:=qmb.1 ho;have j1:j < (bd.length:Int):=by omega
  by_cases h0o:0<=o
  ·simp[h8,<-hjj,j0,j1,ho,hgo,h0o,h6,h4,z1,z2,z3, -Bool.forall_bool, -Bool.exists_bool];exact⟨⟨z2,hQ _ (by rw[<-hy1];simp[h0o])⟩,λh=>by omega⟩
  ·simp[h8,<-hjj,j0,j1,ho,hgo,h0o, -Bool.forall_bool, -Bool.exists_bool];exactλ_=>hQ _ (by rw[<-hy1];simp[h0o])
 rename_i e4;split at hy0
 ·rename_i e;subst e;have hy1:=qmk hy0;simp[h9, -Bool.forall_bool, -Bool.exists_bool];exact hQ _ hy1
 rename_i e5;split at hy0
 ·rename_i e;subst e;split at hy0
  ·rename_i k ks';obtain⟨b,hb,rfl⟩:=qmi.1 hy0;have hp:Ys n (c,k,tok,lb,bd):=⟨⟨z1,z2,z3⟩,b,hb⟩
   simp[h1,hp, -Bool.forall_bool, -Bool.exists_bool];intro w hw;have hw:jN ⟨c,tok,lb,bd⟩ n k=some w:=hw;rw[hb]at hw;cases hw;exact hQ _ rfl
  ·cases hy0
 rename_i e6;split at hy0
 rotate_left
 ·cases hy0
 rename_i hall;have hal:∀k∈ks,∃b,jN ⟨c,tok,lb,bd⟩ n k=some b:=λk hk=>qmZ.1 (qmg.1 hall k hk)
 have hf2:FunOn S0 (.clo bS [.cptr [.clo aF (UX (c,⟨op,name,arg,val,lab,fold,ks⟩,tok,lb,bd))] 0]) ks λk=>!((jN ⟨c,tok,lb,bd⟩ n k).getD false):=
  oj (f:=λk=>(c,k,tok,lb,bd)) h0' (λk _=>yH qbd OW (c,k,tok,lb,bd)) (λk hk=>⟨⟨z1,z2,z3⟩,hal k hk⟩) (λk hk y hy=>by
   obtain⟨b,h1,h2⟩:=hy;have h1:jN ⟨c,tok,lb,bd⟩ n k=some b:=h1;rw[h2,h1];rfl)
 have hf1:FunOn S0 (.clo aF (UX (c,⟨op,name,arg,val,lab,fold,ks⟩,tok,lb,bd))) ks λk=>(jN ⟨c,tok,lb,bd⟩ n k).getD false:=
  oj (f:=λk=>(c,k,tok,lb,bd)) h0 (λk _=>yH VM Dj (c,k,tok,lb,bd)) (λk hk=>⟨⟨z1,z2,z3⟩,hal k hk⟩) (λk hk y hy=>by
   have h1:jN ⟨c,tok,lb,bd⟩ n k=some y:=hy;rw[h1];rfl)
 split at hy0
 ·rename_i e;subst e;have hy1:=qmk hy0;simp[h2, -Bool.forall_bool, -Bool.exists_bool];exact⟨⟨_,hf2⟩,λw hw=>hQ _ (by rw[hw _ hf2];exact hy1)⟩
 ·rename_i e7;have hy1:=qmk hy0;simp[h2,e1,e2,e3,e4,e5,e6,e7, -Bool.forall_bool, -Bool.exists_bool];exact⟨⟨_,hf1⟩,λw hw=>hQ _ (by rw[hw _ hf1];exact hy1)⟩
def Zk(z:Int×Corpus):List D:=[enc z.1, .cptr (PV z.2) 0]
def OV(z z':Int×Corpus)(h:Zk z=Zk z'):z=z':=by
 obtain⟨a,s⟩:=z;obtain⟨a',s'⟩:=z';unfold Zk at h;simp only[qmR,D.cptr.injEq,and_true]at h;rw[bJ h.1,PS h.2]
noncomputable abbrev qld:eZ (Int×Corpus):=aX Zk OV
def NP(c:Corpus)(b:Int):Bool:=decide (b < -1)||decide ((c.toks.length:Int)<=b)
noncomputable abbrev LD:Spc:=aY qld (λz=>YG z.2) (enc (X:=Bool)) λz y=>y=NP z.2 z.1
def Qr:av ez ei S qld (λz=>YG z.2) (enc (X:=Bool)) λz y=>y=NP z.2 z.1:=by
 rintro⟨b,c⟩ ⟨z1,z2,z3⟩;simp only at z1 z2 z3;rw[wg];have hl:(c.toks.length:Int)<=9223372036854775807:=by omega
 by_cases e:b < -1
 ·simp[Zk,PV,ez,ei,NP,e, -Bool.forall_bool, -Bool.exists_bool]
 ·simp[Zk,PV,ez,ei,NP,e,hl, -Bool.forall_bool, -Bool.exists_bool]
def qaZ(z:HZ):Prop:=YG z.1/\QT z.1.attrs z.2.2.2.1 z.2.1=true/\0<=z.2.2.1/\z.2.2.1 < z.1.toks.length/\z.2.2.2.2.length=z.2.2.2.1.length/\z.2.2.2.1.length<=1000/\(∀b∈z.2.2.2.2, -1<=b/\b < z.1.toks.length)/\∃y,jN (Rs z) 21 z.2.1=some y
abbrev qcp:Spc:=aY aH qaZ (enc (X:=Bool)) (RN 21)
theorem Wb(h0:S0 bp=LD)(h1:S bD=Iz)(h2:S cK=LE Int S0)(h3:S cF=zM 21):av jH ju S aH qaZ (enc (X:=Bool)) (RN 21):=by
 rintro⟨c,x,tok,lb,bd⟩ ⟨⟨z1,z2,z3⟩,hok,t0,t1,hbl,hll,hb,y,hy⟩;simp only at z1 z2 z3 hok t0 t1 hbl hll hb;have hl:(c.toks.length:Int)<=9223372036854775807:=by omega
 have hl2:(lb.length:Int)<=9223372036854775807:=by omega
 have hp:Ys 21 (c,x,tok,lb,bd):=⟨⟨z1,z2,z3⟩,y,hy⟩
 have hf:FunOn S0 (.clo bp [.cptr (PV c) 0]) bd (NP c):=
  oj (f:=λb=>(b,c)) h0 (λb _=>yH Zk OV (b,c)) (λ_ _=>⟨z1,z2,z3⟩) (λr _ y hy=>hy)
 have hno:bd.any (NP c)=false:=by
  rw[List.any_eq_false];intro b hbm;obtain⟨q1,q2⟩:=hb b hbm;have n1:¬b < -1:=by omega
  have n2:¬ (c.toks.length:Int)<=b:=by omega
  simp[NP,n1,n2]
 have n0:¬tok < 0:=by omega
 have n1:¬ (c.toks.length:Int)<=tok:=by omega
 simp[jH,ju,h1,h2,h3,hok,z3,hl,hl2,n0,n1,hbl,hp, -Bool.forall_bool, -Bool.exists_bool];exact⟨⟨hok,z3⟩,⟨_,hf⟩,λw hw e=>by rw[hw _ hf]at e;exact absurd (e.symm.trans hno) (by simp)⟩
def F4(c:Corpus)(x:Cond)(k:Nat):List Int:=((List.range k).filter λi:Nat=>(jN ⟨c,(i:Int), [], []⟩ 21 (bG x)).getD false).map λi:Nat=>(i:Int)
def zH(c:Corpus)(x:Cond):List Int:=F4 c x c.toks.length
def GO(c:Corpus)(x:Cond)(k:Nat):F4 c x (k+1)=F4 c x k++ (if(jN ⟨c,(k:Int), [], []⟩ 21 (bG x)).getD false=true then[(k:Int)]else[]):=by
 unfold F4;rw[List.range_succ,qnA,qnp];congr 1;simp only[List.filter];cases(jN ⟨c,(k:Int), [], []⟩ 21 (bG x)).getD false <;> rfl
def Ea(c:Corpus)(x:Cond)(k:Nat):(F4 c x k).length<=k:=by
 unfold F4;rw[qmN];exact qmK (List.length_filter_le _ _) (by simp)
def HG(z:Corpus×Cond):Prop:=YG z.1/\aJ z.2<=60/\aA z.2<=60/\QT z.1.attrs [] (bG z.2)=true/\∀i:Nat,i < z.1.toks.length->∃y,jN ⟨z.1,(i:Int), [], []⟩ 21 (bG z.2)=some y
abbrev SQ:Spc:=aY (a2 Corpus Cond) HG (rN (Y:=List Int) (Z:=Int)) λz y=>y=(zH z.1 z.2,0)
theorem RW(h1:S du=zL)(h2:S bV=Iy)(h3:S bD=Iz)(h4:S cF=zM 21):av iV iH S (a2 Corpus Cond) HG (rN (Y:=List Int) (Z:=Int)) λz y=>y=(zH z.1 z.2,0):=by
 rintro⟨c,x⟩ ⟨⟨z1,z2,z3⟩,hn,hd,hok,hall⟩;simp only at z1 z2 z3 hn hd hok hall;have hl:(c.toks.length:Int)<=9223372036854775807:=by omega
 have hlo:∃n,aA x<=n/\aJ x<=60:=⟨_,qmm _,hn⟩
 simp[iV,iH,h1,h2,h3,hn,hd,hok,hlo,hl,z3, -Bool.forall_bool, -Bool.exists_bool];intro b;refine⟨⟨_,qmm _⟩,⟨hok,z3⟩,?_⟩;refine ak (X:=Value×List Int) [2,3] [3] c.toks.length (λk z=>z.2=F4 c x k) (λz=>[(7, .own 33 z.1)]) (λz=>[(33, .row z.1 fP 1 (z.2.map enc))]) (.slice none 0 0, []) (by simp) (by simp) (by omega) (by simp) (by simp) (by simp[F4]) (by simp) (by simp[isNilRow]) ?_ ?_
 ·rintro k ⟨v,l⟩ hk hl1;simp only at hl1;obtain⟨y,hy⟩:=hall k hk;have hp:Ys 21 (c,bG x,(k:Int), [], []):=⟨⟨z1,z2,z3⟩,y,hy⟩
  have hs:=GO c x k;have hln:=Ea c x k;rw[<-hl1]at hs hln;have e0:(if(jN ⟨c,(k:Int), [], []⟩ 21 (bG x)).getD false=true then[(k:Int)]else[])=if y=true then[(k:Int)]else[]:=by rw[hy];rfl
  rw[e0]at hs;simp[hk,h4,hp, -Bool.forall_bool, -Bool.exists_bool];intro w hw;have hw:jN ⟨c,(k:Int), [], []⟩ 21 (bG x)=some w:=hw;rw[hy]at hw;cases hw;refine⟨λe=>⟨by omega,by omega,λv'=> .inl ?_⟩,λe=> .inl ?_⟩
  ·rw[hs,e];simp
  ·rw[hs,e];simp
 ·rintro⟨v,l⟩ hl1;simp only at hl1;simp[-Bool.forall_bool, -Bool.exists_bool];have e:zH c x=l:=hl1.symm;rw[e];exact iM fP rfl
end Go.Gv
namespace Go.Gv
open Go.Proofs
def pz:CC:=gq Tryz.f13 [] {} _
def oz:List aj:=[.tmp 0]
def EC:aq Tryz.prog mg [] pz oz 36:=fo
def ny:CC:=gq Tryz.f36 [] {} _
def na:List aj:=[.cell 0 true 7]
def CT:aq Tryz.prog pj [] ny na 11:=fo
def nt:CC:=gq Tryz.f8 [] {} _
def mZ:List aj:=[.tmp 0]
def CS:aq Tryz.prog kI [] nt mZ 2:=fo
def qi:CC:=gq Tryz.f16 [] {} _
def qc:List aj:=[.tmp 4]
def LK:aq Tryz.prog sP [] qi qc 26:=fo
def valsA:List B:=[⟨#[97]⟩,⟨#[98]⟩,⟨#[97,46,42]⟩,⟨#[91,97,98,93]⟩,⟨#[88]⟩,⟨#[]⟩,⟨#[99,63]⟩,⟨#[97,124,98]⟩,⟨#[89]⟩,⟨#[111,46,42]⟩,⟨#[78]⟩,⟨#[97,124,88]⟩]
def wordsA:List B:=[⟨#[97]⟩,⟨#[98]⟩,⟨#[99]⟩,⟨#[65]⟩,⟨#[97,98]⟩,⟨#[]⟩,⟨#[88]⟩,⟨#[89]⟩,⟨#[116,104,101]⟩,⟨#[111,108,100]⟩,⟨#[109,97,110]⟩,⟨#[68]⟩,⟨#[65]⟩,⟨#[78]⟩,⟨#[124]⟩,⟨#[124,112,124]⟩,⟨#[124,112,124,113,124]⟩,⟨#[124,113,124]⟩]
def qb8:Bool:=valsA.all λv=>wordsA.all λw=>(yj v w false).isSome && (yj v w true).isSome
def Xe:qb8=true:=by kernel_rfl
def EM{v w:B}(hv:v∈valsA)(hw:w∈wordsA)(f:Bool):∃y,yj v w f=some y:=by
 have h:=qmg.1 (qmg.1 Xe v hv) w hw;simp only[qmf]at h;cases f
 ·exact qmZ.1 h.1
 ·exact qmZ.1 h.2
open Cod (enc dec)
variable {S S0:Nat->Spc}
def XD{H0 H:ab}(hh:∀i,H0 i=none){d d':D}(h:FrzTo H0 d d'):FrzTo H d d':=by
 induction h with
 | same d=>exact .same d
 | any d=>exact .any d
 | nil n=>exact .nil n
 | own i j x=>exact .own i j x
 | nilown j=>exact .nilown j
 | bptr i j b off=>exact .bptr i j b off
 | row h _ _ _ _=>rw[hh]at h;cases h
 | sub h _ _ _ _=>rw[hh]at h;cases h
 | list hl hk _ ih=>exact .list hl hk ih
 | box h=>rw[hh]at h;cases h
 | agg hl _ ih=>exact .agg hl ih
 | tup hl _ ih=>exact .tup hl ih
 | clo hl _ ih=>exact .clo hl ih
 | nomp=>exact .nomp
 | mrow h _ _ _=>rw[hh]at h;cases h
 | mp hl _ ih=>exact .mp hl ih
def XC{H:ab}{d d':D}(h:FrzTo cw d d'):FrzTo H d d':=XD (λ_=>rfl) h
def exC:Corpus:=⟨[⟨⟨#[119,111,114,100]⟩,false⟩,⟨⟨#[112,111,115]⟩,false⟩], [[⟨#[116,104,101]⟩,⟨#[68]⟩], [⟨#[111,108,100]⟩,⟨#[65]⟩], [⟨#[109,97,110]⟩,⟨#[78]⟩]], [⟨⟨#[116]⟩,0,3, []⟩], [], [], [], []⟩
abbrev YO:Spc:=aY a0 (λ_=>True) (enc (X:=Corpus)) λ_ y=>y=exC
def DQ:av ny na S a0 (λ_=>True) (enc (X:=Corpus)) λ_ y=>y=exC:=by
 rintro⟨⟩ -;simp[ny,na, -Bool.forall_bool, -Bool.exists_bool];intro b;refine cp exC ?_ rfl;have h:∀d,dec (X:=Corpus) d=some exC->∀H,FrzTo H d (enc exC):=λd hd H=>by
  have:=Cod.le (X:=Corpus) d exC hd;exact XC this
 exact h _ (by simp[exC]) _
def XO:Cond:=⟨2,dm,dm,⟨#[111,46,42]⟩,dm,false, []⟩
def XN:Cond:=⟨8,dm,dm,dm,dm,false, [⟨4,⟨#[119,111,114,100]⟩,⟨#[119,111,114,100]⟩,dm,⟨#[97]⟩,false, []⟩,⟨2,⟨#[112,111,115]⟩,dm,⟨#[78]⟩,dm,false, []⟩]⟩
def qhK:zH exC XO=[1]:=by kernel_rfl
def qhJ:zH exC XN=[0,1,2]:=by kernel_rfl
def qh2:(QT exC.attrs [] (bG XO) && (List.range 3).all λi=>(jN ⟨exC,(i:Int), [], []⟩ 21 (bG XO)).isSome)=true:=by kernel_rfl
def qh1:(QT exC.attrs [] (bG XN) && (List.range 3).all λi=>(jN ⟨exC,(i:Int), [], []⟩ 21 (bG XN)).isSome)=true:=by kernel_rfl
def qlp:YG exC:=⟨by decide,by decide,by decide⟩
def Sq{x:Cond}(h1:aJ x<=60)(h2:aA x<=60)(h:(QT exC.attrs [] (bG x) && (List.range 3).all λi=>(jN ⟨exC,(i:Int), [], []⟩ 21 (bG x)).isSome)=true):HG (exC,x):=by
 simp only[qmf]at h;exact⟨qlp,h1,h2,h.1,λi hi=>qmZ.1 (qmg.1 h.2 i (qnH.2 hi))⟩
def wN(a b:List Int):Bool:=decide (a=b)
abbrev NG:Spc:=aY (a2 (List Int) (List Int)) (λx=>x.1.length<=100000/\x.2.length<=100000) (enc (X:=Bool)) λx y=>y=wN x.1 x.2
theorem M9:av qi qc S (a2 (List Int) (List Int)) (λx=>x.1.length<=100000/\x.2.length<=100000) (enc (X:=Bool)) λx y=>y=wN x.1 x.2:=by
 rintro⟨a,b⟩ ⟨la,lb⟩;simp only at la lb;have la':(a.length:Int)<=9223372036854775807:=by omega
 have lb':(b.length:Int)<=9223372036854775807:=by omega
 by_cases hl:a.length=b.length
 ·have hli:(a.length:Int)=b.length:=by omega
  simp[qi,qc,la',lb',hl,hli, -Bool.forall_bool, -Bool.exists_bool];refine ak (X:=Unit) [0,1] [] b.length (λk _=>a.take k=b.take k) (λ_=>[]) (λ_=>[]) () (by simp) (by simp) (by omega) (by simp) (by simp) (by simp) (by simp) (by simp) ?_ ?_
  ·rintro k -hk hP;have hka:k < a.length:=by omega
   obtain⟨x,hx⟩:=bL hka;obtain⟨y,hy⟩:=bL hk;obtain⟨_,hgx⟩:=qmb.1 hx;obtain⟨_,hgy⟩:=qmb.1 hy;have hab:wN a b=decide (a=b):=rfl;by_cases hxy:x=y
   ·subst hxy;simp[hk,hka,hx,hy,hgx,hgy, -Bool.forall_bool, -Bool.exists_bool];rw[aK hx,aK hy,hP]
   ·have hne:wN a b=false:=by
     unfold wN;rw[decide_eq_false_iff_not];intro e;subst e;rw[hx]at hy;exact hxy (qmk hy)
    simp[hk,hka,hx,hy,hgx,hgy,hxy,hne, -Bool.forall_bool, -Bool.exists_bool]
  ·rintro -hP;rw[<-hl,qmJ,hl,qmJ]at hP;have he:wN a b=true:=decide_eq_true hP;simp[he, -Bool.forall_bool, -Bool.exists_bool]
 ·have hli:¬ (a.length:Int)=b.length:=by omega
  have hne:wN a b=false:=by
   unfold wN;rw[decide_eq_false_iff_not];intro e;exact hl (by rw[e])
  simp[qi,qc,la',lb',hl,hli,hne, -Bool.forall_bool, -Bool.exists_bool]
abbrev Bq:Spc:=aY a0 (λ_=>True) (enc (X:=Bool)) λ_ y=>y=true
theorem Qo(h1:S pj=YO)(h2:S fB=SQ)(h3:S sP=NG):av pz oz S a0 (λ_=>True) (enc (X:=Bool)) λ_ y=>y=true:=by
 rintro⟨⟩ -;have p1:HG (exC,⟨2,⟨#[]⟩,⟨#[]⟩,⟨#[111,46,42]⟩,⟨#[]⟩,false, []⟩):=Sq (x:=XO) (by decide) (by decide) qh2;have p2:HG (exC,⟨8,⟨#[]⟩,⟨#[]⟩,⟨#[]⟩,⟨#[]⟩,false, [⟨4,⟨#[119,111,114,100]⟩,⟨#[119,111,114,100]⟩,⟨#[]⟩,⟨#[97]⟩,false, []⟩,⟨2,⟨#[112,111,115]⟩,⟨#[]⟩,⟨#[78]⟩,⟨#[]⟩,false, []⟩]⟩):=Sq (x:=XN) (by decide) (by decide) qh1;have e1:zH exC ⟨2,⟨#[]⟩,⟨#[]⟩,⟨#[111,46,42]⟩,⟨#[]⟩,false, []⟩=[1]:=qhK;have e2:zH exC ⟨8,⟨#[]⟩,⟨#[]⟩,⟨#[]⟩,⟨#[]⟩,false, [⟨4,⟨#[119,111,114,100]⟩,⟨#[119,111,114,100]⟩,⟨#[]⟩,⟨#[97]⟩,false, []⟩,⟨2,⟨#[112,111,115]⟩,⟨#[]⟩,⟨#[78]⟩,⟨#[]⟩,false, []⟩]⟩=[0,1,2]:=qhJ;simp[pz,oz,h1,h2,h3,p1,p2,e1,e2,wN, -Bool.forall_bool, -Bool.exists_bool]
def lbs2:List B:=[⟨#[120]⟩,⟨#[121]⟩]
abbrev Ee:Spc:=aY a0 (λ_=>True) (enc (X:=List B)) λ_ y=>y=lbs2
def DP:av nt mZ S a0 (λ_=>True) (enc (X:=List B)) λ_ y=>y=lbs2:=by
 rintro⟨⟩ -;simp[nt,mZ,lbs2, -Bool.forall_bool, -Bool.exists_bool];exact cp _ (.same _) rfl
def OkCorp(c:Corpus):Prop:=c.attrs=dA/\1<=c.toks.length/\c.toks.length<=4096/\∀r∈c.toks,AO r
def OkCorp.sz{c:Corpus}(h:OkCorp c):YG c:=by
 obtain⟨h1,h2,h3,h4⟩:=h;refine⟨by omega,λr hr=>?_,by rw[h1];decide⟩;obtain⟨w,t,f,_,_,_,rfl⟩:=h4 r hr;simp
def MG:∀ {l:List vN} {s e:Int},wZ s l e->s<=e
 | [],s,e,h=>by have h:s=e:=h;omega
 | a::l,s,e,h=>by have:=MG h.2.2;have:=h.1;have:=h.2.1;omega
def Tq{c:Corpus}(h:M5 c)(hk:Ki c):OkCorp c:=by
 obtain⟨h1,h2,h3,_⟩:=h;refine⟨hk.1,?_,h3,hk.2⟩;cases hl:c.texts with
 | nil=>exact absurd hl h2
 | cons a l=>
   rw[hl]at h1;have:=MG h1.2.2;have:=h1.1;have:=h1.2.1;omega
end Go.Gv
namespace Go.Gv
def qk8:B:=⟨#[115]⟩
def qes:B:=⟨#[110,112]⟩
def qk7:B:=⟨#[116]⟩
def Types:List B:=[qk8,qes,qk7]

open Cod (enc dec)
structure vQ where
 op:Int
 a:B
 b:B
 name:B
 arg:B
 val:B
 fold:Bool
 mn:Int
 mx:Int
 args:List B
 kids:List vQ
mutual
def JP:vQ->D
 | .mk p0 p1 p2 p3 p4 p5 p6 p7 p8 p9 ks=> .agg [enc p0,enc p1,enc p2,enc p3,enc p4,enc p5,enc p6,enc p7,enc p8,enc p9, .list 11 (vx ks)]
def vx:List vQ->List D
 | []=>[]
 | k::ks=>JP k::vx ks
end
mutual
def Ry:D->Option vQ
 | .agg [x0,x1,x2,x3,x4,x5,x6,x7,x8,x9,x10]=>(dec x0).bind λp0=>(dec x1).bind λp1=>(dec x2).bind λp2=>(dec x3).bind λp3=>(dec x4).bind λp4=>(dec x5).bind λp5=>(dec x6).bind λp6=>(dec x7).bind λp7=>(dec x8).bind λp8=>(dec x9).bind λp9=>(Hv x10).bind λks=>some (.mk p0 p1 p2 p3 p4 p5 p6 p7 p8 p9 ks)
 | _=>none
def Hv:D->Option (List vQ)
 | .list n es=>if n=11 then Ck es else none
 | .v (.slice none 0 0)=>some []
 | _=>none
def Ck:List D->Option (List vQ)
 | []=>some []
 | d::ds=>(Ry d).bind λx=>(Ck ds).bind λxs=>some (x::xs)
end
def Ho:∀l:List vQ,vx l=l.map JP
 | []=>rfl
 | _::l=>by rw[vx,Ho l];rfl
def PJ:∀c:vQ,(JP c).kn=true
 | .mk .. =>rfl
def Mr:∀c:vQ,(JP c).cells.length=11
 | .mk .. =>rfl
mutual
def MC:∀c:vQ,Ry (JP c)=some c
 | .mk p0 p1 p2 p3 p4 p5 p6 p7 p8 p9 ks=>by
   have h:Hv (.list 11 (vx ks))=some ks:=by rw[Hv,if_pos rfl];exact Hu ks
   simp only[JP,Ry,Cod.dec_enc,qmx,h]
def Hu:∀l:List vQ,Ck (vx l)=some l
 | []=>by simp only[vx,Ck]
 | c::l=>by simp only[vx,Ck,MC c,Hu l,qmx]
end
mutual
def PP:∀ (d:D) (c:vQ),Ry d=some c->FrzTo cw d (JP c)
 | .agg [x0,x1,x2,x3,x4,x5,x6,x7,x8,x9,x10],c,h=>by
   simp only[Ry,ql9,qmp]at h;obtain⟨p0,h0,p1,h1,p2,h2,p3,h3,p4,h4,p5,h5,p6,h6,p7,h7,p8,h8,p9,h9,ks,hk,rfl⟩:=h;rw[JP];exact LeL.agg (.cons (Cod.le _ _ h0) (.cons (Cod.le _ _ h1) (.cons (Cod.le _ _ h2) (.cons (Cod.le _ _ h3) (.cons (Cod.le _ _ h4) (.cons (Cod.le _ _ h5) (.cons (Cod.le _ _ h6) (.cons (Cod.le _ _ h7) (.cons (Cod.le _ _ h8) (.cons (Cod.le _ _ h9) ((.cons (UT x10 ks hk) .nil))))))))))))
def UT:∀ (d:D) (l:List vQ),Hv d=some l->FrzTo cw d (.list 11 (vx l))
 | .list n es,l,h=>by
   simp only[Hv]at h;split at h
   ·rename_i hn;subst hn;have hl:=MB es l h;refine .list hl.1 (λe he=>?_) hl.2;rw[Ho]at he;obtain⟨x,hx,rfl⟩:=qmo.1 he;exact⟨PJ x,Mr x⟩
   ·cases h
 | .v (.slice none 0 0),l,h=>by
   simp only[Hv,qmp]at h;subst h;exact .nil _
def MB:∀ (es:List D) (l:List vQ),Ck es=some l->LeL es (vx l)
 | [],l,h=>by
   simp only[Ck,qmp]at h;subst h;exact .nil
 | d::ds,l,h=>by
   simp only[Ck,ql9,qmp]at h;obtain⟨x,h1,xs,h2,rfl⟩:=h;rw[vx];exact .cons (PP d x h1) (MB ds xs h2)
end
instance:Cod vQ where
 wd:=11
 enc:=JP
 dec:=Ry
 kn:=PJ
 wid:=Mr
 dec_enc:=MC
 le:=PP
structure qlf where
 kind:Int
 text:B
 pos:Int
instance:Cod qlf where
 wd:=3
 enc t:= .agg [.v (.int .u8 t.kind),enc t.text,enc t.pos]
 dec| .agg [.v (.int .u8 k),x1,x2]=>(dec x1).bind λb=>(dec x2).bind λc=>some ⟨k,b,c⟩|_=>none
 kn _:=rfl
 wid _:=rfl
 dec_enc f:=by simp only[Cod.dec_enc,qmx]
 le d x h:=by
  split at h
  ·simp only[ql9,qmp]at h;obtain⟨b,h1,c,h2,rfl⟩:=h;exact LeL.agg (.cons (.same _) (.cons (Cod.le _ _ h1) (.cons (Cod.le _ _ h2) .nil)))
  ·cases h
structure Pst where
 l:List qlf
 pos:Int
 deep:Int
 e:Int
 fail:Int
def Pst.step(s:Pst):Pst:={ s with pos:=s.pos+1 }
def E0:B:=⟨#[]⟩
section
variable (A:Pst->Option (Pst×Kb))
end

section
variable (N:Pst->Option (Pst×Cond))(O:Pst->Option (Pst×Cond))
end
section
variable (A:Pst->Option (Pst×Kb))(O:Pst->Option (Pst×Cond))
end
section
variable (N:Pst->Option (Pst×vQ))(O:Pst->Option (Pst×vQ))
end

variable {S S0:Nat->Spc}

end Go.Gv
namespace Go.Gv

open Cod (enc dec)
variable {dq:Prop}
structure Y8 where
 txt:B
 sK:Int
 kind:Int
 text:B
 pos:Int
section
variable {Y Z:Type}
variable {P:Program}{S:Nat->Spc}{f:Nat}{im:List Nat}{cc:CC}{rs:List aj}{N:Nat}
end
section
variable {Y Z:Type}
variable {P:Program}{S:Nat->Spc}{f:Nat}{im:List Nat}{cc:CC}{rs:List aj}{N:Nat}
end
end Go.Gv
namespace Go.Gv
section
variable (N:Y8->Option (Y8×Cond))(O:Y8->Option (Y8×Cond))
end
section
variable (A:Y8->Bool->Option (Y8×Kb))(O:Y8->Option (Y8×Cond))
end
def xF:B:=⟨#[119,111,114,100]⟩
def B5:B:=⟨#[116,97,103]⟩
def xG:B:=⟨#[102,101,97,116]⟩
def ValsT:List B:=[⟨#[97]⟩,⟨#[98]⟩,⟨#[97,46,42]⟩,⟨#[91,97,98,93]⟩]
def ValsI:List B:=[⟨#[97]⟩,⟨#[98]⟩,⟨#[97,46,42]⟩,⟨#[91,97,98,93]⟩,⟨#[88]⟩,⟨#[]⟩,⟨#[99,63]⟩,⟨#[97,124,98]⟩,⟨#[89]⟩,⟨#[97,124,88]⟩]
def Attr2:List B:=[xF,B5]
def FeatL:List B:=[⟨#[112]⟩,⟨#[113]⟩]
def NumL:List B:=[⟨#[49]⟩,⟨#[50]⟩]
def YF:B:=⟨#[110]⟩
inductive GA (lb:List B):Cond->Prop
 | val (n v:B) (f:Bool) (h1:n∈Attr2) (h2:v∈ValsI):GA lb ⟨2,n,E0,v,E0,f, []⟩
 | feat (v:B) (h:v∈FeatL):GA lb ⟨3,xG,E0,v,E0,false, []⟩
 | same (n l a:B) (h1:n∈Attr2) (h2:l∈lb) (h3:a∈Attr2):GA lb ⟨4,n,a,E0,l,false, []⟩
 | reg (n:B) (h:n∈Types):GA lb ⟨5,n,E0,E0,E0,false, []⟩
 | regk (n v:B) (h1:n∈Types) (h2:v∈NumL):GA lb ⟨5,n,YF,v,E0,false, []⟩
inductive GI (lb:List B):Nat->Cond->Prop
 | atom (n:Nat) (c:Cond) (h:GA lb c):GI lb n c
 | not (n:Nat) (k:Cond) (h:GI lb n k):GI lb (n+1) ⟨6,E0,E0,E0,E0,false, [k]⟩
 | two (n:Nat) (op:Int) (a b:Cond) (ho:op=7\/op=8) (h1:GI lb n a) (h2:GI lb n b):GI lb (n+1) ⟨op,E0,E0,E0,E0,false, [a,b]⟩
inductive GC (lb:List B) (n:Nat):Cond->Prop
 | any:GC lb n ⟨1,E0,E0,E0,E0,false, []⟩
 | top (v:B) (f:Bool) (h:v∈ValsT):GC lb n ⟨2,E0,E0,v,E0,f, []⟩
 | inner (c:Cond) (h:GI lb n c):GC lb n c
def Aq{lb:List B}{c:Cond}(h:GA lb c):c.kids=[]:=by cases h <;> rfl
def Z8(l:List B)(x:B):Bool:=l.any λz=>decide (z=x)
def L5(l:List B)(x:B):Z8 l x=true↔x∈l:=by
 unfold Z8;rw[qmU];exact⟨λ⟨z,h1,h2⟩=>by rw[decide_eq_true_eq]at h2;rwa [<-h2],λh=>⟨x,h,decide_eq_true rfl⟩⟩
instance decMem (l:List B) (x:B):Decidable (x∈l):=if h:Z8 l x=true then .isTrue ((L5 l x).1 h)else .isFalse λhx=>h ((L5 l x).2 hx)
end Go.Gv
