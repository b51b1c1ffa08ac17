/- A part of the framework and of the walks: W142 W143 T34 W144 C56 W145 C58 W156. -/
import Derived.Test.YtfbleenmepoodaaGreatDoorGa29
set_option linter.unusedSimpArgs false
set_option linter.unusedVariables false
set_option linter.unusedSectionVars false
set_option linter.defProp false
set_option maxRecDepth 100000
set_option maxHeartbeats 0
namespace Go.Gv
open Cod (enc dec)
variable {S S0:Nat->Spc}
def qp{t:Tbk}(h:G7 t≠false):t.lvs.length<=1000/\t.fol.length<=1000:=by
 cases hb:G7 t with
 | true=>exact of_decide_eq_true hb
 | false=>exact absurd hb h
set_option maxHeartbeats 1000000 in
theorem Lh(n:Nat)(h1:S cg=CA n)(h2:S db=LG n)(h3:S cA=BS):AF bV bS S (a2 Rx Int) (enc (X:=Prt)) (wW (n+1)).o:=by
 rintro b v v' t ⟨y,m⟩ r hF;replace hF:Xc (wW n).b (wW n).o t ⟨y,m⟩=some r:=hF;unfold Xc at hF;simp only at hF;split at hF
 ·cases hF
 rename_i hok;have hok1:=qp λh=>hok (.inr (.inr h))
 have hm0:0<=m:=by have:¬m < 0:=λh=>hok (.inl h);omega
 have hm1:m<=100:=by have:¬100 < m:=λh=>hok (.inr (.inl h));omega
 obtain⟨hlv,hfo⟩:=hok1;have hlv':(t.lvs.length:Int)<=9223372036854775807:=by omega
 split at hF
 ·rename_i e;subst e;obtain rfl:=qjJ hF;simp[bV,bS,qk,kj,km,mX, -Bool.forall_bool, -Bool.exists_bool];intro b1;exact qt v v' t wx rfl rfl rfl rfl ⟨rfl,rfl⟩
 rename_i e0;obtain⟨q,hq,hF⟩:=qjy.1 hF;split at hF
 ·cases hF
 rename_i hok2;have hok3:=qp hok2;obtain⟨hlq,hfq⟩:=hok3;have hlq':(q.1.lvs.length:Int)<=9223372036854775807:=by omega
 split at hF
 ·rename_i e;obtain rfl:=qjJ hF;have e':(q.1.lvs.length:Int)=t.lvs.length:=by omega
  simp[bV,bS,qk,kj,km,mX,h1,hq,e0,hlv',hlq',e,e', -Bool.forall_bool, -Bool.exists_bool];intro b1 w w';exact qt w w' q.1 wx rfl rfl rfl rfl ⟨rfl,rfl⟩
 rename_i e;obtain⟨c,hc,hF⟩:=qjy.1 hF;obtain⟨l,hl,hF⟩:=qjH.1 hF;subst hF;have e':¬ (q.1.lvs.length:Int)=t.lvs.length:=by omega
 have hin:InR .i64 (m -1):=by simp only[InR];omega
 simp[bV,bS,qk,kj,km,mX,h1,h2,h3,hq,hc,hl,e0,hlv',hlq',e,e',hin, -Bool.forall_bool, -Bool.exists_bool];exactλb1 w w'=>qt w w' l.1 _ rfl rfl rfl rfl ⟨rfl,rfl⟩
def VR(b:Tbk->Rx->Option (Tbk×Prt))(o:Tbk->Rx×Int->Option (Tbk×Prt))(y:Rx)(mn mx:Int)(q:Tbk×Prt×Bool):Option (Tbk×Prt):=
 if q.2.2=true then some (q.1,wx)else
  if mx < 0/\mn=0 then(b q.1 y).bind λr=>(yv r.1 (r.2.last,r.2.first)).map λl=>(l.1, { r.2 with nul:=true })else
  if mn < mx then(o q.1 (y,mx -mn)).bind λr=>sr r.1 (q.2.1,r.2)else some (q.1,q.2.1)
set_option maxHeartbeats 2000000 in
theorem PI(n:Nat)(h1:S cg=CA n)(h2:S db=LG n)(h3:S cA=BS)(h4:S eq=Gt):AF fk eT S (a1 Rx) (enc (X:=Prt)) (wW (n+1)).r:=by
 rintro b v v' t ⟨op,mn,mx,rs,ks⟩ r hF;replace hF:QO (wW n).b (wW n).o t ⟨op,mn,mx,rs,ks⟩=some r:=hF;unfold QO at hF;simp only at hF;split at hF
 ·cases hF
 rename_i y ks';split at hF
 ·cases hF
 rename_i hrng;obtain⟨q,hq,hF⟩:=qjy.1 hF;have hF:VR (wW n).b (wW n).o y mn mx q=some r:=hF;have hm:mn=(mn.toNat:Int):=by omega
 generalize mn.toNat=m at hm hq;subst hm;have hm':(m:Int)<=9223372036854775807:=by omega
 have hpos:(0:Int) < ((y::ks').length:Int):=by simp
 simp[fk,eT,qk,kj,km,mX,hm', -Bool.forall_bool, -Bool.exists_bool];intro b4 b5;refine am (X:=Tbk×Prt×Value×Value) [0,3,4,5] [4] m (λk x=>(Z5 (wW n).b y mx (m -k) x.1 x.2.1).bind (VR (wW n).b (wW n).o y m mx)=some r) (λx=>[]) (λx=>[(0, .box b [.own 990 x.2.2.1, .v (.int .u64 x.1.fi.val), .v (.int .u64 x.1.la.val), .own 991 x.2.2.2, .v (.bool x.1.nul)]),(990, .row x.2.2.1 df 1 (x.1.lvs.map enc)),(991, .row x.2.2.2 dM 1 (x.1.fol.map enc)),(5, .box b5 [.v (.int .u64 x.2.1.first.val), .v (.int .u64 x.2.1.last.val), .v (.bool x.2.1.nul)])]) (t,wx,v,v') (by simp) (by simp) (by omega) (by simp) (by simp) (by simp[hq,hF]) (by simp) (by simp[wx]) ?_ ?_
 ·rintro k ⟨t,p,w,w'⟩ hk hx;rw[show m -k=(m - (k+1)) +1 by omega,Z5]at hx;simp only at hx;split at hx
  ·cases hx
  rename_i hok;obtain⟨hlv,hfo⟩:=qp hok;have hlv':(t.lvs.length:Int)<=9223372036854775807:=by omega
  cases hb:(wW n).b t y with
  | none=>rw[hb]at hx;cases hx
  | some c=>
  rw[hb,qjV]at hx;split at hx
  ·cases hx
  rename_i hok2;obtain⟨hlq,hfq⟩:=qp hok2;have hlq':(c.1.lvs.length:Int)<=9223372036854775807:=by omega
  split at hx
  ·rename_i e;have e':(c.1.lvs.length:Int)=t.lvs.length:=by omega
   simp[hk,h1,hb,hlv',hlq',e,e', -Bool.forall_bool, -Bool.exists_bool];have hx:some (c.1,wx)=some r:=hx;obtain rfl:=qjJ hx;exactλu u'=>qt u u' c.1 wx rfl rfl rfl rfl rfl
  rename_i e;have e':¬ (c.1.lvs.length:Int)=t.lvs.length:=by omega
  have hin:InR .i64 ((m:Int) -1):=by simp only[InR];omega
  by_cases hmx:mx < 0
  ·by_cases hkm:m - (k+1)=0
   ·rw[if_pos ⟨hmx,hkm⟩]at hx;have hkm':(k:Int)=m -1:=by omega
    cases hl:yv c.1 (c.2.last,c.2.first)with
    | none=>rw[hl]at hx;cases hx
    | some l=>
    rw[hl,qjV]at hx;cases hc:sr l.1 (p,c.2)with
    | none=>rw[hc]at hx;cases hx
    | some d=>
    rw[hc,qjV]at hx;simp[hk,h1,h3,h4,hb,hl,hc,hlv',hlq',e,e',hin,hmx,hkm', -Bool.forall_bool, -Bool.exists_bool];exactλu u'=>⟨d.1,d.2,hx,u,u', .inl ⟨rfl,rfl,rfl,rfl,rfl⟩, .inl ⟨rfl,rfl⟩, .inl ⟨rfl,rfl⟩, .inl ⟨rfl,rfl,rfl⟩⟩
   ·rw[if_neg (λh=>hkm h.2)]at hx;have hkm':¬ (k:Int)=m -1:=by omega
    rw[qjV]at hx;cases hc:sr c.1 (p,c.2)with
    | none=>rw[hc]at hx;cases hx
    | some d=>
    rw[hc,qjV]at hx;simp[hk,h1,h3,h4,hb,hc,hlv',hlq',e,e',hin,hmx,hkm', -Bool.forall_bool, -Bool.exists_bool];exactλu u'=>⟨d.1,d.2,hx,u,u', .inl ⟨rfl,rfl,rfl,rfl,rfl⟩, .inl ⟨rfl,rfl⟩, .inl ⟨rfl,rfl⟩, .inl ⟨rfl,rfl,rfl⟩⟩
  ·rw[if_neg (λh=>hmx h.1)]at hx;rw[qjV]at hx;cases hc:sr c.1 (p,c.2)with
   | none=>rw[hc]at hx;cases hx
   | some d=>
   rw[hc,qjV]at hx;simp[hk,h1,h3,h4,hb,hc,hlv',hlq',e,e',hmx, -Bool.forall_bool, -Bool.exists_bool];exactλu u'=>⟨d.1,d.2,hx,u,u', .inl ⟨rfl,rfl,rfl,rfl,rfl⟩, .inl ⟨rfl,rfl⟩, .inl ⟨rfl,rfl⟩, .inl ⟨rfl,rfl,rfl⟩⟩
 ·rintro⟨t,p,w,w'⟩ hx;simp only[qkV,Z5,qjV]at hx;have hx:(if mx < 0/\(m:Int)=0 then((wW n).b t y).bind λr=>(yv r.1 (r.2.last,r.2.first)).map λl=>(l.1, { r.2 with nul:=true })else
   if(m:Int) < mx then((wW n).o t (y,mx -m)).bind λr=>sr r.1 (p,r.2)else some (t,p))=some r:=hx
  by_cases hA:mx < 0/\(m:Int)=0
  ·rw[if_pos hA]at hx;obtain⟨hmx,hm0⟩:=hA;obtain⟨c,hb,hx⟩:=qjy.1 hx;obtain⟨l,hl,rfl⟩:=qjH.1 hx;have hm0':m=0:=by omega
   subst hm0';simp[h1,h4,hb,hl,hmx, -Bool.forall_bool, -Bool.exists_bool];exactλu u'=>qt u u' l.1 _ rfl rfl rfl rfl ⟨rfl,rfl⟩
  ·rw[if_neg hA]at hx;by_cases hB:(m:Int) < mx
   ·rw[if_pos hB]at hx;obtain⟨c,hb,hx⟩:=qjy.1 hx;have n0:¬mx < 0:=by omega
    have hin:InR .i64 (mx -m):=by simp only[InR];omega
    simp[h2,h3,hb,hx,n0,hB,hin, -Bool.forall_bool, -Bool.exists_bool];exactλu u'=>qt u u' r.1 r.2 rfl rfl rfl rfl rfl
   ·rw[if_neg hB]at hx;obtain rfl:=qjJ hx;by_cases hmx:mx < 0
    ·have hm0:¬ (m:Int)=0:=λh=>hA ⟨hmx,h⟩
     have hm0':¬m=0:=by omega
     simp[hmx,hm0,hm0',hB, -Bool.forall_bool, -Bool.exists_bool];exact qt w w' t p rfl rfl rfl rfl ⟨rfl,rfl⟩
    ·simp[hmx,hB, -Bool.forall_bool, -Bool.exists_bool];exact qt w w' t p rfl rfl rfl rfl ⟨rfl,rfl⟩
end Go.Gv
namespace Go.Gv
open Cod (enc dec)
def Mo(t:Tbk):D:= .cptr [enc t.lvs,enc t.fi,enc t.la,enc t.fol,enc t.nul] 0
def R6{t t':Tbk}(h:Mo t=Mo t'):t=t':=by
 obtain⟨a1,a2,a3,a4,a5⟩:=t;obtain⟨b1,b2,b3,b4,b5⟩:=t';unfold Mo at h;injection h with h1 h2;simp only[qke]at h1;obtain⟨h1,h2,h3,h4,h5,_⟩:=h1;have h1:=bC h1;have h2:=bC h2;have h3:=bC h3;have h4:=bC h4;have h5:=bC h5;subst h1;subst h2;subst h3;subst h4;subst h5;rfl
open Classical in
noncomputable instance:Cod Tbk where
 wd:=1
 enc:=Mo
 dec d:=if h:∃t,d=Mo t then some h.choose else none
 kn _:=rfl
 wid _:=rfl
 dec_enc t:=by
  have h:∃t',Mo t=Mo t':=⟨t,rfl⟩
  rw[dif_pos h];exact congrArg some (R6 h.choose_spec).symm
 le d x h:=by
  split at h
  ·rename_i h';cases h;rw[h'.choose_spec.symm];exact .same _
  ·cases h
@[simp] theorem qd6(t:Tbk):enc t= .cptr [enc t.lvs,enc t.fi,enc t.la,enc t.fol,enc t.nul] 0:=id rfl
@[simp] theorem qed(l:List (List Rng))(f a:Int)(fo:List U64)(n:Bool):dec (X:=Tbk) (.cptr [.list 1 (l.map enc), .v (.int .u64 f), .v (.int .u64 a), .list 1 (fo.map enc), .v (.bool n)] 0)=some ⟨l,⟨f⟩,⟨a⟩,fo,n⟩:=Cod.dec_enc (X:=Tbk) ⟨l,⟨f⟩,⟨a⟩,fo,n⟩
variable {S S0:Nat->Spc}
def Vu(n:Nat)(x:Rx):Prop:=(TL n x).isSome=true
def Yw(n:Nat)(x:Rx)(t:Tbk):Prop:=TL n x=some t
noncomputable abbrev VM(n:Nat):Spc:=aZ (a1 Rx) (Vu n) (enc (X:=Tbk)) (Yw n)
theorem qe7(n:Nat)(h1:S cg=CA n):ax rX qZ S (a1 Rx) (Vu n) (enc (X:=Tbk)) (Yw n):=by
 rintro x hx;obtain⟨t,ht⟩:=qkk.1 hx;obtain⟨q,hq,rfl⟩:=qjH.1 ht;have hq0:(wW n).b ⟨[],⟨0⟩,⟨0⟩, [],false⟩ x=some q:=hq;simp[rX,qZ, -Bool.forall_bool, -Bool.exists_bool];refine kW (X:=Nat) [1] [] [] [] (λ_=>True) (λb=>[(3, .bptr 6 b 0)]) (λb=>[(6, .box b [.own 990 (.slice none 0 0), .v (.int .u64 0), .v (.int .u64 0), .own 991 (.slice none 0 0), .v (.bool false)]),(990, .row (.slice none 0 0) df 1 []),(991, .row (.slice none 0 0) dM 1 [])]) [6,990,991] (λ_=>rfl) (by decide) ?_ ?_
 ·simp;refineλb=>⟨b, .same _, .inl ?_,by simp[isNilRow],by simp[isNilRow]⟩
  simp;exact⟨.nilown 990, .nilown 991⟩
 ·rintro b -;have e1:(Res.row (.slice none 0 0) df 1 []:Res)= .row (.slice none 0 0) df 1 (([]:List (List Rng)).map enc):=rfl;have e2:(Res.row (.slice none 0 0) dM 1 []:Res)= .row (.slice none 0 0) dM 1 (([]:List U64).map enc):=rfl;rw[e1,e2];simp[h1,hq0, -List.map_nil, -Bool.forall_bool, -Bool.exists_bool];simp[hq0, -Bool.forall_bool, -Bool.exists_bool];intro w w';refine kW (X:=Unit) [] [] [990,991] [] (λ_=>True) (λ_=>[(2, .bptr 6 b 0)]) (λ_=>[(6, .box b [enc q.1.lvs, .v (.int .u64 q.2.first.val), .v (.int .u64 q.2.last.val),enc q.1.fol, .v (.bool q.2.nul)])]) [6] (λ_=>rfl) (by decide) ?_ ?_
  ·simp;exact .inl ⟨jD (l:=q.1.lvs) df rfl,jD (l:=q.1.fol) dM rfl⟩
  ·rintro - -;simp;refine dm ⟨q.1.lvs,q.2.first,q.2.last,q.1.fol,q.2.nul⟩ ?_ ht;exact .box rfl
def SY(x:Tbk×U64×Bool):Prop:=x.1.fol.length<=100000
def SP(x:Tbk×U64×Bool)(y:U64):Prop:=y=tI x.1 x.2.1 x.2.2
noncomputable abbrev Qo:Spc:=aZ (a3 Tbk U64 Bool) SY (enc (X:=U64)) SP
theorem Tu:ax dZ dT S (a3 Tbk U64 Bool) SY (enc (X:=U64)) SP:=by
 rintro⟨⟨lv,fi,la,fo,nu⟩,set,beg⟩ hlen;have hlen:fo.length<=100000:=hlen;have hl:(fo.length:Int)<=9223372036854775807:=by omega
 cases beg
 ·simp[dZ,dT,hl, -Bool.forall_bool, -Bool.exists_bool];refine am (X:=U64) [1,18] [] fo.length (λk m=>VV set k (fo.drop k) m=VV set 0 fo ⟨0⟩) (λm=>[(7,enc m)]) (λx=>[]) ⟨0⟩ (by simp) (by simp) (by omega) (by simp) (by simp) (by simp) (by simp) (by simp) ?_ ?_
  ·rintro k m hk hm;obtain⟨f,hf⟩:∃f,fo[k]? =some f:=⟨_,qjC hk⟩
   obtain⟨_,hgf⟩:=qjA.1 hf;rw[Rb hf]at hm;simp[hk,hf,hgf, -Bool.forall_bool, -Bool.exists_bool];exact⟨λhb=>⟨Ul m f,by simpa [hb]using hm,rfl⟩,λhb=>⟨m,by simpa [hb]using hm,rfl⟩⟩
  ·rintro m hm;rw[qkD,VV]at hm;subst hm;simp[-Bool.forall_bool, -Bool.exists_bool];exact dm _ (.same _) rfl
 ·simp[dZ,dT,hl, -Bool.forall_bool, -Bool.exists_bool];exact dm _ (.same _) rfl
end Go.Gv
namespace Go.Gv
open Go.Proofs
def nT:CC:=gq Tryz.f113 [3] {} _
def nk:List ai:=[.tmp 6]
def CU:aq Tryz.prog lg [3] nT nk 88:=fo
def nV:CC:=gq Tryz.f85 [2] {} _
def nn:List ai:=[.tmp 4]
def CW:aq Tryz.prog pF [2] nV nn 8:=fo
def kO:CC:=gq Tryz.f115 [] {} _
def kB:List ai:=[.tmp 2]
def zY:aq Tryz.prog ct [] kO kB 5:=fo
def iV:CC:=gq Tryz.f84 [2] {} _
def iJ:List ai:=[.tmp 4]
def wg:aq Tryz.prog jG [2] iV iJ 8:=fo
def jR:CC:=gq Tryz.f114 [] {} _
def jj:List ai:=[.tmp 2]
def ye:aq Tryz.prog cb [] jR jj 43:=fo
open Cod (enc dec)
variable {S S0:Nat->Spc}
def aMt:fw (Rx×B×Bool):=⟨λds=>match ds with
 | [a,b, .clo f []]=>if f=ct then(dec a).bind λx=>(dec b).map λs=>(x,s,false)else if f=cb then(dec a).bind λx=>(dec b).map λs=>(x,s,true)else none
 | _=>none,λx=>[enc x.1,enc x.2.1, .clo (if x.2.2=true then cb else ct) []],λds x h=>by
 split at h
 ·rename_i a b f;split at h
  ·rename_i e;simp only[qjy,qjH]at h;obtain⟨x,hx,s,hs,rfl⟩:=h;subst e;exact .cons (Cod.le _ _ hx) (.cons (Cod.le _ _ hs) (.cons (.same _) .nil))
  ·split at h
   ·rename_i e;simp only[qjy,qjH]at h;obtain⟨x,hx,s,hs,rfl⟩:=h;subst e;exact .cons (Cod.le _ _ hx) (.cons (Cod.le _ _ hs) (.cons (.same _) .nil))
   ·cases h
 ·cases h⟩
@[simp] theorem qca(x:Rx)(s:B)(f:Bool):aMt.view (x,s,f)=[enc x,enc s, .clo (if f=true then cb else ct) []]:=id rfl
@[simp] theorem qcc(a b:D):aMt.dec [a,b, .clo ct []]=(dec a).bind λx=>(dec b).map λs=>(x,s,false):=id rfl
@[simp] theorem qcb(a b:D):aMt.dec [a,b, .clo cb []]=(dec a).bind λx=>(dec b).map λs=>(x,s,true):=id rfl
abbrev Ou:Spc:=aZ (a1 Rx) (λx=>vT 50 x=true) (enc (X:=Int)) λx y=>y=0
abbrev Qp:Spc:=aZ (a2 (List Rng) I32) (λ_=>True) (enc (X:=Bool)) λx y=>y=HM x.1 x.2.val
abbrev s_cpVal:Spc:=aZ (a1 B) (λs=>sd s=true/\s.size<=1000) (enc (X:=Bool)) λ_ y=>y=true
abbrev VN:Spc:=aZ (a1 I32) (λc=>0<=c.val/\c.val < 128) (enc (X:=List I32)) λc y=>y=Ll false c
abbrev VK:Spc:=aZ (a1 I32) (λc=>0<=c.val/\c.val < 128) (enc (X:=List I32)) λc y=>y=Ll true c
def Vs(x:Rx×B×Bool):Prop:=∃y,rq x.1 x.2.1 x.2.2=some y
def Yv(x:Rx×B×Bool)(y:Bool):Prop:=rq x.1 x.2.1 x.2.2=some y
abbrev Qq:Spc:=aZ aMt Vs (enc (X:=Bool)) Yv
def FL{s:B}(h:sd s=true){p:Nat}(hp:p < s.size):∃c:UInt8,s.data.toList[p]? =some c/\c.toNat < 128/\Utf8.decode s p=(c.toNat,1):=by
 have hl:p < s.data.toList.length:=by rw[qjT];exact hp
 refine⟨s.data.toList[p],qjC hl,?_,?_⟩
 ·have:=qjF.1 h _ (qkW hl);simpa using this
 ·have h1:(s[p]'hp).toNat < 128:=by
   have:=qjF.1 h _ (qkW hl);have h2:s.data[p].toNat < 128:=by simpa using this
   exact h2
  have:=Go.decode_ascii s p hp h1;rw[this];have:s[p]=s.data.toList[p]:=by
   rw[Array.getElem_toList];rfl
  rw[this]
set_option maxHeartbeats 2000000 in
theorem D8(h1:S gY=Ou)(h2:S jQ=s_cpVal)(h3:S tV=VM 50)(h4:S iu=Qo)(h5:S kK=Qp)(h6:S ct=VN)(h7:S cb=VK):
 ax nT nk S aMt Vs (enc (X:=Bool)) Yv:=by
 rintro⟨x,s,f⟩ ⟨y,hy⟩;have hy0:rq x s f=some y:=hy;unfold rq at hy0;split at hy0
 rotate_left
 ·cases hy0
 rename_i hc;obtain⟨hv,ha,hsz⟩:=hc;obtain⟨t,ht,hy1⟩:=qjy.1 hy0;split at hy1
 rotate_left
 ·cases hy1
 rename_i hok;have hres:qap t (Ll f) (Vf s.data.toList) ⟨0⟩ true=y:=qjJ hy1;obtain⟨hlv,hfo⟩:=qp (t:=t) (by rw[hok];simp);have hOf:Yw 50 x t:=ht;have hPOf:Vu 50 x:=by unfold Vu;rw[ht];rfl
 simp[nT,nk,h1,h2,h3,hv,ha,hsz,hPOf, -Bool.forall_bool, -Bool.exists_bool];intro t' ht' b;obtain rfl:t=t':=by
  have h:TL 50 x=some t':=ht';rw[ht]at h;exact qjJ h
 refine aL (X:=U64×Bool×Nat) [2,7,28] [] (λz=>qap t (Ll f) (Vf (s.data.toList.drop z.2.2)) z.1 z.2.1=y/\z.2.2<=s.size) (λz=>[(8,enc z.1),(9,enc z.2.1)]) (λz=>[(28, .iter b s z.2.2)]) (λz=>s.size -z.2.2) (⟨0⟩,true,0) ⟨by simpa using hres,qj5 _⟩ (by simp) (by simp) ?_;rintro⟨set,beg,pos⟩ ⟨hm,hp⟩;simp only at hm hp;by_cases hlt:pos < s.size
 ·obtain⟨c,hc,hc128,hdec⟩:=FL ha hlt;rw[nR hc]at hm;have hm:(if(TG (tI t set beg) t.lvs (Ll f ⟨(c.toNat:Int)⟩) ⟨0⟩).val=0 then false else qap t (Ll f) (Vf (s.data.toList.drop (pos+1))) (TG (tI t set beg) t.lvs (Ll f ⟨(c.toNat:Int)⟩) ⟨0⟩) false)=y:=hm;have hN:SY (t,set,beg):=by show t.fol.length<=100000;omega
  have hq:SP (t,set,beg) (tI t set beg):=rfl;have c0:(0:Int)<=(c.toNat:Int):=by omega
  have c1:(c.toNat:Int) < 128:=by omega
  have hvl:((Ll f ⟨(c.toNat:Int)⟩).length:Int)<=9223372036854775807:=by
   have:(Ll f ⟨(c.toNat:Int)⟩).length<=3:=by
    unfold Ll;split
    ·unfold Dn;exact qj8 (List.length_filter_le _ _) (by simp)
    ·simp
   omega
  have h8:S (if f=true then cb else ct)=aZ (a1 I32) (λc=>0<=c.val/\c.val < 128) (enc (X:=List I32)) λc y=>y=Ll f c:=by
   cases f
   ·exact h6
   ·exact h7
  simp[hlt,hdec,h4,hN,h8,c0,c1,hvl, -Bool.forall_bool, -Bool.exists_bool];intro nx hnx;obtain rfl:nx=tI t set beg:=hnx;generalize tI t set beg=nx at hm;generalize Ll f ⟨(c.toNat:Int)⟩=vs at hm hvl;refine am (X:=U64) [2,7,9,12,28,38] [28] vs.length (λk m=>TG nx t.lvs (vs.drop k) m=TG nx t.lvs vs ⟨0⟩) (λm=>[(8,enc m)]) (λ_=>[]) ⟨0⟩ (by simp) (by simp) (by omega) (by simp) (by simp) (by simp) (by simp) (by simp) ?_ ?_
  ·rintro k m hk hm2;obtain⟨v,hvk⟩:=HV hk;obtain⟨_,hgv⟩:=qjA.1 hvk;rw[nR hvk,TG]at hm2;have hlv':(t.lvs.length:Int)<=9223372036854775807:=by omega
   simp[hk,hvk,hgv,hlv', -Bool.forall_bool, -Bool.exists_bool];refine am (X:=U64) [2,7,9,12,14,28,38,39,40,47] [28] t.lvs.length (λk m'=>Y6 nx v k (t.lvs.drop k) m'=Y6 nx v 0 t.lvs m) (λm=>[(8,enc m)]) (λ_=>[]) m (by simp) (by simp) (by omega) (by simp) (by simp) (by simp) (by simp) (by simp) ?_ ?_
   ·rintro j m' hj hm3;obtain⟨lf,hlf⟩:=HV hj;obtain⟨_,hgl⟩:=qjA.1 hlf;rw[nR hlf,Y6]at hm3;simp[hj,hlf,hgl,h5, -Bool.forall_bool, -Bool.exists_bool];refine⟨λhb=>⟨λhc=>⟨_,by rw[if_pos (by simp[hb,hc])]at hm3;exact hm3,rfl⟩,λhc=>⟨m',by rw[if_neg (by simp[hc])]at hm3;exact hm3,rfl⟩⟩,λhb=>⟨m',by rw[if_neg (by simp[hb])]at hm3;exact hm3,rfl⟩⟩
   ·rintro m' hm3;rw[qkD,Y6]at hm3;subst hm3;simp[-Bool.forall_bool, -Bool.exists_bool];exact⟨_,hm2,rfl⟩
  ·rintro m hm2;rw[qkD,TG]at hm2;subst hm2;simp[-Bool.forall_bool, -Bool.exists_bool];refine⟨λh0=>?_,λh0=>?_⟩
   ·rw[if_pos h0]at hm;subst hm;exact hy
   ·rw[if_neg h0]at hm;exact⟨_,false,pos+1,⟨hm,by omega⟩,⟨⟨rfl,rfl⟩, .inl rfl⟩,by omega⟩
 ·have hpe:pos=s.size:=by omega
  subst hpe;rw[qk3 (by rw[qjT];exact qjL _)]at hm;have hm:((beg && t.nul)||decide (KX .u64 set.val t.la.val≠0))=y:=hm;simp[-Bool.forall_bool, -Bool.exists_bool];have hQ:∀w,w=y->Yv (x,s,f) w:=λw e=>by subst e;exact hy
  refine⟨λhb=>⟨λhn=>hQ _ ?_,λhn=>hQ _ ?_⟩,λhb=>hQ _ ?_⟩
  all_goals
   subst hb
   first|subst hn|skip
   rw[<-hm];simp[*]
def A6:ax kO kB S (a1 I32) (λc=>0<=c.val/\c.val < 128) (enc (X:=List I32)) λc y=>y=Ll false c:=by
 rintro⟨c⟩ ⟨c0,c1⟩;simp[kO,kB, -Bool.forall_bool, -Bool.exists_bool];exact dm [⟨c⟩] (by simp) rfl
def K4(f:Bool)(x:Rx×B):Prop:=∃y,rq x.1 x.2 f=some y
def SQ(f:Bool)(x:Rx×B)(y:Bool):Prop:=rq x.1 x.2 f=some y
abbrev M3(f:Bool):Spc:=aZ (a2 Rx B) (K4 f) (enc (X:=Bool)) (SQ f)
def Eb(h1:S lg=Qq):ax nV nn S (a2 Rx B) (K4 false) (enc (X:=Bool)) (SQ false):=by
 rintro⟨x,s⟩ hp;have hp':Vs (x,s,false):=hp;simp[nV,nn,h1,hp', -Bool.forall_bool, -Bool.exists_bool];exactλy hy=>hy
def xp(h1:S lg=Qq):ax iV iJ S (a2 Rx B) (K4 true) (enc (X:=Bool)) (SQ true):=by
 rintro⟨x,s⟩ hp;have hp':Vs (x,s,true):=hp;simp[iV,iJ,h1,hp', -Bool.forall_bool, -Bool.exists_bool];exactλy hy=>hy
end Go.Gv
namespace Go.Gv
open Go.Proofs
def kb:CC:=gq Tryz.f59 [] {} _
def js:List ai:=[.tmp 6]
def C6:aq Tryz.prog pN [] kb js 25:=fo
def ja:CC:=gq Tryz.f29 [9,8,7,6,5] { cu:=[1] } _
def iO:List ai:=[.tmp 10]
def wo:aq Tryz.prog cp [9,8,7,6,5] ja iO 102:=fo
def gS:CC:=gq Tryz.f58 [5] {} _
def gz:List ai:=[.tmp 6]
def tF:aq Tryz.prog aB [5] gS gz 13:=fo
def gQ:CC:=gq Tryz.f67 [2] {} _
def gy:List ai:=[.tmp 3]
def tE:aq Tryz.prog bJ [2] gQ gy 8:=fo
def jc:CC:=oX [oB 5 (.box EV true (oT 0)),oB 6 (.box ep true (oT 1)),oB 10 (.mv (.const ob))] [2,3,4,5,6] [] (.seq (oX [oD 11 7 6,oE 12 0 5,oC 13 1 12,oA 14 3,oZ 15 bv [oT 11,oT 13,oT 14],oB 16 (.eql true false [.int] (oT 15) (oN 0)),oA 17 16,oI 18 17 (.mv (oT 2)),oI 19 17 (.cmp .lss (oT 18) (oN 0)),
 oB 20 (.pick (oT 17) (.const (.bool true)) (oT 19)),oA 21 20,oI 22 21 (.mv (oT 2)),oI 23 21 (.faddr 1 (oT 5)),oI 24 21 (.load false 1 (oT 23)),oI 25 21 (.len (oT 24)),oI 26 21 (.cmp .geq (oT 22) (oT 25)),oB 27 (.pick (oT 21) (.const (.bool true)) (oT 26)),oA 28 27,oI 29 28 (.mv (oT 4)),oI 30 28 (.len (oT 29)),oI 31 28 (.mv (oT 3)),oI 32 28 (.len (oT 31)),
 oI 33 28 (.eql true false [.int] (oT 30) (oT 32)),oB 34 (.pick (oT 28) (.const (.bool true)) (oT 33))] [2,3,4,5,6,34] [] (.ite (oT 34) (oX [oB 10 (.mv (.const ob))] [10] [] (.ret)) (.skip))) (.keep [2,3,4,5,6] [] (.seq (oX [oA 35 4,oB 36 (.clo bc [oT 5]),oZ 37 cw [oT 35,oT 36]] [2,3,4,5,6,37] [] (.ite (oT 37) (oX [
 oB 10 (.mv (.const ob))] [10] [] (.ret)) (.skip))) (.keep [2,3,4,5,6] [] (oX [oD 38 7 5,oD 39 7 6,oA 40 2,oA 41 3,oA 42 4,oZ 43 cp [oT 38,oT 39,oT 40,oT 41,oT 42],oA 10 43] [10] [] (.ret))))))
def iP:List ai:=[.tmp 10]
def eb:CC:=oX [oB 3 (.mv (.const ob))] [0,1] [] (oX [oA 4 0,oB 5 (.cmp .lss (oT 4) (oN (-1))),oA 6 5,oI 7 6 (.mv (oT 0)),oI 8 6 (.faddr 1 (oT 1)),oI 9 6 (.load false 1 (oT 8)),oI 10 6 (.len (oT 9)),oI 11 6 (.cmp .geq (oT 7) (oT 10)),oB 12 (.pick (oT 6) (.const (.bool true)) (oT 11)),oA 3 12] [3] [] (.ret))
def dU:List ai:=[.tmp 3]
def iz:CC:=oX [oB 2 (.box EV true (oT 0)),oB 3 (.box ep false (oT 1)),oB 4 (.mv (.const on)),oB 5 (.mv (oN 0))] [2,3] [3] (.seq (oX [oD 9 7 3,oZ 10 ga [oT 9]] [2,3,10] [3] (.ite (oT 10) (oX [oB 4 (.mv (.const on)),oB 5 (.mv (oN 2))] [4,5] [33] (.ret)) (.skip))) (.keep [2,3] [3] (oX [oD 11 7 3,oZ 12 cn [oT 11],
 oF 7 3 12] [2,3] [3] (.seq (oX [oD 13 7 3,oE 14 0 2,oC 15 1 14,oZ 16 bv [oT 13,oT 15,.const on],oA 6 16] [2,3,6] [3] (oX [oA 17 6,oB 18 (.eql true false [.int] (oT 17) (oN 0))] [2,3,6,18] [3] (.ite (oT 18) (oX [oA 19 6,oB 4 (.mv (.const on)),oA 5 19] [4,5] [33] (.ret)) (.skip)))) (.keep [2,3] [3] (oX [oB 7 (.mv (.const on))] [2,3,7] [3,33] (.seq (oX [oE 20 1 2,
 oC 21 1 20,oB 22 (.len (oT 21)),oB 23 (.mv (oN 0))] [2,3,7,22,23] [3,33] (kZ 0 23 22 24 1 (oX [oA 25 23,oA 8 25] [2,3,7,8,22,23] [3,33] (oX [oD 26 7 2,oD 27 7 3,oA 28 8,oZ 29 cp [oT 26,oT 27,oT 28,.const on,.const on]] [2,3,7,8,22,23,29] [3,33] (.ite (oT 29) (.reg [oA 30 7,oA 31 8,oB 32 (.bslice hU 1 [oT 31]),oB 33 (.append none hU 1 8 (oT 30) (oT 32)),
 oA 7 33]) (.skip)))) 34)) (.keep [7] [33] (oX [oA 35 7,oA 4 35,oB 5 (.mv (oN 0))] [4,5] [33] (.ret))))))))))
def ic:List ai:=[.tmp 4, .tmp 5]
def wu:aq Tryz.prog jP [6,5] jc iP 44:=fo
def tG:aq Tryz.prog bc [] eb dU 13:=fo
def vd:aq Tryz.prog iT [2] iz ic 36:=fo
open Cod (enc dec)
variable {S S0:Nat->Spc}
def wz(v s:B)(f:Bool):Option Bool:=(jv v).bind λx=>rq x s f
def SV(x:B×B×Bool):Prop:=∃y,wz x.1 x.2.1 x.2.2=some y
def Wl(x:B×B×Bool)(y:Bool):Prop:=wz x.1 x.2.1 x.2.2=some y
abbrev MY:Spc:=aZ (a3 B B Bool) SV (enc (X:=Bool)) Wl
def Ei(h1:S li=zT)(h2:S pF=M3 false)(h3:S jG=M3 true):ax kb js S (a3 B B Bool) SV (enc (X:=Bool)) Wl:=by
 rintro⟨v,s,f⟩ ⟨y,hy⟩;have hy:wz v s f=some y:=hy;obtain⟨x,hx,hm⟩:=qjy.1 hy;cases f
 ·have hp:K4 false (x,s):=⟨y,hm⟩
  simp[kb,js,h1,h2,hx,hp, -Bool.forall_bool, -Bool.exists_bool];exactλz hz=>by show(jv v).bind _=_;rw[hx];exact hz
 ·have hp:K4 true (x,s):=⟨y,hm⟩
  simp[kb,js,h1,h3,hx,hp, -Bool.forall_bool, -Bool.exists_bool];exactλz hz=>by show(jv v).bind _=_;rw[hx];exact hz
mutual
def jz:Cond->Cond| .mk op n a v l f ks=>if op=4\/op=6/\xV (.mk op n a v l f ks)=true then⟨1,dF,dF,dF,dF,false, []⟩else⟨op,n,a,v,l,f,JQ ks⟩
def JQ:List Cond->List Cond|[]=>[]|k::ks=>jz k::JQ ks
end
def Fl:∀l:List Cond,JQ l=l.map jz
 | []=>by rw[JQ];rfl
 | k::l=>by rw[JQ,Fl l];rfl
def Nf(x:Cond):jz x=if x.op=4\/x.op=6/\xV x=true then⟨1,dF,dF,dF,dF,false, []⟩else⟨x.op,x.name,x.arg,x.val,x.lab,x.fold,x.kids.map jz⟩:=by cases x;rw[jz,Fl]
abbrev Js:Spc:=aZ (a1 Cond) (λx=>∃n,bM x<=n) (enc (X:=Bool)) λx y=>y=xV x
abbrev Jv(n:Nat):Spc:=aZ (a1 Cond) (λx=>bM x<=n/\cY x<=60) (enc (X:=Cond)) λx y=>y=jz x
abbrev M0:Spc:=aZ (a1 Cond) (λx=>∃n,bM x<=n/\cY x<=60) (enc (X:=Cond)) λx y=>y=jz x
def J8{H:aa}{op:Int}{name arg val lab:B}{fold:Bool}{l:List Cond}{v:Value}(h:H 33=some (.row v ep 7 (l.map enc))):FrzTo H (.agg [.v (.int .i64 op), .v (.string name), .v (.string arg), .v (.string val), .v (.string lab), .v (.bool fold), .own 33 v]) (enc (Cond.mk op name arg val lab fold l)):=by
 simp;refine .agg rfl λk c c' h1 h2=>?_
 match k,h1,h2 with
 | 0,h1,h2|1,h1,h2|2,h1,h2|3,h1,h2|4,h1,h2|5,h1,h2=>cases h1;cases h2;exact .same _
 | 6,h1,h2=>cases h1;cases h2;exact jD ep h
 | k+7,h1,_=>simp at h1
def Fh:∀l:List Cond,l.length<=dy l
 | []=>by simp[dy]
 | k::l=>by
   have:=Fh l;have:=oW k;rw[dy,qkn];omega
set_option maxHeartbeats 1000000 in
theorem xu(n:Nat)(h1:S aW=Js)(h2:S cn=Jv n):ax cI cF S (a1 Cond) (λx=>bM x<=n+1/\cY x<=60) (enc (X:=Cond)) λx y=>y=jz x:=by
 rintro x ⟨hd,hn⟩;have hsm:∃n,bM x<=n:=⟨_,qjL _⟩
 have hany:∀H:aa,Fin (enc (X:=Cond)) (λy=>y=⟨1,dF,dF,dF,dF,false, []⟩) (D.agg [.v (.int .i64 1), .v (.string ⟨#[]⟩), .v (.string ⟨#[]⟩), .v (.string ⟨#[]⟩), .v (.string ⟨#[]⟩), .v (.bool false), .v (.slice none 0 0)]) H:=λH=>by
  refine dm ⟨1,dF,dF,dF,dF,false, []⟩ ?_ rfl;simp[dF];refine .agg rfl λk c c' h1 h2=>?_
  match k,h1,h2 with
  | 0,h1,h2|1,h1,h2|2,h1,h2|3,h1,h2|4,h1,h2|5,h1,h2=>cases h1;cases h2;exact .same _
  | 6,h1,h2=>cases h1;cases h2;exact .nil 7
  | k+7,h1,_=>simp at h1
 by_cases hc:x.op=4\/x.op=6/\xV x=true
 ·have hl:jz x=⟨1,dF,dF,dF,dF,false, []⟩:=by rw[Nf,if_pos hc]
  rcases hc with e|⟨e,e'⟩
  ·simp[cI,cF,h1,hsm,e,hl, -Bool.forall_bool, -Bool.exists_bool];exactλb=>hany _
  ·obtain⟨op,name,arg,val,lab,fold,ks⟩:=x;simp only at e;subst e;simp[cI,cF,h1,hsm,e',hl, -Bool.forall_bool, -Bool.exists_bool];exactλb=>hany _
 ·have hl:jz x=⟨x.op,x.name,x.arg,x.val,x.lab,x.fold,x.kids.map jz⟩:=by rw[Nf,if_neg hc]
  have e4:¬x.op=4:=λh=>hc (.inl h)
  obtain⟨op,name,arg,val,lab,fold,ks⟩:=x;simp only at hl e4;have hs:op=6->xV ⟨op,name,arg,val,lab,fold,ks⟩=false:=λh=>by
   cases hb:xV ⟨op,name,arg,val,lab,fold,ks⟩with
   | false=>rfl
   | true=>exact absurd (.inr ⟨h,hb⟩) hc
  have hkn:∀y∈ks,bM y<=n/\cY y<=60:=λy hy=>by
   have h1:=KR (p:=⟨op,name,arg,val,lab,fold,ks⟩) hy;have h2:=Af hy;have h3:=oW ⟨op,name,arg,val,lab,fold,ks⟩;simp only at h3;exact⟨by omega,by omega⟩
  have hks:ks.length<=60:=by
   have h3:=oW ⟨op,name,arg,val,lab,fold,ks⟩;simp only at h3;have:=Fh ks;omega
  by_cases e6:op=6
  ·subst e6;have hs':=hs rfl;simp[cI,cF,h1,hsm,hs',hl, -Bool.forall_bool, -Bool.exists_bool];intro b2 b3;refine kW (X:=Unit) [1,2] [2] [] [] (λ_=>True) (λ_=>[(3, .bptr 3 b3 0)]) (λ_=>[(3, .box b3 [.v (.int .i64 6), .v (.string name), .v (.string arg), .v (.string val), .v (.string lab), .v (.bool fold), .own 33 (.slice none 0 0)]),(33, .row (.slice none 0 0) ep 7 [])]) [3,33] (λ_=>rfl) (by decide) ?_ ?_
   ·simp;refine⟨.inl (.nilown 33),by simp[isNilRow]⟩
   rintro - -;simp[-Bool.forall_bool, -Bool.exists_bool];intro hkl;refine am (X:=Value×List Cond) [2,3,22] [2] ks.length (λk z=>z.2=(ks.take k).map jz/\z.2.length=k) (λz=>[]) (λz=>[(3, .box b3 [.v (.int .i64 6), .v (.string name), .v (.string arg), .v (.string val), .v (.string lab), .v (.bool fold), .own 33 z.1]),(33, .row z.1 ep 7 (z.2.map enc))]) (.slice none 0 0, []) (by simp) (by simp) (by omega) (by simp) (by simp) ⟨rfl,rfl⟩ (by simp) (by simp) ?_ ?_
   ·rintro k ⟨v,l⟩ hk ⟨hl1,hl2⟩;simp only at hl1 hl2;obtain⟨y,hy⟩:=cX hk;obtain⟨_,hgy⟩:=qjA.1 hy;obtain⟨q1,q2⟩:=hkn y (qjD hy);have hk60:ks.length<=60:=hks;simp[h2,hk,hy,hgy,q1,q2, -Bool.forall_bool, -Bool.exists_bool];refine⟨by omega,by omega,λv=>⟨v,l++ [jz y],⟨?_,by simp;omega⟩, .inl rfl, .inl ⟨rfl,by simp⟩⟩⟩;rw[hl1,<-List.map_take,bi hy];simp
   ·rintro⟨v,l⟩ ⟨hl1,hl2⟩;simp only at hl1 hl2;rw[qkl]at hl1;simp[-Bool.forall_bool, -Bool.exists_bool];exact dm _ (J8 rfl) (by rw[hl1])
  ·simp[cI,cF,h1,hsm,e4,e6,hl, -Bool.forall_bool, -Bool.exists_bool];intro b2 b3;refine kW (X:=Unit) [1,2] [2] [] [] (λ_=>True) (λ_=>[(3, .bptr 3 b3 0)]) (λ_=>[(3, .box b3 [.v (.int .i64 op), .v (.string name), .v (.string arg), .v (.string val), .v (.string lab), .v (.bool fold), .own 33 (.slice none 0 0)]),(33, .row (.slice none 0 0) ep 7 [])]) [3,33] (λ_=>rfl) (by decide) ?_ ?_
   ·simp;refine⟨.inl (.nilown 33),by simp[isNilRow]⟩
   rintro - -;simp[-Bool.forall_bool, -Bool.exists_bool];intro hkl;refine am (X:=Value×List Cond) [2,3,22] [2] ks.length (λk z=>z.2=(ks.take k).map jz/\z.2.length=k) (λz=>[]) (λz=>[(3, .box b3 [.v (.int .i64 op), .v (.string name), .v (.string arg), .v (.string val), .v (.string lab), .v (.bool fold), .own 33 z.1]),(33, .row z.1 ep 7 (z.2.map enc))]) (.slice none 0 0, []) (by simp) (by simp) (by omega) (by simp) (by simp) ⟨rfl,rfl⟩ (by simp) (by simp) ?_ ?_
   ·rintro k ⟨v,l⟩ hk ⟨hl1,hl2⟩;simp only at hl1 hl2;obtain⟨y,hy⟩:=cX hk;obtain⟨_,hgy⟩:=qjA.1 hy;obtain⟨q1,q2⟩:=hkn y (qjD hy);have hk60:ks.length<=60:=hks;simp[h2,hk,hy,hgy,q1,q2, -Bool.forall_bool, -Bool.exists_bool];refine⟨by omega,by omega,λv=>⟨v,l++ [jz y],⟨?_,by simp;omega⟩, .inl rfl, .inl ⟨rfl,by simp⟩⟩⟩;rw[hl1,<-List.map_take,bi hy];simp
   ·rintro⟨v,l⟩ ⟨hl1,hl2⟩;simp only at hl1 hl2;rw[qkl]at hl1;simp[-Bool.forall_bool, -Bool.exists_bool];exact dm _ (J8 rfl) (by rw[hl1])
end Go.Gv
