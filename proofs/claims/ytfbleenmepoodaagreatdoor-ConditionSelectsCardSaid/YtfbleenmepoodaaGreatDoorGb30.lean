/- A part of the framework and of the walks: W142 W143 T34 W144 C56 W145 C58 W156. -/
import Derived.Test.YtfbleenmepoodaaGreatDoorGb29
set_option linter.unusedSimpArgs false
set_option linter.unusedVariables false
set_option linter.unusedSectionVars false
set_option linter.defProp false
set_option maxRecDepth 100000
set_option maxHeartbeats 0
namespace Go.Gv
open Cod (enc dec)
variable {S S0:Nat->Spc}
def rp{t:Tbk}(h:Jg t≠false):t.lvs.length<=1000/\t.fol.length<=1000:=by
 cases hb:Jg t with
 | true=>exact of_decide_eq_true hb
 | false=>exact absurd hb h
set_option maxHeartbeats 1000000 in
theorem Nd(n:Nat)(h1:S cA=Eb n)(h2:S dt=ND n)(h3:S cP=Dq):B3 cg ca S (a2 Rx Int) (enc (X:=Prt)) (yJ (n+1)).o:=by
 rintro b v v' t ⟨y,m⟩ r hF;replace hF:ZR (yJ n).b (yJ n).o t ⟨y,m⟩=some r:=hF;unfold ZR at hF;simp only at hF;split at hF
 ·cases hF
 rename_i hok;have hok1:=rp λh=>hok (.inr (.inr h))
 have hm0:0<=m:=by have:¬m < 0:=λh=>hok (.inl h);omega
 have hm1:m<=100:=by have:¬100 < m:=λh=>hok (.inr (.inl h));omega
 obtain⟨hlv,hfo⟩:=hok1;have hlv':(t.lvs.length:Int)<=9223372036854775807:=by omega
 split at hF
 ·rename_i e;subst e;obtain rfl:=qmk hF;simp[cg,ca,rh,lj,ll,nW, -Bool.forall_bool, -Bool.exists_bool];intro b1;exact rB v v' t yh rfl rfl rfl rfl ⟨rfl,rfl⟩
 rename_i e0;obtain⟨q,hq,hF⟩:=ql9.1 hF;split at hF
 ·cases hF
 rename_i hok2;have hok3:=rp hok2;obtain⟨hlq,hfq⟩:=hok3;have hlq':(q.1.lvs.length:Int)<=9223372036854775807:=by omega
 split at hF
 ·rename_i e;obtain rfl:=qmk hF;have e':(q.1.lvs.length:Int)=t.lvs.length:=by omega
  simp[cg,ca,rh,lj,ll,nW,h1,hq,e0,hlv',hlq',e,e', -Bool.forall_bool, -Bool.exists_bool];intro b1 w w';exact rB w w' q.1 yh rfl rfl rfl rfl ⟨rfl,rfl⟩
 rename_i e;obtain⟨c,hc,hF⟩:=ql9.1 hF;obtain⟨l,hl,hF⟩:=qmi.1 hF;subst hF;have e':¬ (q.1.lvs.length:Int)=t.lvs.length:=by omega
 have hin:InR .i64 (m -1):=by simp only[InR];omega
 simp[cg,ca,rh,lj,ll,nW,h1,h2,h3,hq,hc,hl,e0,hlv',hlq',e,e',hin, -Bool.forall_bool, -Bool.exists_bool];exactλb1 w w'=>rB w w' l.1 _ rfl rfl rfl rfl ⟨rfl,rfl⟩
def YP(b:Tbk->Rx->Option (Tbk×Prt))(o:Tbk->Rx×Int->Option (Tbk×Prt))(y:Rx)(mn mx:Int)(q:Tbk×Prt×Bool):Option (Tbk×Prt):=
 if q.2.2=true then some (q.1,yh)else
  if mx < 0/\mn=0 then(b q.1 y).bind λr=>(Ai r.1 (r.2.last,r.2.first)).map λl=>(l.1, { r.2 with nul:=true })else
  if mn < mx then(o q.1 (y,mx -mn)).bind λr=>tL r.1 (q.2.1,r.2)else some (q.1,q.2.1)
set_option maxHeartbeats 2000000 in
theorem RS(n:Nat)(h1:S cA=Eb n)(h2:S dt=ND n)(h3:S cP=Dq)(h4:S eJ=Iv):B3 fH fh S (a1 Rx) (enc (X:=Prt)) (yJ (n+1)).r:=by
 rintro b v v' t ⟨op,mn,mx,rs,ks⟩ r hF;replace hF:Td (yJ n).b (yJ n).o t ⟨op,mn,mx,rs,ks⟩=some r:=hF;unfold Td at hF;simp only at hF;split at hF
 ·cases hF
 rename_i y ks';split at hF
 ·cases hF
 rename_i hrng;obtain⟨q,hq,hF⟩:=ql9.1 hF;have hF:YP (yJ n).b (yJ n).o y mn mx q=some r:=hF;have hm:mn=(mn.toNat:Int):=by omega
 generalize mn.toNat=m at hm hq;subst hm;have hm':(m:Int)<=9223372036854775807:=by omega
 have hpos:(0:Int) < ((y::ks').length:Int):=by simp
 simp[fH,fh,rh,lj,ll,nW,hm', -Bool.forall_bool, -Bool.exists_bool];intro b4 b5;refine ak (X:=Tbk×Prt×Value×Value) [0,3,4,5] [4] m (λk x=>(qcr (yJ n).b y mx (m -k) x.1 x.2.1).bind (YP (yJ n).b (yJ n).o y m mx)=some r) (λx=>[]) (λx=>[(0, .box b [.own 990 x.2.2.1, .v (.int .u64 x.1.fi.val), .v (.int .u64 x.1.la.val), .own 991 x.2.2.2, .v (.bool x.1.nul)]),(990, .row x.2.2.1 dx 1 (x.1.lvs.map enc)),(991, .row x.2.2.2 dX 1 (x.1.fol.map enc)),(5, .box b5 [.v (.int .u64 x.2.1.first.val), .v (.int .u64 x.2.1.last.val), .v (.bool x.2.1.nul)])]) (t,yh,v,v') (by simp) (by simp) (by omega) (by simp) (by simp) (by simp[hq,hF]) (by simp) (by simp[yh]) ?_ ?_
 ·rintro k ⟨t,p,w,w'⟩ hk hx;rw[show m -k=(m - (k+1)) +1 by omega,qcr]at hx;simp only at hx;split at hx
  ·cases hx
  rename_i hok;obtain⟨hlv,hfo⟩:=rp hok;have hlv':(t.lvs.length:Int)<=9223372036854775807:=by omega
  cases hb:(yJ n).b t y with
  | none=>rw[hb]at hx;cases hx
  | some c=>
  rw[hb,qmx]at hx;split at hx
  ·cases hx
  rename_i hok2;obtain⟨hlq,hfq⟩:=rp hok2;have hlq':(c.1.lvs.length:Int)<=9223372036854775807:=by omega
  split at hx
  ·rename_i e;have e':(c.1.lvs.length:Int)=t.lvs.length:=by omega
   simp[hk,h1,hb,hlv',hlq',e,e', -Bool.forall_bool, -Bool.exists_bool];have hx:some (c.1,yh)=some r:=hx;obtain rfl:=qmk hx;exactλu u'=>rB u u' c.1 yh rfl rfl rfl rfl rfl
  rename_i e;have e':¬ (c.1.lvs.length:Int)=t.lvs.length:=by omega
  have hin:InR .i64 ((m:Int) -1):=by simp only[InR];omega
  by_cases hmx:mx < 0
  ·by_cases hkm:m - (k+1)=0
   ·rw[if_pos ⟨hmx,hkm⟩]at hx;have hkm':(k:Int)=m -1:=by omega
    cases hl:Ai c.1 (c.2.last,c.2.first)with
    | none=>rw[hl]at hx;cases hx
    | some l=>
    rw[hl,qmx]at hx;cases hc:tL l.1 (p,c.2)with
    | none=>rw[hc]at hx;cases hx
    | some d=>
    rw[hc,qmx]at hx;simp[hk,h1,h3,h4,hb,hl,hc,hlv',hlq',e,e',hin,hmx,hkm', -Bool.forall_bool, -Bool.exists_bool];exactλu u'=>⟨d.1,d.2,hx,u,u', .inl ⟨rfl,rfl,rfl,rfl,rfl⟩, .inl ⟨rfl,rfl⟩, .inl ⟨rfl,rfl⟩, .inl ⟨rfl,rfl,rfl⟩⟩
   ·rw[if_neg (λh=>hkm h.2)]at hx;have hkm':¬ (k:Int)=m -1:=by omega
    rw[qmx]at hx;cases hc:tL c.1 (p,c.2)with
    | none=>rw[hc]at hx;cases hx
    | some d=>
    rw[hc,qmx]at hx;simp[hk,h1,h3,h4,hb,hc,hlv',hlq',e,e',hin,hmx,hkm', -Bool.forall_bool, -Bool.exists_bool];exactλu u'=>⟨d.1,d.2,hx,u,u', .inl ⟨rfl,rfl,rfl,rfl,rfl⟩, .inl ⟨rfl,rfl⟩, .inl ⟨rfl,rfl⟩, .inl ⟨rfl,rfl,rfl⟩⟩
  ·rw[if_neg (λh=>hmx h.1)]at hx;rw[qmx]at hx;cases hc:tL c.1 (p,c.2)with
   | none=>rw[hc]at hx;cases hx
   | some d=>
   rw[hc,qmx]at hx;simp[hk,h1,h3,h4,hb,hc,hlv',hlq',e,e',hmx, -Bool.forall_bool, -Bool.exists_bool];exactλu u'=>⟨d.1,d.2,hx,u,u', .inl ⟨rfl,rfl,rfl,rfl,rfl⟩, .inl ⟨rfl,rfl⟩, .inl ⟨rfl,rfl⟩, .inl ⟨rfl,rfl,rfl⟩⟩
 ·rintro⟨t,p,w,w'⟩ hx;simp only[qnw,qcr,qmx]at hx;have hx:(if mx < 0/\(m:Int)=0 then((yJ n).b t y).bind λr=>(Ai r.1 (r.2.last,r.2.first)).map λl=>(l.1, { r.2 with nul:=true })else
   if(m:Int) < mx then((yJ n).o t (y,mx -m)).bind λr=>tL r.1 (p,r.2)else some (t,p))=some r:=hx
  by_cases hA:mx < 0/\(m:Int)=0
  ·rw[if_pos hA]at hx;obtain⟨hmx,hm0⟩:=hA;obtain⟨c,hb,hx⟩:=ql9.1 hx;obtain⟨l,hl,rfl⟩:=qmi.1 hx;have hm0':m=0:=by omega
   subst hm0';simp[h1,h4,hb,hl,hmx, -Bool.forall_bool, -Bool.exists_bool];exactλu u'=>rB u u' l.1 _ rfl rfl rfl rfl ⟨rfl,rfl⟩
  ·rw[if_neg hA]at hx;by_cases hB:(m:Int) < mx
   ·rw[if_pos hB]at hx;obtain⟨c,hb,hx⟩:=ql9.1 hx;have n0:¬mx < 0:=by omega
    have hin:InR .i64 (mx -m):=by simp only[InR];omega
    simp[h2,h3,hb,hx,n0,hB,hin, -Bool.forall_bool, -Bool.exists_bool];exactλu u'=>rB u u' r.1 r.2 rfl rfl rfl rfl rfl
   ·rw[if_neg hB]at hx;obtain rfl:=qmk hx;by_cases hmx:mx < 0
    ·have hm0:¬ (m:Int)=0:=λh=>hA ⟨hmx,h⟩
     have hm0':¬m=0:=by omega
     simp[hmx,hm0,hm0',hB, -Bool.forall_bool, -Bool.exists_bool];exact rB w w' t p rfl rfl rfl rfl ⟨rfl,rfl⟩
    ·simp[hmx,hB, -Bool.forall_bool, -Bool.exists_bool];exact rB w w' t p rfl rfl rfl rfl ⟨rfl,rfl⟩
end Go.Gv
namespace Go.Gv
open Cod (enc dec)
def On(t:Tbk):D:= .cptr [enc t.lvs,enc t.fi,enc t.la,enc t.fol,enc t.nul] 0
def UH{t t':Tbk}(h:On t=On t'):t=t':=by
 obtain⟨a1,a2,a3,a4,a5⟩:=t;obtain⟨b1,b2,b3,b4,b5⟩:=t';unfold On at h;injection h with h1 h2;simp only[qmR]at h1;obtain⟨h1,h2,h3,h4,h5,_⟩:=h1;have h1:=bJ h1;have h2:=bJ h2;have h3:=bJ h3;have h4:=bJ h4;have h5:=bJ h5;subst h1;subst h2;subst h3;subst h4;subst h5;rfl
open Classical in
noncomputable instance:Cod Tbk where
 wd:=1
 enc:=On
 dec d:=if h:∃t,d=On t then some h.choose else none
 kn _:=rfl
 wid _:=rfl
 dec_enc t:=by
  have h:∃t',On t=On t':=⟨t,rfl⟩
  rw[dif_pos h];exact congrArg some (UH h.choose_spec).symm
 le d x h:=by
  split at h
  ·rename_i h';cases h;rw[h'.choose_spec.symm];exact .same _
  ·cases h
@[simp] theorem qgu(t:Tbk):enc t= .cptr [enc t.lvs,enc t.fi,enc t.la,enc t.fol,enc t.nul] 0:=id rfl
@[simp] theorem qgB(l:List (List Rng))(f a:Int)(fo:List U64)(n:Bool):dec (X:=Tbk) (.cptr [.list 1 (l.map enc), .v (.int .u64 f), .v (.int .u64 a), .list 1 (fo.map enc), .v (.bool n)] 0)=some ⟨l,⟨f⟩,⟨a⟩,fo,n⟩:=Cod.dec_enc (X:=Tbk) ⟨l,⟨f⟩,⟨a⟩,fo,n⟩
variable {S S0:Nat->Spc}
def Yt(n:Nat)(x:Rx):Prop:=(Ws n x).isSome=true
def qaV(n:Nat)(x:Rx)(t:Tbk):Prop:=Ws n x=some t
noncomputable abbrev YM(n:Nat):Spc:=aY (a1 Rx) (Yt n) (enc (X:=Tbk)) (qaV n)
theorem qhv(n:Nat)(h1:S cA=Eb n):av tw sv S (a1 Rx) (Yt n) (enc (X:=Tbk)) (qaV n):=by
 rintro x hx;obtain⟨t,ht⟩:=qmZ.1 hx;obtain⟨q,hq,rfl⟩:=qmi.1 ht;have hq0:(yJ n).b ⟨[],⟨0⟩,⟨0⟩, [],false⟩ x=some q:=hq;simp[tw,sv, -Bool.forall_bool, -Bool.exists_bool];refine jO (X:=Nat) [1] [] [] [] (λ_=>True) (λb=>[(3, .bptr 6 b 0)]) (λb=>[(6, .box b [.own 990 (.slice none 0 0), .v (.int .u64 0), .v (.int .u64 0), .own 991 (.slice none 0 0), .v (.bool false)]),(990, .row (.slice none 0 0) dx 1 []),(991, .row (.slice none 0 0) dX 1 [])]) [6,990,991] (λ_=>rfl) (by decide) ?_ ?_
 ·simp;refineλb=>⟨b, .same _, .inl ?_,by simp[isNilRow],by simp[isNilRow]⟩
  simp;exact⟨.nilown 990, .nilown 991⟩
 ·rintro b -;have e1:(Res.row (.slice none 0 0) dx 1 []:Res)= .row (.slice none 0 0) dx 1 (([]:List (List Rng)).map enc):=rfl;have e2:(Res.row (.slice none 0 0) dX 1 []:Res)= .row (.slice none 0 0) dX 1 (([]:List U64).map enc):=rfl;rw[e1,e2];simp[h1,hq0, -List.map_nil, -Bool.forall_bool, -Bool.exists_bool];simp[hq0, -Bool.forall_bool, -Bool.exists_bool];intro w w';refine jO (X:=Unit) [] [] [990,991] [] (λ_=>True) (λ_=>[(2, .bptr 6 b 0)]) (λ_=>[(6, .box b [enc q.1.lvs, .v (.int .u64 q.2.first.val), .v (.int .u64 q.2.last.val),enc q.1.fol, .v (.bool q.2.nul)])]) [6] (λ_=>rfl) (by decide) ?_ ?_
  ·simp;exact .inl ⟨iM (l:=q.1.lvs) dx rfl,iM (l:=q.1.fol) dX rfl⟩
  ·rintro - -;simp;refine cp ⟨q.1.lvs,q.2.first,q.2.last,q.1.fol,q.2.nul⟩ ?_ ht;exact .box rfl
def VB(x:Tbk×U64×Bool):Prop:=x.1.fol.length<=100000
def Vr(x:Tbk×U64×Bool)(y:U64):Prop:=y=uX x.1 x.2.1 x.2.2
noncomputable abbrev Sz:Spc:=aY (a3 Tbk U64 Bool) VB (enc (X:=U64)) Vr
theorem VZ:av eu eh S (a3 Tbk U64 Bool) VB (enc (X:=U64)) Vr:=by
 rintro⟨⟨lv,fi,la,fo,nu⟩,set,beg⟩ hlen;have hlen:fo.length<=100000:=hlen;have hl:(fo.length:Int)<=9223372036854775807:=by omega
 cases beg
 ·simp[eu,eh,hl, -Bool.forall_bool, -Bool.exists_bool];refine ak (X:=U64) [1,18] [] fo.length (λk m=>YT set k (fo.drop k) m=YT set 0 fo ⟨0⟩) (λm=>[(7,enc m)]) (λx=>[]) ⟨0⟩ (by simp) (by simp) (by omega) (by simp) (by simp) (by simp) (by simp) (by simp) ?_ ?_
  ·rintro k m hk hm;obtain⟨f,hf⟩:∃f,fo[k]? =some f:=⟨_,qmd hk⟩
   obtain⟨_,hgf⟩:=qmb.1 hf;rw[TC hf]at hm;simp[hk,hf,hgf, -Bool.forall_bool, -Bool.exists_bool];exact⟨λhb=>⟨WS m f,by simpa [hb]using hm,rfl⟩,λhb=>⟨m,by simpa [hb]using hm,rfl⟩⟩
  ·rintro m hm;rw[qne,YT]at hm;subst hm;simp[-Bool.forall_bool, -Bool.exists_bool];exact cp _ (.same _) rfl
 ·simp[eu,eh,hl, -Bool.forall_bool, -Bool.exists_bool];exact cp _ (.same _) rfl
end Go.Gv
namespace Go.Gv
open Go.Proofs
def pp:CC:=gq Tryz.f113 [3] {} _
def oo:List aj:=[.tmp 6]
def Eu:aq Tryz.prog lZ [3] pp oo 88:=fo
def pr:CC:=gq Tryz.f85 [2] {} _
def ou:List aj:=[.tmp 4]
def Ew:aq Tryz.prog qD [2] pr ou 8:=fo
def lL:CC:=gq Tryz.f115 [] {} _
def lw:List aj:=[.tmp 2]
def Bw:aq Tryz.prog cH [] lL lw 5:=fo
def jA:CC:=gq Tryz.f84 [2] {} _
def jn:List aj:=[.tmp 4]
def xQ:aq Tryz.prog kC [2] jA jn 8:=fo
def kR:CC:=gq Tryz.f114 [] {} _
def jQ:List aj:=[.tmp 2]
def zR:aq Tryz.prog cx [] kR jQ 43:=fo
open Cod (enc dec)
variable {S S0:Nat->Spc}
def aMt:eZ (Rx×B×Bool):=⟨λds=>match ds with
 | [a,b, .clo f []]=>if f=cH then(dec a).bind λx=>(dec b).map λs=>(x,s,false)else if f=cx then(dec a).bind λx=>(dec b).map λs=>(x,s,true)else none
 | _=>none,λx=>[enc x.1,enc x.2.1, .clo (if x.2.2=true then cx else cH) []],λds x h=>by
 split at h
 ·rename_i a b f;split at h
  ·rename_i e;simp only[ql9,qmi]at h;obtain⟨x,hx,s,hs,rfl⟩:=h;subst e;exact .cons (Cod.le _ _ hx) (.cons (Cod.le _ _ hs) (.cons (.same _) .nil))
  ·split at h
   ·rename_i e;simp only[ql9,qmi]at h;obtain⟨x,hx,s,hs,rfl⟩:=h;subst e;exact .cons (Cod.le _ _ hx) (.cons (Cod.le _ _ hs) (.cons (.same _) .nil))
   ·cases h
 ·cases h⟩
@[simp] theorem qey(x:Rx)(s:B)(f:Bool):aMt.view (x,s,f)=[enc x,enc s, .clo (if f=true then cx else cH) []]:=id rfl
@[simp] theorem qeA(a b:D):aMt.dec [a,b, .clo cH []]=(dec a).bind λx=>(dec b).map λs=>(x,s,false):=id rfl
@[simp] theorem qez(a b:D):aMt.dec [a,b, .clo cx []]=(dec a).bind λx=>(dec b).map λs=>(x,s,true):=id rfl
abbrev QF:Spc:=aY (a1 Rx) (λx=>xD 50 x=true) (enc (X:=Int)) λx y=>y=0
abbrev SA:Spc:=aY (a2 (List Rng) I32) (λ_=>True) (enc (X:=Bool)) λx y=>y=JT x.1 x.2.val
abbrev s_cpVal:Spc:=aY (a1 B) (λs=>tE s=true/\s.size<=1000) (enc (X:=Bool)) λ_ y=>y=true
abbrev YN:Spc:=aY (a1 I32) (λc=>0<=c.val/\c.val < 128) (enc (X:=List I32)) λc y=>y=Ni false c
abbrev YL:Spc:=aY (a1 I32) (λc=>0<=c.val/\c.val < 128) (enc (X:=List I32)) λc y=>y=Ni true c
def Yr(x:Rx×B×Bool):Prop:=∃y,sH x.1 x.2.1 x.2.2=some y
def qaU(x:Rx×B×Bool)(y:Bool):Prop:=sH x.1 x.2.1 x.2.2=some y
abbrev SB:Spc:=aY aMt Yr (enc (X:=Bool)) qaU
def HD{s:B}(h:tE s=true){p:Nat}(hp:p < s.size):∃c:UInt8,s.data.toList[p]? =some c/\c.toNat < 128/\Utf8.decode s p=(c.toNat,1):=by
 have hl:p < s.data.toList.length:=by rw[qmu];exact hp
 refine⟨s.data.toList[p],qmd hl,?_,?_⟩
 ·have:=qmg.1 h _ (qnx hl);simpa using this
 ·have h1:(s[p]'hp).toNat < 128:=by
   have:=qmg.1 h _ (qnx hl);have h2:s.data[p].toNat < 128:=by simpa using this
   exact h2
  have:=Go.decode_ascii s p hp h1;rw[this];have:s[p]=s.data.toList[p]:=by
   rw[Array.getElem_toList];rfl
  rw[this]
set_option maxHeartbeats 2000000 in
theorem FP(h1:S iz=QF)(h2:S kQ=s_cpVal)(h3:S vt=YM 50)(h4:S iQ=Sz)(h5:S lH=SA)(h6:S cH=YN)(h7:S cx=YL):
 av pp oo S aMt Yr (enc (X:=Bool)) qaU:=by
 rintro⟨x,s,f⟩ ⟨y,hy⟩;have hy0:sH x s f=some y:=hy;unfold sH at hy0;split at hy0
 rotate_left
 ·cases hy0
 rename_i hc;obtain⟨hv,ha,hsz⟩:=hc;obtain⟨t,ht,hy1⟩:=ql9.1 hy0;split at hy1
 rotate_left
 ·cases hy1
 rename_i hok;have hres:qcL t (Ni f) (Yb s.data.toList) ⟨0⟩ true=y:=qmk hy1;obtain⟨hlv,hfo⟩:=rp (t:=t) (by rw[hok];simp);have hOf:qaV 50 x t:=ht;have hPOf:Yt 50 x:=by unfold Yt;rw[ht];rfl
 simp[pp,oo,h1,h2,h3,hv,ha,hsz,hPOf, -Bool.forall_bool, -Bool.exists_bool];intro t' ht' b;obtain rfl:t=t':=by
  have h:Ws 50 x=some t':=ht';rw[ht]at h;exact qmk h
 refine aP (X:=U64×Bool×Nat) [2,7,28] [] (λz=>qcL t (Ni f) (Yb (s.data.toList.drop z.2.2)) z.1 z.2.1=y/\z.2.2<=s.size) (λz=>[(8,enc z.1),(9,enc z.2.1)]) (λz=>[(28, .iter b s z.2.2)]) (λz=>s.size -z.2.2) (⟨0⟩,true,0) ⟨by simpa using hres,qmG _⟩ (by simp) (by simp) ?_;rintro⟨set,beg,pos⟩ ⟨hm,hp⟩;simp only at hm hp;by_cases hlt:pos < s.size
 ·obtain⟨c,hc,hc128,hdec⟩:=HD ha hlt;rw[pk hc]at hm;have hm:(if(Wn (uX t set beg) t.lvs (Ni f ⟨(c.toNat:Int)⟩) ⟨0⟩).val=0 then false else qcL t (Ni f) (Yb (s.data.toList.drop (pos+1))) (Wn (uX t set beg) t.lvs (Ni f ⟨(c.toNat:Int)⟩) ⟨0⟩) false)=y:=hm;have hN:VB (t,set,beg):=by show t.fol.length<=100000;omega
  have hq:Vr (t,set,beg) (uX t set beg):=rfl;have c0:(0:Int)<=(c.toNat:Int):=by omega
  have c1:(c.toNat:Int) < 128:=by omega
  have hvl:((Ni f ⟨(c.toNat:Int)⟩).length:Int)<=9223372036854775807:=by
   have:(Ni f ⟨(c.toNat:Int)⟩).length<=3:=by
    unfold Ni;split
    ·unfold EY;exact qmK (List.length_filter_le _ _) (by simp)
    ·simp
   omega
  have h8:S (if f=true then cx else cH)=aY (a1 I32) (λc=>0<=c.val/\c.val < 128) (enc (X:=List I32)) λc y=>y=Ni f c:=by
   cases f
   ·exact h6
   ·exact h7
  simp[hlt,hdec,h4,hN,h8,c0,c1,hvl, -Bool.forall_bool, -Bool.exists_bool];intro nx hnx;obtain rfl:nx=uX t set beg:=hnx;generalize uX t set beg=nx at hm;generalize Ni f ⟨(c.toNat:Int)⟩=vs at hm hvl;refine ak (X:=U64) [2,7,9,12,28,38] [28] vs.length (λk m=>Wn nx t.lvs (vs.drop k) m=Wn nx t.lvs vs ⟨0⟩) (λm=>[(8,enc m)]) (λ_=>[]) ⟨0⟩ (by simp) (by simp) (by omega) (by simp) (by simp) (by simp) (by simp) (by simp) ?_ ?_
  ·rintro k m hk hm2;obtain⟨v,hvk⟩:=J5 hk;obtain⟨_,hgv⟩:=qmb.1 hvk;rw[pk hvk,Wn]at hm2;have hlv':(t.lvs.length:Int)<=9223372036854775807:=by omega
   simp[hk,hvk,hgv,hlv', -Bool.forall_bool, -Bool.exists_bool];refine ak (X:=U64) [2,7,9,12,14,28,38,39,40,47] [28] t.lvs.length (λk m'=>qbs nx v k (t.lvs.drop k) m'=qbs nx v 0 t.lvs m) (λm=>[(8,enc m)]) (λ_=>[]) m (by simp) (by simp) (by omega) (by simp) (by simp) (by simp) (by simp) (by simp) ?_ ?_
   ·rintro j m' hj hm3;obtain⟨lf,hlf⟩:=J5 hj;obtain⟨_,hgl⟩:=qmb.1 hlf;rw[pk hlf,qbs]at hm3;simp[hj,hlf,hgl,h5, -Bool.forall_bool, -Bool.exists_bool];refine⟨λhb=>⟨λhc=>⟨_,by rw[if_pos (by simp[hb,hc])]at hm3;exact hm3,rfl⟩,λhc=>⟨m',by rw[if_neg (by simp[hc])]at hm3;exact hm3,rfl⟩⟩,λhb=>⟨m',by rw[if_neg (by simp[hb])]at hm3;exact hm3,rfl⟩⟩
   ·rintro m' hm3;rw[qne,qbs]at hm3;subst hm3;simp[-Bool.forall_bool, -Bool.exists_bool];exact⟨_,hm2,rfl⟩
  ·rintro m hm2;rw[qne,Wn]at hm2;subst hm2;simp[-Bool.forall_bool, -Bool.exists_bool];refine⟨λh0=>?_,λh0=>?_⟩
   ·rw[if_pos h0]at hm;subst hm;exact hy
   ·rw[if_neg h0]at hm;exact⟨_,false,pos+1,⟨hm,by omega⟩,⟨⟨rfl,rfl⟩, .inl rfl⟩,by omega⟩
 ·have hpe:pos=s.size:=by omega
  subst hpe;rw[qnE (by rw[qmu];exact qmm _)]at hm;have hm:((beg && t.nul)||decide (MY .u64 set.val t.la.val≠0))=y:=hm;simp[-Bool.forall_bool, -Bool.exists_bool];have hQ:∀w,w=y->qaU (x,s,f) w:=λw e=>by subst e;exact hy
  refine⟨λhb=>⟨λhn=>hQ _ ?_,λhn=>hQ _ ?_⟩,λhb=>hQ _ ?_⟩
  all_goals
   subst hb
   first|subst hn|skip
   rw[<-hm];simp[*]
def Cz:av lL lw S (a1 I32) (λc=>0<=c.val/\c.val < 128) (enc (X:=List I32)) λc y=>y=Ni false c:=by
 rintro⟨c⟩ ⟨c0,c1⟩;simp[lL,lw, -Bool.forall_bool, -Bool.exists_bool];exact cp [⟨c⟩] (by simp) rfl
def M1(f:Bool)(x:Rx×B):Prop:=∃y,sH x.1 x.2 f=some y
def Vs(f:Bool)(x:Rx×B)(y:Bool):Prop:=sH x.1 x.2 f=some y
abbrev Pa(f:Bool):Spc:=aY (a2 Rx B) (M1 f) (enc (X:=Bool)) (Vs f)
def FS(h1:S lZ=SB):av pr ou S (a2 Rx B) (M1 false) (enc (X:=Bool)) (Vs false):=by
 rintro⟨x,s⟩ hp;have hp':Yr (x,s,false):=hp;simp[pr,ou,h1,hp', -Bool.forall_bool, -Bool.exists_bool];exactλy hy=>hy
def yZ(h1:S lZ=SB):av jA jn S (a2 Rx B) (M1 true) (enc (X:=Bool)) (Vs true):=by
 rintro⟨x,s⟩ hp;have hp':Yr (x,s,true):=hp;simp[jA,jn,h1,hp', -Bool.forall_bool, -Bool.exists_bool];exactλy hy=>hy
end Go.Gv
namespace Go.Gv
open Go.Proofs
def lc:CC:=gq Tryz.f59 [] {} _
def jZ:List aj:=[.tmp 6]
def EF:aq Tryz.prog qI [] lc jZ 25:=fo
def jF:CC:=gq Tryz.f29 [9,8,7,6,5] { cu:=[1] } _
def js:List aj:=[.tmp 10]
def ya:aq Tryz.prog cF [9,8,7,6,5] jF js 102:=fo
def ip:CC:=gq Tryz.f58 [5] {} _
def gQ:List aj:=[.tmp 6]
def uU:aq Tryz.prog aF [5] ip gQ 13:=fo
def io:CC:=gq Tryz.f67 [2] {} _
def gP:List aj:=[.tmp 3]
def uT:aq Tryz.prog bS [2] io gP 8:=fo
def jH:CC:=oX [oB 5 (.box GJ true (oT 0)),oB 6 (.box cI true (oT 1)),oB 10 (.mv (.const ob))] [2,3,4,5,6] [] (.seq (oX [oD 11 7 6,oE 12 0 5,oC 13 1 12,oA 14 3,oZ 15 bD [oT 11,oT 13,oT 14],oB 16 (.eql true false [.int] (oT 15) (oN 0)),oA 17 16,oI 18 17 (.mv (oT 2)),oI 19 17 (.cmp .lss (oT 18) (oN 0)),
 oB 20 (.pick (oT 17) (.const (.bool true)) (oT 19)),oA 21 20,oI 22 21 (.mv (oT 2)),oI 23 21 (.faddr 1 (oT 5)),oI 24 21 (.load false 1 (oT 23)),oI 25 21 (.len (oT 24)),oI 26 21 (.cmp .geq (oT 22) (oT 25)),oB 27 (.pick (oT 21) (.const (.bool true)) (oT 26)),oA 28 27,oI 29 28 (.mv (oT 4)),oI 30 28 (.len (oT 29)),oI 31 28 (.mv (oT 3)),oI 32 28 (.len (oT 31)),
 oI 33 28 (.eql true false [.int] (oT 30) (oT 32)),oB 34 (.pick (oT 28) (.const (.bool true)) (oT 33))] [2,3,4,5,6,34] [] (.ite (oT 34) (oX [oB 10 (.mv (.const ob))] [10] [] (.ret)) (.skip))) (.keep [2,3,4,5,6] [] (.seq (oX [oA 35 4,oB 36 (.clo bp [oT 5]),oZ 37 cK [oT 35,oT 36]] [2,3,4,5,6,37] [] (.ite (oT 37) (oX [
 oB 10 (.mv (.const ob))] [10] [] (.ret)) (.skip))) (.keep [2,3,4,5,6] [] (oX [oD 38 7 5,oD 39 7 6,oA 40 2,oA 41 3,oA 42 4,oZ 43 cF [oT 38,oT 39,oT 40,oT 41,oT 42],oA 10 43] [10] [] (.ret))))))
def ju:List aj:=[.tmp 10]
def ez:CC:=oX [oB 3 (.mv (.const ob))] [0,1] [] (oX [oA 4 0,oB 5 (.cmp .lss (oT 4) (oN (-1))),oA 6 5,oI 7 6 (.mv (oT 0)),oI 8 6 (.faddr 1 (oT 1)),oI 9 6 (.load false 1 (oT 8)),oI 10 6 (.len (oT 9)),oI 11 6 (.cmp .geq (oT 7) (oT 10)),oB 12 (.pick (oT 6) (.const (.bool true)) (oT 11)),oA 3 12] [3] [] (.ret))
def ei:List aj:=[.tmp 3]
def iV:CC:=oX [oB 2 (.box GJ true (oT 0)),oB 3 (.box cI false (oT 1)),oB 4 (.mv (.const on)),oB 5 (.mv (oN 0))] [2,3] [3] (.seq (oX [oD 9 7 3,oZ 10 du [oT 9]] [2,3,10] [3] (.ite (oT 10) (oX [oB 4 (.mv (.const on)),oB 5 (.mv (oN 2))] [4,5] [33] (.ret)) (.skip))) (.keep [2,3] [3] (oX [oD 11 7 3,oZ 12 bV [oT 11],
 oF 7 3 12] [2,3] [3] (.seq (oX [oD 13 7 3,oE 14 0 2,oC 15 1 14,oZ 16 bD [oT 13,oT 15,.const on],oA 6 16] [2,3,6] [3] (oX [oA 17 6,oB 18 (.eql true false [.int] (oT 17) (oN 0))] [2,3,6,18] [3] (.ite (oT 18) (oX [oA 19 6,oB 4 (.mv (.const on)),oA 5 19] [4,5] [33] (.ret)) (.skip)))) (.keep [2,3] [3] (oX [oB 7 (.mv (.const on))] [2,3,7] [3,33] (.seq (oX [oE 20 1 2,
 oC 21 1 20,oB 22 (.len (oT 21)),oB 23 (.mv (oN 0))] [2,3,7,22,23] [3,33] (ki 0 23 22 24 1 (oX [oA 25 23,oA 8 25] [2,3,7,8,22,23] [3,33] (oX [oD 26 7 2,oD 27 7 3,oA 28 8,oZ 29 cF [oT 26,oT 27,oT 28,.const on,.const on]] [2,3,7,8,22,23,29] [3,33] (.ite (oT 29) (.reg [oA 30 7,oA 31 8,oB 32 (.bslice fP 1 [oT 31]),oB 33 (.append none fP 1 8 (oT 30) (oT 32)),
 oA 7 33]) (.skip)))) 34)) (.keep [7] [33] (oX [oA 35 7,oA 4 35,oB 5 (.mv (oN 0))] [4,5] [33] (.ret))))))))))
def iH:List aj:=[.tmp 4, .tmp 5]
def yf:aq Tryz.prog kP [6,5] jH ju 44:=fo
def uV:aq Tryz.prog bp [] ez ei 13:=fo
def wB:aq Tryz.prog fB [2] iV iH 36:=fo
open Cod (enc dec)
variable {S S0:Nat->Spc}
def yj(v s:B)(f:Bool):Option Bool:=(kj v).bind λx=>sH x s f
def Vy(x:B×B×Bool):Prop:=∃y,yj x.1 x.2.1 x.2.2=some y
def Za(x:B×B×Bool)(y:Bool):Prop:=yj x.1 x.2.1 x.2.2=some y
abbrev O6:Spc:=aY (a3 B B Bool) Vy (enc (X:=Bool)) Za
def F0(h1:S ma=Bn)(h2:S qD=Pa false)(h3:S kC=Pa true):av lc jZ S (a3 B B Bool) Vy (enc (X:=Bool)) Za:=by
 rintro⟨v,s,f⟩ ⟨y,hy⟩;have hy:yj v s f=some y:=hy;obtain⟨x,hx,hm⟩:=ql9.1 hy;cases f
 ·have hp:M1 false (x,s):=⟨y,hm⟩
  simp[lc,jZ,h1,h2,hx,hp, -Bool.forall_bool, -Bool.exists_bool];exactλz hz=>by show(kj v).bind _=_;rw[hx];exact hz
 ·have hp:M1 true (x,s):=⟨y,hm⟩
  simp[lc,jZ,h1,h3,hx,hp, -Bool.forall_bool, -Bool.exists_bool];exactλz hz=>by show(kj v).bind _=_;rw[hx];exact hz
mutual
def bG:Cond->Cond| .mk op n a v l f ks=>if op=4\/op=6/\iZ (.mk op n a v l f ks)=true then⟨1,dm,dm,dm,dm,false, []⟩else⟨op,n,a,v,l,f,vd ks⟩
def vd:List Cond->List Cond|[]=>[]|k::ks=>bG k::vd ks
end
def G9:∀l:List Cond,vd l=l.map bG
 | []=>by rw[vd];rfl
 | k::l=>by rw[vd,G9 l];rfl
def vZ(x:Cond):bG x=if x.op=4\/x.op=6/\iZ x=true then⟨1,dm,dm,dm,dm,false, []⟩else⟨x.op,x.name,x.arg,x.val,x.lab,x.fold,x.kids.map bG⟩:=by cases x;rw[bG,G9]
abbrev Lw:Spc:=aY (a1 Cond) (λx=>∃n,aA x<=n) (enc (X:=Bool)) λx y=>y=iZ x
abbrev Lz(n:Nat):Spc:=aY (a1 Cond) (λx=>aA x<=n/\aJ x<=60) (enc (X:=Cond)) λx y=>y=bG x
abbrev Iy:Spc:=aY (a1 Cond) (λx=>∃n,aA x<=n/\aJ x<=60) (enc (X:=Cond)) λx y=>y=bG x
def Me{H:ab}{op:Int}{name arg val lab:B}{fold:Bool}{l:List Cond}{v:Value}(h:H 33=some (.row v cI 7 (l.map enc))):FrzTo H (.agg [.v (.int .i64 op), .v (.string name), .v (.string arg), .v (.string val), .v (.string lab), .v (.bool fold), .own 33 v]) (enc (Cond.mk op name arg val lab fold l)):=by
 simp;refine .agg rfl λk c c' h1 h2=>?_
 match k,h1,h2 with
 | 0,h1,h2|1,h1,h2|2,h1,h2|3,h1,h2|4,h1,h2|5,h1,h2=>cases h1;cases h2;exact .same _
 | 6,h1,h2=>cases h1;cases h2;exact iM cI h
 | k+7,h1,_=>simp at h1
def vX:∀l:List Cond,l.length<=cv l
 | []=>by simp[cv]
 | k::l=>by
   have:=vX l;have:=ej k;rw[cv,qm1];omega
set_option maxHeartbeats 1000000 in
theorem zh(n:Nat)(h1:S bg=Lw)(h2:S bV=Lz n):av cW cT S (a1 Cond) (λx=>aA x<=n+1/\aJ x<=60) (enc (X:=Cond)) λx y=>y=bG x:=by
 rintro x ⟨hd,hn⟩;have hsm:∃n,aA x<=n:=⟨_,qmm _⟩
 have hany:∀H:ab,Fin (enc (X:=Cond)) (λy=>y=⟨1,dm,dm,dm,dm,false, []⟩) (D.agg [.v (.int .i64 1), .v (.string ⟨#[]⟩), .v (.string ⟨#[]⟩), .v (.string ⟨#[]⟩), .v (.string ⟨#[]⟩), .v (.bool false), .v (.slice none 0 0)]) H:=λH=>by
  refine cp ⟨1,dm,dm,dm,dm,false, []⟩ ?_ rfl;simp[dm];refine .agg rfl λk c c' h1 h2=>?_
  match k,h1,h2 with
  | 0,h1,h2|1,h1,h2|2,h1,h2|3,h1,h2|4,h1,h2|5,h1,h2=>cases h1;cases h2;exact .same _
  | 6,h1,h2=>cases h1;cases h2;exact .nil 7
  | k+7,h1,_=>simp at h1
 by_cases hc:x.op=4\/x.op=6/\iZ x=true
 ·have hl:bG x=⟨1,dm,dm,dm,dm,false, []⟩:=by rw[vZ,if_pos hc]
  rcases hc with e|⟨e,e'⟩
  ·simp[cW,cT,h1,hsm,e,hl, -Bool.forall_bool, -Bool.exists_bool];exactλb=>hany _
  ·obtain⟨op,name,arg,val,lab,fold,ks⟩:=x;simp only at e;subst e;simp[cW,cT,h1,hsm,e',hl, -Bool.forall_bool, -Bool.exists_bool];exactλb=>hany _
 ·have hl:bG x=⟨x.op,x.name,x.arg,x.val,x.lab,x.fold,x.kids.map bG⟩:=by rw[vZ,if_neg hc]
  have e4:¬x.op=4:=λh=>hc (.inl h)
  obtain⟨op,name,arg,val,lab,fold,ks⟩:=x;simp only at hl e4;have hs:op=6->iZ ⟨op,name,arg,val,lab,fold,ks⟩=false:=λh=>by
   cases hb:iZ ⟨op,name,arg,val,lab,fold,ks⟩with
   | false=>rfl
   | true=>exact absurd (.inr ⟨h,hb⟩) hc
  have hkn:∀y∈ks,aA y<=n/\aJ y<=60:=λy hy=>by
   have h1:=rH (p:=⟨op,name,arg,val,lab,fold,ks⟩) hy;have h2:=rq hy;have h3:=ej ⟨op,name,arg,val,lab,fold,ks⟩;simp only at h3;exact⟨by omega,by omega⟩
  have hks:ks.length<=60:=by
   have h3:=ej ⟨op,name,arg,val,lab,fold,ks⟩;simp only at h3;have:=vX ks;omega
  by_cases e6:op=6
  ·subst e6;have hs':=hs rfl;simp[cW,cT,h1,hsm,hs',hl, -Bool.forall_bool, -Bool.exists_bool];intro b2 b3;refine jO (X:=Unit) [1,2] [2] [] [] (λ_=>True) (λ_=>[(3, .bptr 3 b3 0)]) (λ_=>[(3, .box b3 [.v (.int .i64 6), .v (.string name), .v (.string arg), .v (.string val), .v (.string lab), .v (.bool fold), .own 33 (.slice none 0 0)]),(33, .row (.slice none 0 0) cI 7 [])]) [3,33] (λ_=>rfl) (by decide) ?_ ?_
   ·simp;refine⟨.inl (.nilown 33),by simp[isNilRow]⟩
   rintro - -;simp[-Bool.forall_bool, -Bool.exists_bool];intro hkl;refine ak (X:=Value×List Cond) [2,3,22] [2] ks.length (λk z=>z.2=(ks.take k).map bG/\z.2.length=k) (λz=>[]) (λz=>[(3, .box b3 [.v (.int .i64 6), .v (.string name), .v (.string arg), .v (.string val), .v (.string lab), .v (.bool fold), .own 33 z.1]),(33, .row z.1 cI 7 (z.2.map enc))]) (.slice none 0 0, []) (by simp) (by simp) (by omega) (by simp) (by simp) ⟨rfl,rfl⟩ (by simp) (by simp) ?_ ?_
   ·rintro k ⟨v,l⟩ hk ⟨hl1,hl2⟩;simp only at hl1 hl2;obtain⟨y,hy⟩:=bL hk;obtain⟨_,hgy⟩:=qmb.1 hy;obtain⟨q1,q2⟩:=hkn y (qme hy);have hk60:ks.length<=60:=hks;simp[h2,hk,hy,hgy,q1,q2, -Bool.forall_bool, -Bool.exists_bool];refine⟨by omega,by omega,λv=>⟨v,l++ [bG y],⟨?_,by simp;omega⟩, .inl rfl, .inl ⟨rfl,by simp⟩⟩⟩;rw[hl1,<-List.map_take,aK hy];simp
   ·rintro⟨v,l⟩ ⟨hl1,hl2⟩;simp only at hl1 hl2;rw[qmJ]at hl1;simp[-Bool.forall_bool, -Bool.exists_bool];exact cp _ (Me rfl) (by rw[hl1])
  ·simp[cW,cT,h1,hsm,e4,e6,hl, -Bool.forall_bool, -Bool.exists_bool];intro b2 b3;refine jO (X:=Unit) [1,2] [2] [] [] (λ_=>True) (λ_=>[(3, .bptr 3 b3 0)]) (λ_=>[(3, .box b3 [.v (.int .i64 op), .v (.string name), .v (.string arg), .v (.string val), .v (.string lab), .v (.bool fold), .own 33 (.slice none 0 0)]),(33, .row (.slice none 0 0) cI 7 [])]) [3,33] (λ_=>rfl) (by decide) ?_ ?_
   ·simp;refine⟨.inl (.nilown 33),by simp[isNilRow]⟩
   rintro - -;simp[-Bool.forall_bool, -Bool.exists_bool];intro hkl;refine ak (X:=Value×List Cond) [2,3,22] [2] ks.length (λk z=>z.2=(ks.take k).map bG/\z.2.length=k) (λz=>[]) (λz=>[(3, .box b3 [.v (.int .i64 op), .v (.string name), .v (.string arg), .v (.string val), .v (.string lab), .v (.bool fold), .own 33 z.1]),(33, .row z.1 cI 7 (z.2.map enc))]) (.slice none 0 0, []) (by simp) (by simp) (by omega) (by simp) (by simp) ⟨rfl,rfl⟩ (by simp) (by simp) ?_ ?_
   ·rintro k ⟨v,l⟩ hk ⟨hl1,hl2⟩;simp only at hl1 hl2;obtain⟨y,hy⟩:=bL hk;obtain⟨_,hgy⟩:=qmb.1 hy;obtain⟨q1,q2⟩:=hkn y (qme hy);have hk60:ks.length<=60:=hks;simp[h2,hk,hy,hgy,q1,q2, -Bool.forall_bool, -Bool.exists_bool];refine⟨by omega,by omega,λv=>⟨v,l++ [bG y],⟨?_,by simp;omega⟩, .inl rfl, .inl ⟨rfl,by simp⟩⟩⟩;rw[hl1,<-List.map_take,aK hy];simp
   ·rintro⟨v,l⟩ ⟨hl1,hl2⟩;simp only at hl1 hl2;rw[qmJ]at hl1;simp[-Bool.forall_bool, -Bool.exists_bool];exact cp _ (Me rfl) (by rw[hl1])
end Go.Gv
