/- A part of the framework and of the walks: W143 T34 W144 V54 C56 W145 W146 C57 W150. -/
import Derived.Laws.RangeString
import Derived.Test.YtphdikcommfnhaaGreatDoorGe27
import Derived.Test.YtphdikcommfnhaaGreatDoorGe26
import Derived.Test.YtphdikcommfnhaaGreatDoorGe20
import Derived.Test.YtphdikcommfnhaaGreatDoorGe21
import Derived.Test.YtphdikcommfnhaaGreatDoorGe19
set_option linter.unusedSimpArgs false
set_option linter.unusedVariables false
set_option linter.unusedSectionVars false
set_option maxRecDepth 100000
set_option maxHeartbeats 0

namespace Go.Gv
open Cod (enc dec)
variable {S S0:Nat->Spc}
def qhI(b:Tbk->Rx->Option (Tbk×Prt))(o:Tbk->Rx×Int->Option (Tbk×Prt))(y:Rx)(mn mx:Int)(q:Tbk×Prt×Bool):Option (Tbk×Prt):=
 if q.2.2=true then some (q.1,CU)else
  if mx < 0/\mn=0 then(b q.1 y).bind fun r=>(ED r.1 (r.2.last,r.2.first)).map fun l=>(l.1, { r.2 with nul:=true })else
  if mn < mx then(o q.1 (y,mx -mn)).bind fun r=>yW r.1 (q.2.1,r.2)else some (q.1,q.2.1)
set_option maxHeartbeats 2000000 in
theorem qaa(n:Nat)(h1:S cO=Jk n)(h2:S eh=Uc n)(h3:S dt=Ij)(h4:S fN=Ok):GN gW gG S (a1 Rx) (enc (X:=Prt)) (Dm (n+1)).r:=by
 rintro b v v' t ⟨op,mn,mx,rs,ks⟩ r hF
 replace hF:qbw (Dm n).b (Dm n).o t ⟨op,mn,mx,rs,ks⟩=some r:=hF
 unfold qbw at hF
 simp only at hF
 split at hF
 ·cases hF
 rename_i y ks'
 split at hF
 ·cases hF
 rename_i hrng
 obtain⟨q,hq,hF⟩:=qxx.1 hF
 have hF:qhI (Dm n).b (Dm n).o y mn mx q=some r:=hF
 have hm:mn=(mn.toNat:Int):=by omega
 generalize mn.toNat=m at hm hq
 subst hm
 have hm':(m:Int)<=9223372036854775807:=by omega
 have hpos:(0:Int) < ((y::ks').length:Int):=by simp
 simp[gW,gG,wG,oY,pa,sA,hm', -Bool.forall_bool, -Bool.exists_bool]
 intro b4 b5
 refine ai (X:=Tbk×Prt×Value×Value) [0,3,4,5] [4] m (fun k x=>(qmN (Dm n).b y mx (m -k) x.1 x.2.1).bind (qhI (Dm n).b (Dm n).o y m mx)=some r) (fun x=>[]) (fun x=>[(0, .box b [.own 990 x.2.2.1, .v (.int .u64 x.1.fi.val), .v (.int .u64 x.1.la.val), .own 991 x.2.2.2, .v (.bool x.1.nul)]),(990, .row x.2.2.1 ek 1 (x.1.lvs.map enc)),(991, .row x.2.2.2 eZ 1 (x.1.fol.map enc)),(5, .box b5 [.v (.int .u64 x.2.1.first.val), .v (.int .u64 x.2.1.last.val), .v (.bool x.2.1.nul)])]) (t,CU,v,v') (by simp) (by simp) (by omega) (by simp) (by simp) (by simp[hq,hF]) (by simp) (by simp[CU]) ?_ ?_
 ·rintro k ⟨t,p,w,w'⟩ hk hx
  rw[show m -k=(m - (k+1)) +1 by omega,qmN]at hx
  simp only at hx
  split at hx
  ·cases hx
  rename_i hok
  obtain⟨hlv,hfo⟩:=wL hok
  have hlv':(t.lvs.length:Int)<=9223372036854775807:=by omega
  cases hb:(Dm n).b t y with
  | none=>rw[hb]at hx;cases hx
  | some c=>
  rw[hb,qxR]at hx
  split at hx
  ·cases hx
  rename_i hok2
  obtain⟨hlq,hfq⟩:=wL hok2
  have hlq':(c.1.lvs.length:Int)<=9223372036854775807:=by omega
  split at hx
  ·rename_i e
   have e':(c.1.lvs.length:Int)=t.lvs.length:=by omega
   simp[hk,h1,hb,hlv',hlq',e,e', -Bool.forall_bool, -Bool.exists_bool]
   have hx:some (c.1,CU)=some r:=hx
   obtain rfl:=qxO hx
   exact fun u u'=>wQ u u' c.1 CU rfl rfl rfl rfl rfl
  rename_i e
  have e':¬ (c.1.lvs.length:Int)=t.lvs.length:=by omega
  have hin:InR .i64 ((m:Int) -1):=by simp only[InR];omega
  by_cases hmx:mx < 0
  ·by_cases hkm:m - (k+1)=0
   ·rw[if_pos ⟨hmx,hkm⟩]at hx
    have hkm':(k:Int)=m -1:=by omega
    cases hl:ED c.1 (c.2.last,c.2.first)with
    | none=>rw[hl]at hx;cases hx
    | some l=>
    rw[hl,qxR]at hx
    cases hc:yW l.1 (p,c.2)with
    | none=>rw[hc]at hx;cases hx
    | some d=>
    rw[hc,qxR]at hx
    simp[hk,h1,h3,h4,hb,hl,hc,hlv',hlq',e,e',hin,hmx,hkm', -Bool.forall_bool, -Bool.exists_bool]
    exact fun u u'=>⟨d.1,d.2,hx,u,u', .inl ⟨rfl,rfl,rfl,rfl,rfl⟩, .inl ⟨rfl,rfl⟩, .inl ⟨rfl,rfl⟩, .inl ⟨rfl,rfl,rfl⟩⟩
   ·rw[if_neg (fun h=>hkm h.2)]at hx
    have hkm':¬ (k:Int)=m -1:=by omega
    rw[qxR]at hx
    cases hc:yW c.1 (p,c.2)with
    | none=>rw[hc]at hx;cases hx
    | some d=>
    rw[hc,qxR]at hx
    simp[hk,h1,h3,h4,hb,hc,hlv',hlq',e,e',hin,hmx,hkm', -Bool.forall_bool, -Bool.exists_bool]
    exact fun u u'=>⟨d.1,d.2,hx,u,u', .inl ⟨rfl,rfl,rfl,rfl,rfl⟩, .inl ⟨rfl,rfl⟩, .inl ⟨rfl,rfl⟩, .inl ⟨rfl,rfl,rfl⟩⟩
  ·rw[if_neg (fun h=>hmx h.1)]at hx
   rw[qxR]at hx
   cases hc:yW c.1 (p,c.2)with
   | none=>rw[hc]at hx;cases hx
   | some d=>
   rw[hc,qxR]at hx
   simp[hk,h1,h3,h4,hb,hc,hlv',hlq',e,e',hmx, -Bool.forall_bool, -Bool.exists_bool]
   exact fun u u'=>⟨d.1,d.2,hx,u,u', .inl ⟨rfl,rfl,rfl,rfl,rfl⟩, .inl ⟨rfl,rfl⟩, .inl ⟨rfl,rfl⟩, .inl ⟨rfl,rfl,rfl⟩⟩
 ·rintro⟨t,p,w,w'⟩ hx
  simp only[qzb,qmN,qxR]at hx
  have hx:(if mx < 0/\(m:Int)=0 then((Dm n).b t y).bind fun r=>(ED r.1 (r.2.last,r.2.first)).map fun l=>(l.1, { r.2 with nul:=true })else
   if(m:Int) < mx then((Dm n).o t (y,mx -m)).bind fun r=>yW r.1 (p,r.2)else some (t,p))=some r:=hx
  by_cases hA:mx < 0/\(m:Int)=0
  ·rw[if_pos hA]at hx
   obtain⟨hmx,hm0⟩:=hA
   obtain⟨c,hb,hx⟩:=qxx.1 hx
   obtain⟨l,hl,rfl⟩:=qxK.1 hx
   have hm0':m=0:=by omega
   subst hm0'
   simp[h1,h4,hb,hl,hmx, -Bool.forall_bool, -Bool.exists_bool]
   exact fun u u'=>wQ u u' l.1 _ rfl rfl rfl rfl ⟨rfl,rfl⟩
  ·rw[if_neg hA]at hx
   by_cases hB:(m:Int) < mx
   ·rw[if_pos hB]at hx
    obtain⟨c,hb,hx⟩:=qxx.1 hx
    have n0:¬mx < 0:=by omega
    have hin:InR .i64 (mx -m):=by simp only[InR];omega
    simp[h2,h3,hb,hx,n0,hB,hin, -Bool.forall_bool, -Bool.exists_bool]
    exact fun u u'=>wQ u u' r.1 r.2 rfl rfl rfl rfl rfl
   ·rw[if_neg hB]at hx
    obtain rfl:=qxO hx
    by_cases hmx:mx < 0
    ·have hm0:¬ (m:Int)=0:=fun h=>hA ⟨hmx,h⟩
     have hm0':¬m=0:=by omega
     simp[hmx,hm0,hm0',hB, -Bool.forall_bool, -Bool.exists_bool]
     exact wQ w w' t p rfl rfl rfl rfl ⟨rfl,rfl⟩
    ·simp[hmx,hB, -Bool.forall_bool, -Bool.exists_bool]
     exact wQ w w' t p rfl rfl rfl rfl ⟨rfl,rfl⟩
end Go.Gv

namespace Go.Gv
open Cod (enc dec)
def UZ(t:Tbk):D:= .cptr [enc t.lvs,enc t.fi,enc t.la,enc t.fol,enc t.nul] 0
theorem qc8{t t':Tbk}(h:UZ t=UZ t'):t=t':=by
 obtain⟨a1,a2,a3,a4,a5⟩:=t
 obtain⟨b1,b2,b3,b4,b5⟩:=t'
 unfold UZ at h
 injection h with h1 h2
 simp only[qx0]at h1
 obtain⟨h1,h2,h3,h4,h5,_⟩:=h1
 have h1:=aK h1
 have h2:=aK h2
 have h3:=aK h3
 have h4:=aK h4
 have h5:=aK h5
 subst h1;subst h2;subst h3;subst h4;subst h5
 rfl
open Classical in
noncomputable instance:Cod Tbk where
 wd:=1
 enc:=UZ
 dec d:=if h:∃t,d=UZ t then some h.choose else none
 kn _:=rfl
 wid _:=rfl
 dec_enc t:=by
  have h:∃t',UZ t=UZ t':=⟨t,rfl⟩
  rw[dif_pos h]
  exact congrArg some (qc8 h.choose_spec).symm
 le d x h:=by
  split at h
  ·rename_i h'
   cases h
   rw[h'.choose_spec.symm]
   exact .same _
  ·cases h
@[simp] theorem qqV(t:Tbk):enc t= .cptr [enc t.lvs,enc t.fi,enc t.la,enc t.fol,enc t.nul] 0:=id rfl
@[simp] theorem qq5(l:List (List Rng))(f a:Int)(fo:List U64)(n:Bool):dec (X:=Tbk) (.cptr [.list 1 (l.map enc), .v (.int .u64 f), .v (.int .u64 a), .list 1 (fo.map enc), .v (.bool n)] 0)=some ⟨l,⟨f⟩,⟨a⟩,fo,n⟩:=Cod.dec_enc (X:=Tbk) ⟨l,⟨f⟩,⟨a⟩,fo,n⟩
end Go.Gv

namespace Go.Gv
open Cod (enc dec)
variable {S S0:Nat->Spc}
def qhk(n:Nat)(x:Rx):Prop:=(qfi n x).isSome=true
def qkW(n:Nat)(x:Rx)(t:Tbk):Prop:=qfi n x=some t
noncomputable abbrev qhB(n:Nat):Spc:=aI (a1 Rx) (qhk n) (enc (X:=Tbk)) (qkW n)
theorem qsh(n:Nat)(h1:S cO=Jk n):aq yC xD S (a1 Rx) (qhk n) (enc (X:=Tbk)) (qkW n):=by
 rintro x hx
 obtain⟨t,ht⟩:=qyv.1 hx
 obtain⟨q,hq,rfl⟩:=qxK.1 ht
 have hq0:(Dm n).b ⟨[],⟨0⟩,⟨0⟩, [],false⟩ x=some q:=hq
 simp[yC,xD, -Bool.forall_bool, -Bool.exists_bool]
 refine gy (X:=Nat) [1] [] [] [] (fun _=>True) (fun b=>[(3, .bptr 6 b 0)]) (fun b=>[(6, .box b [.own 990 (.slice none 0 0), .v (.int .u64 0), .v (.int .u64 0), .own 991 (.slice none 0 0), .v (.bool false)]),(990, .row (.slice none 0 0) ek 1 []),(991, .row (.slice none 0 0) eZ 1 [])]) [6,990,991] (fun _=>rfl) (by decide) ?_ ?_
 ·simp
  refine fun b=>⟨b, .same _, .inl ?_,by simp[isNilRow],by simp[isNilRow]⟩
  simp
  exact⟨.nilown 990, .nilown 991⟩
 ·rintro b -
  have e1:(Res.row (.slice none 0 0) ek 1 []:Res)= .row (.slice none 0 0) ek 1 (([]:List (List Rng)).map enc):=rfl
  have e2:(Res.row (.slice none 0 0) eZ 1 []:Res)= .row (.slice none 0 0) eZ 1 (([]:List U64).map enc):=rfl
  rw[e1,e2]
  simp[h1,hq0, -List.map_nil, -Bool.forall_bool, -Bool.exists_bool]
  simp[hq0, -Bool.forall_bool, -Bool.exists_bool]
  intro w w'
  refine gy (X:=Unit) [] [] [990,991] [] (fun _=>True) (fun _=>[(2, .bptr 6 b 0)]) (fun _=>[(6, .box b [enc q.1.lvs, .v (.int .u64 q.2.first.val), .v (.int .u64 q.2.last.val),enc q.1.fol, .v (.bool q.2.nul)])]) [6] (fun _=>rfl) (by decide) ?_ ?_
  ·simp
   exact .inl ⟨gl (l:=q.1.lvs) ek rfl,gl (l:=q.1.fol) eZ rfl⟩
  ·rintro - -
   simp
   refine cp ⟨q.1.lvs,q.2.first,q.2.last,q.1.fol,q.2.nul⟩ ?_ ht
   exact .box rfl
def qeo(x:Tbk×U64×Bool):Prop:=x.1.fol.length<=100000
def qed(x:Tbk×U64×Bool)(y:U64):Prop:=y=As x.1 x.2.1 x.2.2
noncomputable abbrev qaT:Spc:=aI (a3 Tbk U64 Bool) qeo (enc (X:=U64)) qed
theorem qe6:aq fD fm S (a3 Tbk U64 Bool) qeo (enc (X:=U64)) qed:=by
 rintro⟨⟨lv,fi,la,fo,nu⟩,set,beg⟩ hlen
 have hlen:fo.length<=100000:=hlen
 have hl:(fo.length:Int)<=9223372036854775807:=by omega
 cases beg
 ·simp[fD,fm,hl, -Bool.forall_bool, -Bool.exists_bool]
  refine ai (X:=U64) [1,18] [] fo.length (fun k m=>qhP set k (fo.drop k) m=qhP set 0 fo ⟨0⟩) (fun m=>[(7,enc m)]) (fun x=>[]) ⟨0⟩ (by simp) (by simp) (by omega) (by simp) (by simp) (by simp) (by simp) (by simp) ?_ ?_
  ·rintro k m hk hm
   obtain⟨f,hf⟩:∃f,fo[k]? =some f:=⟨_,qxA hk⟩
   obtain⟨_,hgf⟩:=qxz.1 hf
   rw[qbY hf]at hm
   simp[hk,hf,hgf, -Bool.forall_bool, -Bool.exists_bool]
   exact⟨fun hb=>⟨qfK m f,by simpa [hb]using hm,rfl⟩,fun hb=>⟨m,by simpa [hb]using hm,rfl⟩⟩
  ·rintro m hm
   rw[qyz,qhP]at hm
   subst hm
   simp[-Bool.forall_bool, -Bool.exists_bool]
   exact cp _ (.same _) rfl
 ·simp[fD,fm,hl, -Bool.forall_bool, -Bool.exists_bool]
  exact cp _ (.same _) rfl
end Go.Gv

namespace Go.Gv
open Cod (enc dec)
def Pr(l:List Rng)(c:Int):Bool:=l.any fun r=>decide (r.fr.val<=c) && decide (c<=r.to.val)
def qlz(next:U64)(c:I32):Nat->List (List Rng)->U64->U64
 | _, [],m=>m
 | i,l::ls,m=>qlz next c (i+1) ls (if ZM next i && Pr l c.val then⟨qmY .u64 m.val (QM .u64 1 i)⟩else m)
def qfc(next:U64)(lvs:List (List Rng)):List I32->U64->U64
 | [],m=>m
 | v::vs,m=>qfc next lvs vs (qlz next v 0 lvs m)
def qm9(t:Tbk)(vf:I32->List I32):List I32->U64->Bool->Bool
 | [],set,beg=>(beg && t.nul)||decide (Vh .u64 set.val t.la.val≠0)
 | c::l,set,beg=>if(qfc (As t set beg) t.lvs (vf c) ⟨0⟩).val=0 then false else qm9 t vf l (qfc (As t set beg) t.lvs (vf c) ⟨0⟩) false
def low(c:Int):Int:=if 65<=c/\c<=90 then c+32 else c
def Kt(c:I32):List I32:=([⟨low c.val⟩,⟨low c.val -32⟩,⟨low c.val -80⟩]:List I32).filter fun v=>decide (0<=v.val/\low v.val=low c.val)
def TE(f:Bool)(c:I32):List I32:=if f=true then Kt c else[c]
def qgW(l:List UInt8):List I32:=l.map fun c=>⟨(c.toNat:Int)⟩
def CV(x:Rx)(s:B)(f:Bool):Option Bool:=if Ch 50 x=true/\wm s=true/\s.size<=1000 then(qfi 50 x).bind fun t=>if OV t=true then some (qm9 t (TE f) (qgW s.data.toList) ⟨0⟩ true)else none else none
end Go.Gv

namespace Go.Gv
open Go.Proofs
def tR:CC:=gq Tryz.f303 [3] {} _
def sW:List aj:=[.tmp 6]
theorem JJ:ak Tryz.prog qA [3] tR sW 88:=fo
def tT:CC:=gq Tryz.f286 [2] {} _
def sY:List aj:=[.tmp 4]
theorem JL:ak Tryz.prog vG [2] tT sY 8:=fo
def pV:CC:=gq Tryz.f305 [] {} _
def pg:List aj:=[.tmp 2]
theorem FM:ak Tryz.prog dc [] pV pg 5:=fo
def mh:CC:=gq Tryz.f285 [2] {} _
def lL:List aj:=[.tmp 4]
theorem Cu:ak Tryz.prog nI [2] mh lL 8:=fo
def nY:CC:=gq Tryz.f304 [] {} _
def mW:List aj:=[.tmp 2]
theorem Ec:ak Tryz.prog cL [] nY mW 43:=fo
end Go.Gv

namespace Go.Gv
open Cod (enc dec)
variable {S S0:Nat->Spc}
def aMt:df (Rx×B×Bool):=⟨fun ds=>match ds with
 | [a,b, .clo f []]=>if f=dc then(dec a).bind fun x=>(dec b).map fun s=>(x,s,false)else if f=cL then(dec a).bind fun x=>(dec b).map fun s=>(x,s,true)else none
 | _=>none,fun x=>[enc x.1,enc x.2.1, .clo (if x.2.2=true then cL else dc) []],fun ds x h=>by
 split at h
 ·rename_i a b f
  split at h
  ·rename_i e
   simp only[qxx,qxK]at h
   obtain⟨x,hx,s,hs,rfl⟩:=h
   subst e
   exact .cons (Cod.le _ _ hx) (.cons (Cod.le _ _ hs) (.cons (.same _) .nil))
  ·split at h
   ·rename_i e
    simp only[qxx,qxK]at h
    obtain⟨x,hx,s,hs,rfl⟩:=h
    subst e
    exact .cons (Cod.le _ _ hx) (.cons (Cod.le _ _ hs) (.cons (.same _) .nil))
   ·cases h
 ·cases h⟩
@[simp] theorem qou(x:Rx)(s:B)(f:Bool):aMt.view (x,s,f)=[enc x,enc s, .clo (if f=true then cL else dc) []]:=id rfl
@[simp] theorem qow(a b:D):aMt.dec [a,b, .clo dc []]=(dec a).bind fun x=>(dec b).map fun s=>(x,s,false):=id rfl
@[simp] theorem qov(a b:D):aMt.dec [a,b, .clo cL []]=(dec a).bind fun x=>(dec b).map fun s=>(x,s,true):=id rfl
abbrev Yo:Spc:=aI (a1 Rx) (fun x=>Ch 50 x=true) (enc (X:=Int)) fun x y=>y=0
abbrev qaX:Spc:=aI (a2 (List Rng) I32) (fun _=>True) (enc (X:=Bool)) fun x y=>y=Pr x.1 x.2.val
abbrev s_cpVal:Spc:=aI (a1 B) (fun s=>wm s=true/\s.size<=1000) (enc (X:=Bool)) fun _ y=>y=true
abbrev qhF:Spc:=aI (a1 I32) (fun c=>0<=c.val/\c.val < 128) (enc (X:=List I32)) fun c y=>y=TE false c
abbrev qhA:Spc:=aI (a1 I32) (fun c=>0<=c.val/\c.val < 128) (enc (X:=List I32)) fun c y=>y=TE true c
def qhi(x:Rx×B×Bool):Prop:=∃y,CV x.1 x.2.1 x.2.2=some y
def qkU(x:Rx×B×Bool)(y:Bool):Prop:=CV x.1 x.2.1 x.2.2=some y
abbrev qaY:Spc:=aI aMt qhi (enc (X:=Bool)) qkU
theorem GL{s:B}(h:wm s=true){p:Nat}(hp:p < s.size):∃c:UInt8,s.data.toList[p]? =some c/\c.toNat < 128/\Utf8.decode s p=(c.toNat,1):=by
 have hl:p < s.data.toList.length:=by rw[qx2];exact hp
 refine⟨s.data.toList[p],qxA hl,?_,?_⟩
 ·have:=qxF.1 h _ (qyV hl)
  simpa using this
 ·have h1:(s[p]'hp).toNat < 128:=by
   have:=qxF.1 h _ (qyV hl)
   have h2:s.data[p].toNat < 128:=by simpa using this
   exact h2
  have:=Go.decode_ascii s p hp h1
  rw[this]
  have:s[p]=s.data.toList[p]:=by
   rw[Array.getElem_toList]
   rfl
  rw[this]
set_option maxHeartbeats 2000000 in
theorem Lu(h1:S kj=Yo)(h2:S nX=s_cpVal)(h3:S AM=qhB 50)(h4:S kV=qaT)(h5:S pI=qaX)(h6:S dc=qhF)(h7:S cL=qhA):
 aq tR sW S aMt qhi (enc (X:=Bool)) qkU:=by
 rintro⟨x,s,f⟩ ⟨y,hy⟩
 have hy0:CV x s f=some y:=hy
 unfold CV at hy0
 split at hy0
 rotate_left
 ·cases hy0
 rename_i hc
 obtain⟨hv,ha,hsz⟩:=hc
 obtain⟨t,ht,hy1⟩:=qxx.1 hy0
 split at hy1
 rotate_left
 ·cases hy1
 rename_i hok
 have hres:qm9 t (TE f) (qgW s.data.toList) ⟨0⟩ true=y:=qxO hy1
 obtain⟨hlv,hfo⟩:=wL (t:=t) (by rw[hok];simp)
 have hOf:qkW 50 x t:=ht
 have hPOf:qhk 50 x:=by unfold qhk;rw[ht];rfl
 simp[tR,sW,h1,h2,h3,hv,ha,hsz,hPOf, -Bool.forall_bool, -Bool.exists_bool]
 intro t' ht' b
 obtain rfl:t=t':=by
  have h:qfi 50 x=some t':=ht'
  rw[ht]at h
  exact qxO h
 refine av (X:=U64×Bool×Nat) [2,7,28] [] (fun z=>qm9 t (TE f) (qgW (s.data.toList.drop z.2.2)) z.1 z.2.1=y/\z.2.2<=s.size) (fun z=>[(8,enc z.1),(9,enc z.2.1)]) (fun z=>[(28, .iter b s z.2.2)]) (fun z=>s.size -z.2.2) (⟨0⟩,true,0) ⟨by simpa using hres,qx3 _⟩ (by simp) (by simp) ?_
 rintro⟨set,beg,pos⟩ ⟨hm,hp⟩
 simp only at hm hp
 by_cases hlt:pos < s.size
 ·obtain⟨c,hc,hc128,hdec⟩:=GL ha hlt
  rw[tO hc]at hm
  have hm:(if(qfc (As t set beg) t.lvs (TE f ⟨(c.toNat:Int)⟩) ⟨0⟩).val=0 then false else qm9 t (TE f) (qgW (s.data.toList.drop (pos+1))) (qfc (As t set beg) t.lvs (TE f ⟨(c.toNat:Int)⟩) ⟨0⟩) false)=y:=hm
  have hN:qeo (t,set,beg):=by show t.fol.length<=100000;omega
  have hq:qed (t,set,beg) (As t set beg):=rfl
  have c0:(0:Int)<=(c.toNat:Int):=by omega
  have c1:(c.toNat:Int) < 128:=by omega
  have hvl:((TE f ⟨(c.toNat:Int)⟩).length:Int)<=9223372036854775807:=by
   have:(TE f ⟨(c.toNat:Int)⟩).length<=3:=by
    unfold TE
    split
    ·unfold Kt
     exact qyp (List.length_filter_le _ _) (by simp)
    ·simp
   omega
  have h8:S (if f=true then cL else dc)=aI (a1 I32) (fun c=>0<=c.val/\c.val < 128) (enc (X:=List I32)) fun c y=>y=TE f c:=by
   cases f
   ·exact h6
   ·exact h7
  simp[hlt,hdec,h4,hN,h8,c0,c1,hvl, -Bool.forall_bool, -Bool.exists_bool]
  intro nx hnx
  obtain rfl:nx=As t set beg:=hnx
  generalize As t set beg=nx at hm
  generalize TE f ⟨(c.toNat:Int)⟩=vs at hm hvl
  refine ai (X:=U64) [2,7,9,12,28,38] [28] vs.length (fun k m=>qfc nx t.lvs (vs.drop k) m=qfc nx t.lvs vs ⟨0⟩) (fun m=>[(8,enc m)]) (fun _=>[]) ⟨0⟩ (by simp) (by simp) (by omega) (by simp) (by simp) (by simp) (by simp) (by simp) ?_ ?_
  ·rintro k m hk hm2
   obtain⟨v,hvk⟩:=PH hk
   obtain⟨_,hgv⟩:=qxz.1 hvk
   rw[tO hvk,qfc]at hm2
   have hlv':(t.lvs.length:Int)<=9223372036854775807:=by omega
   simp[hk,hvk,hgv,hlv', -Bool.forall_bool, -Bool.exists_bool]
   refine ai (X:=U64) [2,7,9,12,14,28,38,39,40,47] [28] t.lvs.length (fun k m'=>qlz nx v k (t.lvs.drop k) m'=qlz nx v 0 t.lvs m) (fun m=>[(8,enc m)]) (fun _=>[]) m (by simp) (by simp) (by omega) (by simp) (by simp) (by simp) (by simp) (by simp) ?_ ?_
   ·rintro j m' hj hm3
    obtain⟨lf,hlf⟩:=PH hj
    obtain⟨_,hgl⟩:=qxz.1 hlf
    rw[tO hlf,qlz]at hm3
    simp[hj,hlf,hgl,h5, -Bool.forall_bool, -Bool.exists_bool]
    refine⟨fun hb=>⟨fun hc=>⟨_,by rw[if_pos (by simp[hb,hc])]at hm3;exact hm3,rfl⟩,fun hc=>⟨m',by rw[if_neg (by simp[hc])]at hm3;exact hm3,rfl⟩⟩,fun hb=>⟨m',by rw[if_neg (by simp[hb])]at hm3;exact hm3,rfl⟩⟩
   ·rintro m' hm3
    rw[qyz,qlz]at hm3
    subst hm3
    simp[-Bool.forall_bool, -Bool.exists_bool]
    exact⟨_,hm2,rfl⟩
  ·rintro m hm2
   rw[qyz,qfc]at hm2
   subst hm2
   simp[-Bool.forall_bool, -Bool.exists_bool]
   refine⟨fun h0=>?_,fun h0=>?_⟩
   ·rw[if_pos h0]at hm
    subst hm
    exact hy
   ·rw[if_neg h0]at hm
    exact⟨_,false,pos+1,⟨hm,by omega⟩,⟨⟨rfl,rfl⟩, .inl rfl⟩,by omega⟩
 ·have hpe:pos=s.size:=by omega
  subst hpe
  rw[qyy (by rw[qx2];exact qxI _)]at hm
  have hm:((beg && t.nul)||decide (Vh .u64 set.val t.la.val≠0))=y:=hm
  simp[-Bool.forall_bool, -Bool.exists_bool]
  have hQ:∀w,w=y->qkU (x,s,f) w:=fun w e=>by subst e;exact hy
  refine⟨fun hb=>⟨fun hn=>hQ _ ?_,fun hn=>hQ _ ?_⟩,fun hb=>hQ _ ?_⟩
  all_goals
   subst hb
   first|subst hn|skip
   rw[<-hm]
   simp[*]
theorem Ho:aq pV pg S (a1 I32) (fun c=>0<=c.val/\c.val < 128) (enc (X:=List I32)) fun c y=>y=TE false c:=by
 rintro⟨c⟩ ⟨c0,c1⟩
 simp[pV,pg, -Bool.forall_bool, -Bool.exists_bool]
 exact cp [⟨c⟩] (by simp) rfl
def Tl(f:Bool)(x:Rx×B):Prop:=∃y,CV x.1 x.2 f=some y
def qee(f:Bool)(x:Rx×B)(y:Bool):Prop:=CV x.1 x.2 f=some y
abbrev Wm(f:Bool):Spc:=aI (a2 Rx B) (Tl f) (enc (X:=Bool)) (qee f)
theorem Lx(h1:S qA=qaY):aq tT sY S (a2 Rx B) (Tl false) (enc (X:=Bool)) (qee false):=by
 rintro⟨x,s⟩ hp
 have hp':qhi (x,s,false):=hp
 simp[tT,sY,h1,hp', -Bool.forall_bool, -Bool.exists_bool]
 exact fun y hy=>hy
theorem Ds(h1:S qA=qaY):aq mh lL S (a2 Rx B) (Tl true) (enc (X:=Bool)) (qee true):=by
 rintro⟨x,s⟩ hp
 have hp':qhi (x,s,true):=hp
 simp[mh,lL,h1,hp', -Bool.forall_bool, -Bool.exists_bool]
 exact fun y hy=>hy
end Go.Gv

namespace Go.Gv
open Cod (enc dec)
variable {S S0:Nat->Spc}
def jZ(c:Int):B:=⟨#[c.toNat.toUInt8]⟩
abbrev s_cpFold1:Spc:=aI (a1 B) (fun s=>∃c:Int,0<=c/\c < 128/\s=jZ c) (enc (X:=B)) fun s y=>∀c:Int,0<=c->c < 128->s=jZ c->y=jZ (low c)
theorem Pn{c:Int}(h0:0<=c)(h1:c < 128):Utf8.encode c=jZ c:=by
 unfold Utf8.encode jZ
 have e:c.toNat < 128:=by omega
 have h:Utf8.valid c=true:=by
  unfold Utf8.valid
  have:c < 55296:=by omega
  simp[h0,this]
 simp[e,h]
theorem O0{c:Int}(h0:0<=c)(h1:c < 128):0<=low c/\low c < 128:=by unfold low;split <;> omega
theorem Wu{c d:Int}(hc:0<=c)(hc':c < 128)(hd:0<=d)(hd':d < 128)(h:jZ c=jZ d):c=d:=by
 have:c.toNat.toUInt8=d.toNat.toUInt8:=by
  have:=congrArg (fun b:B=>b.data.toList.head?) h
  simpa [jZ]using this
 have:=congrArg UInt8.toNat this
 have e1:c.toNat.toUInt8.toNat=c.toNat % 256:=qzd ..
 have e2:d.toNat.toUInt8.toNat=d.toNat % 256:=qzd ..
 omega
theorem qjy{c d:Int}(hc:0<=c)(hc':c < 128)(hd:0<=d)(hd':d < 128):(jZ c=jZ d)=(c=d):=propext ⟨Wu hc hc' hd hd',fun h=>by rw[h]⟩
theorem Tu(h1:S pS=s_cpFold1):aq nY mW S (a1 I32) (fun c=>0<=c.val/\c.val < 128) (enc (X:=List I32)) fun c y=>y=TE true c:=by
 rintro⟨c⟩ ⟨c0,c1⟩
 have c0:0<=c:=c0
 have c1:c < 128:=c1
 obtain⟨l0,l1⟩:=O0 c0 c1
 have hP:∃d:Int,0<=d/\d < 128/\jZ c=jZ d:=⟨c,c0,c1,rfl⟩
 simp[nY,mW,h1,Pn c0 c1,hP, -Bool.forall_bool, -Bool.exists_bool]
 intro y hy b
 obtain rfl:=hy c c0 c1 rfl
 clear hy
 obtain⟨r,hr⟩:∃r,r=low c:=⟨_,rfl⟩
 rw[<-hr]at l0 l1 ⊢
 have hsz:(jZ r).size=1:=rfl
 have hdec:Utf8.decode (jZ r) 0=(r.toNat,1):=by
  have h0:0 < (jZ r).size:=by rw[hsz];omega
  have e1:((jZ r)[0]'h0).toNat=r.toNat % 256:=qzd ..
  have e2:((jZ r)[0]'h0).toNat=r.toNat:=by omega
  rw[Go.decode_ascii (jZ r) 0 h0 (by omega),e2]
 refine av (X:=Nat×Value×List I32) [4,13] [] (fun z=>z.1=0/\z.2.1= .slice none 0 0/\z.2.2=[]\/z.1=1/\z.2.2=Kt ⟨c⟩) (fun z=>[(3, .own 40 z.2.1)]) (fun z=>[(13, .iter b (jZ r) z.1),(40, .row z.2.1 IV 1 (z.2.2.map enc))]) (fun z=>1 -z.1) (0, .slice none 0 0, []) (.inl ⟨rfl,rfl,rfl⟩) (by simp) (by simp[isNilRow]) ?_
 rintro⟨pos,v,l⟩ hz
 simp only at hz
 rcases hz with⟨rfl,rfl,rfl⟩|⟨rfl,rfl⟩
 ·have hrn:((r.toNat:Nat):Int)=r:=by omega
  have i1:InR .i32 (r -32):=by simp only[InR];omega
  have i2:InR .i32 (r -80):=by simp only[InR];omega
  simp[hsz,hdec,hrn,i1,i2, -Bool.forall_bool, -Bool.exists_bool]
  have hfo:∀l:List I32,l=([⟨r⟩,⟨r -32⟩,⟨r -80⟩]:List I32).filter (fun v=>decide (0<=v.val/\low v.val=r))->l=Kt ⟨c⟩:=fun l hl=>by
   rw[hl,Kt]
   simp only[<-hr]
  refine ai (X:=Value×List I32) [4,13,22] [13] 3 (fun k z=>z.2=(([⟨r⟩,⟨r -32⟩,⟨r -80⟩]:List I32).take k).filter (fun v=>decide (0<=v.val/\low v.val=r))/\z.2.length<=k) (fun z=>[(3, .own 40 z.1)]) (fun z=>[(40, .row z.1 IV 1 (z.2.map enc))]) (.slice none 0 0, []) (by simp) (by simp) (by omega) (by simp) (by simp) ⟨rfl,by simp⟩ (by simp) (by simp[isNilRow]) ?_ ?_
  ·rintro k ⟨v,l⟩ hk ⟨hl,hlen⟩
   simp only at hl hlen
   obtain⟨e,he,hee⟩:∃e:Int,e < 128/\([⟨r⟩,⟨r -32⟩,⟨r -80⟩]:List I32)[k]? =some ⟨e⟩/\([.v (.int .i32 r), .v (.int .i32 (r -32)), .v (.int .i32 (r -80))]:List D)[k]? =some (.v (.int .i32 e)):=by
    rcases(by omega:k=0\/k=1\/k=2)with rfl|rfl|rfl
    ·exact⟨r,by omega,rfl,rfl⟩
    ·exact⟨r -32,by omega,rfl,rfl⟩
    ·exact⟨r -80,by omega,rfl,rfl⟩
   obtain⟨he1,he2⟩:=hee
   have he3:∀h,([.v (.int .i32 r), .v (.int .i32 (r -32)), .v (.int .i32 (r -80))]:List D)[k]'h= .v (.int .i32 e):=fun h=>by
    obtain⟨_,h2⟩:=qxz.1 he2
    exact h2
   have hki:(k:Int) < 3:=by omega
   have hstep:(([⟨r⟩,⟨r -32⟩,⟨r -80⟩]:List I32).take (k+1)).filter (fun v=>decide (0<=v.val/\low v.val=r))=l++ ([⟨e⟩]:List I32).filter (fun v=>decide (0<=v.val/\low v.val=r)):=by
    rw[qy5,he1,qzv,<-hl]
    rfl
   by_cases h0:0<=e
   ·obtain⟨q0,q1⟩:=O0 h0 he
    have hPe:∃d:Int,0<=d/\d < 128/\jZ e=jZ d:=⟨e,h0,he,rfl⟩
    simp[hk,hki,he2,he3,h0,h1,Pn h0 he,hPe, -Bool.forall_bool, -Bool.exists_bool]
    intro y hy
    obtain rfl:=hy e h0 he rfl
    rw[qjy q0 q1 l0 l1]
    refine⟨fun hh=>⟨by omega,by omega,fun v=>⟨v,l++ [⟨e⟩],⟨?_,by simp;omega⟩,rfl, .inl ⟨rfl,by simp⟩⟩⟩,fun hh=>⟨v,l,⟨?_,by omega⟩,rfl, .inl ⟨rfl,rfl⟩⟩⟩
    ·simpa [h0,hh]using hstep.symm
    ·simpa [h0,hh]using hstep.symm
   ·simp[hk,hki,he2,he3,h0, -Bool.forall_bool, -Bool.exists_bool]
    refine⟨v,l,⟨?_,by omega⟩,rfl, .inl ⟨rfl,rfl⟩⟩
    simpa [h0]using hstep.symm
  ·rintro⟨v,l⟩ ⟨hl,hlen⟩
   simp only at hl hlen
   have hl:=hfo l hl
   simp[-Bool.forall_bool, -Bool.exists_bool]
   exact⟨1,v,l, .inr ⟨rfl,hl⟩,⟨rfl, .inl rfl, .inl ⟨rfl,rfl⟩⟩,rfl⟩
 ·simp[hsz, -Bool.forall_bool, -Bool.exists_bool]
  exact cp (Kt ⟨c⟩) (gl (l:=Kt ⟨c⟩) IV rfl) rfl
end Go.Gv

namespace Go.Gv
open Go.Proofs
def dY:CC:=gq Tryz.f221 [] {} _
def dP:List aj:=[.tmp 4]
theorem qN:ak Tryz.prog eo [] dY dP 19:=fo
def eF:CC:=gq Tryz.f266 [] {} _
def eC:List aj:=[.tmp 4]
theorem sw:ak Tryz.prog eP [] eF eC 9:=fo
def fJ:CC:=gq Tryz.f291 [] {} _
def fF:List aj:=[.tmp 4]
theorem vC:ak Tryz.prog fX [] fJ fF 19:=fo
def eb:CC:=gq Tryz.f181 [] {} _
def dR:List aj:=[.tmp 4]
theorem gr:ak Tryz.prog bA [] eb dR 9:=fo
def eR:CC:=gq Tryz.f228 [] {} _
def eN:List aj:=[.tmp 4]
theorem jx:ak Tryz.prog dh [] eR eN 19:=fo
def gd:CC:=gq Tryz.f290 [3] {} _
def fQ:List aj:=[.tmp 4]
theorem wH:ak Tryz.prog gM [3] gd fQ 9:=fo
def jJ:CC:=gq Tryz.f306 [3] {} _
def jj:List aj:=[.tmp 4]
theorem Ac:ak Tryz.prog kR [3] jJ jj 19:=fo
def gR:CC:=gq Tryz.f168 [] {} _
def gB:List aj:=[.tmp 4]
theorem xH:ak Tryz.prog cy [] gR gB 19:=fo
def cm:CC:=gq Tryz.f119 [] {} _
def cj:List aj:=[.tmp 4]
theorem kC:ak Tryz.prog aQ [] cm cj 9:=fo
def jR:CC:=gq Tryz.f121 [3] {} _
def jr:List aj:=[.tmp 6, .tmp 7]
theorem Ao:ak Tryz.prog eA [3] jR jr 40:=fo
def oO:CC:=gq Tryz.f122 [2] {} _
def nt:List aj:=[.tmp 4]
theorem Eu:ak Tryz.prog ga [2] oO nt 29:=fo
def bb:CC:=gq Tryz.f170 [1,2034005,2033005,2043005,2042005,2041005,2052005,2051005,2050005] {} _
def ba:List aj:=[.tmp 2]
theorem CH:ak Tryz.prog nT [1,2034005,2033005,2043005,2042005,2041005,2052005,2051005,2050005] bb ba 108:=fo
def gZ:CC:=gq Tryz.f173 [3] {} _
def gJ:List aj:=[.tmp 4]
theorem xN:ak Tryz.prog bG [3] gZ gJ 8:=fo
def fK:CC:=gq Tryz.f222 [2] {} _
def fG:List aj:=[.tmp 3]
theorem vE:ak Tryz.prog bN [2] fK fG 8:=fo
def gY:CC:=gq Tryz.f219 [] {} _
def gI:List aj:=[.tmp 4]
theorem CL:ak Tryz.prog jc [] gY gI 14:=fo
def bX:CC:=gq Tryz.f171 [2] {} _
def bP:List aj:=[.tmp 4]
theorem CJ:ak Tryz.prog nU [2] bX bP 50:=fo
def cI:CC:=gq Tryz.f124 [3] {} _
def cH:List aj:=[.tmp 6]
theorem CM:ak Tryz.prog nV [3] cI cH 59:=fo
def iU:CC:=gq Tryz.f74 [5,4,3] {} _
def iK:List aj:=[.tmp 6]
theorem zu:ak Tryz.prog fw [5,4,3] iU iK 23:=fo
def gi:CC:=gq Tryz.f123 [3] {} _
def fU:List aj:=[.tmp 4]
theorem wK:ak Tryz.prog cg [3] gi fU 9:=fo
def bY:CC:=gq Tryz.f263 [3] {} _
def bQ:List aj:=[.tmp 6]
theorem CN:ak Tryz.prog nW [3] bY bQ 38:=fo
def li:CC:=gq Tryz.f265 [5,4,3] {} _
def kN:List aj:=[.tmp 6]
theorem BI:ak Tryz.prog mf [5,4,3] li kN 11:=fo
def bI:CC:=gq Tryz.f289 [3] {} _
def bF:List aj:=[.tmp 4]
theorem zt:ak Tryz.prog bV [3] bI bF 37:=fo
end Go.Gv

namespace Go.Gv
open Cod (enc dec)
variable {S S0:Nat->Spc}
def FunOn{X Y:Type}[Cod X][Cod Y](S:Nat->Spc)(d:D)(l:List X)(p:X->Y):Prop:=
 ∃g caps pc,d= .clo g caps/\S g= .pure pc/\∀x∈l,pc.pre (enc x::caps)/\∀r,pc.post (enc x::caps) r->r=enc (p x)
theorem FunOn.useB{X:Type}[Cod X]{S:Nat->Spc}{d:D}{l:List X}{p:X->Bool}(h:FunOn S d l p){x:X}(hx:x∈l){d':Nat}{H:ab}{K:D->ab->Prop}(hk:∀y:Bool,(∀q:X->Bool,FunOn S d l q->y=q x)->K (.v (.bool y)) H):AY S d d' [enc x] H K:=by
 obtain⟨g,caps,pc,rfl,h1,h2⟩:=h
 simp only[AY,h1,Spc.pt]
 refine⟨(h2 x hx).1,fun r hr=>?_⟩
 have e:=(h2 x hx).2 r hr
 rw[e]
 refine hk (p x) fun q hq=>?_
 obtain⟨g',caps',pc',e',k1,k2⟩:=hq
 cases e'
 rw[h1]at k1
 cases k1
 exact aK (e.symm.trans ((k2 x hx).2 r hr))
theorem wP{X Y Z:Type}[Cod X][Cod Y]{S:Nat->Spc}{g:Nat}{caps:List D}{A:df Z}{pre:Z->Prop}{post:Z->Y->Prop}{l:List X}{p:X->Y}{f:X->Z}(h:S g=aI A pre enc post)(hd:∀x∈l,A.dec (enc x::caps)=some (f x))(hp:∀x∈l,pre (f x))(hq:∀x∈l,∀y,post (f x) y->y=p x):FunOn S (.clo g caps) l p:=by
 refine⟨g,caps,_,rfl,h,fun x hx=>⟨⟨f x,hd x hx,hp x hx⟩,fun r hr=>?_⟩⟩
 obtain⟨y,h1,h2⟩:=hr (f x) (hd x hx) (hp x hx)
 rw[h1,hq x hx y h2]
def Vs{X:Type}[Cod X](S0:Nat->Spc)(x:List X×D×Unit):Prop:=∃p:X->Bool,FunOn S0 x.2.1 x.1 p
def qhh{X:Type}[Cod X](S0:Nat->Spc)(x:List X×D×Unit)(y:Int):Prop:=∀p:X->Bool,FunOn S0 x.2.1 x.1 p->y=fW x.1 p
def qkX{X:Type}[Cod X](S0:Nat->Spc)(x:List X×D×Unit)(y:Bool):Prop:=∀p:X->Bool,FunOn S0 x.2.1 x.1 p->y=x.1.any p
abbrev Ul(X:Type)[Cod X](S0:Nat->Spc):Spc:=aI (aE (List X) (aD a0)) (Vs S0) (enc (X:=Int)) (qhh S0)
abbrev Yp(X:Type)[Cod X](S0:Nat->Spc):Spc:=aI (aE (List X) (aD a0)) (Vs S0) (enc (X:=Bool)) (qkX S0)
theorem IP:aq dY dP S (aE (List Attr) (aD a0)) (Vs S) (enc (X:=Int)) (qhh S):=by
 rintro⟨l,d,⟨⟩⟩ ⟨p,hp⟩
 simp only at hp
 simp[dY,dP, -Bool.forall_bool, -Bool.exists_bool]
 intro _
 refine ai (X:=Unit) [0,1] [] l.length (fun k _=>∀p:Attr->Bool,FunOn S d l p->∀x∈l.take k,p x=false) (fun _=>[]) (fun _=>[]) () (by simp) (by simp) (by omega) (by simp) (by simp) (by simp) (by simp) (by simp) ?_ ?_
 ·intro k _ hk hP
  obtain⟨x,hx⟩:∃x,l[k]? =some x:=⟨_,qxA hk⟩
  obtain⟨_,hgx⟩:=qxz.1 hx
  simp[hk,hx,hgx, -Bool.forall_bool, -Bool.exists_bool]
  refine hp.useB (x:=x) (qxC hx) fun y hy=>?_
  simp[-Bool.forall_bool, -Bool.exists_bool]
  refine⟨fun h=>?_,fun h p' hp'=>?_⟩
  ·intro p' hp'
   exact(uR hx (by rw[<-hy p' hp',h]) (hP p' hp')).symm
  ·rw[bc hx]
   intro z hz
   rcases qxE.1 hz with hz|hz
   ·exact hP p' hp' z hz
   ·simp at hz;subst hz;rw[<-hy p' hp',h]
 ·intro _ hP
  simp[-Bool.forall_bool, -Bool.exists_bool]
  intro p' hp'
  exact(mM (by simpa using hP p' hp')).symm
theorem X7:aq fJ fF S (aE (List Cond) (aD a0)) (Vs S) (enc (X:=Int)) (qhh S):=by
 rintro⟨l,d,⟨⟩⟩ ⟨p,hp⟩
 simp only at hp
 simp[fJ,fF, -Bool.forall_bool, -Bool.exists_bool]
 intro _
 refine ai (X:=Unit) [0,1] [] l.length (fun k _=>∀p:Cond->Bool,FunOn S d l p->∀x∈l.take k,p x=false) (fun _=>[]) (fun _=>[]) () (by simp) (by simp) (by omega) (by simp) (by simp) (by simp) (by simp) (by simp) ?_ ?_
 ·intro k _ hk hP
  obtain⟨x,hx⟩:∃x,l[k]? =some x:=⟨_,qxA hk⟩
  obtain⟨_,hgx⟩:=qxz.1 hx
  simp[hk,hx,hgx, -Bool.forall_bool, -Bool.exists_bool]
  have e:D.agg [.v (.int .i64 x.op), .v (.string x.name), .v (.string x.arg), .v (.string x.val), .v (.string x.lab), .v (.bool x.fold), .list 7 (x.kids.map enc)]=enc x:=by simp
  rw[e]
  refine hp.useB (x:=x) (qxC hx) fun y hy=>?_
  simp[-Bool.forall_bool, -Bool.exists_bool]
  refine⟨fun h=>?_,fun h p' hp'=>?_⟩
  ·intro p' hp'
   exact(uR hx (by rw[<-hy p' hp',h]) (hP p' hp')).symm
  ·rw[bc hx]
   intro z hz
   rcases qxE.1 hz with hz|hz
   ·exact hP p' hp' z hz
   ·simp at hz;subst hz;rw[<-hy p' hp',h]
 ·intro _ hP
  simp[-Bool.forall_bool, -Bool.exists_bool]
  intro p' hp'
  exact(mM (by simpa using hP p' hp')).symm
theorem X8(h1:S fX=Ul Cond S0):aq eF eC S (aE (List Cond) (aD a0)) (Vs S0) (enc (X:=Bool)) (qkX S0):=by
 rintro⟨l,d,⟨⟩⟩ hp
 simp[eF,eC,h1, -Bool.forall_bool, -Bool.exists_bool]
 refine⟨hp,fun y hy p' hp'=>?_⟩
 rw[hy p' hp']
 exact uQ p' l
theorem GR:aq eR eN S (aE (List Region) (aD a0)) (Vs S) (enc (X:=Int)) (qhh S):=by
 rintro⟨l,d,⟨⟩⟩ ⟨p,hp⟩
 simp only at hp
 simp[eR,eN, -Bool.forall_bool, -Bool.exists_bool]
 intro _
 refine ai (X:=Unit) [0,1] [] l.length (fun k _=>∀p:Region->Bool,FunOn S d l p->∀x∈l.take k,p x=false) (fun _=>[]) (fun _=>[]) () (by simp) (by simp) (by omega) (by simp) (by simp) (by simp) (by simp) (by simp) ?_ ?_
 ·intro k _ hk hP
  obtain⟨x,hx⟩:∃x,l[k]? =some x:=⟨_,qxA hk⟩
  obtain⟨_,hgx⟩:=qxz.1 hx
  simp[hk,hx,hgx, -Bool.forall_bool, -Bool.exists_bool]
  refine hp.useB (x:=x) (qxC hx) fun y hy=>?_
  simp[-Bool.forall_bool, -Bool.exists_bool]
  refine⟨fun h=>?_,fun h p' hp'=>?_⟩
  ·intro p' hp'
   exact(uR hx (by rw[<-hy p' hp',h]) (hP p' hp')).symm
  ·rw[bc hx]
   intro z hz
   rcases qxE.1 hz with hz|hz
   ·exact hP p' hp' z hz
   ·simp at hz;subst hz;rw[<-hy p' hp',h]
 ·intro _ hP
  simp[-Bool.forall_bool, -Bool.exists_bool]
  intro p' hp'
  exact(mM (by simpa using hP p' hp')).symm
theorem GS(h1:S dh=Ul Region S0):aq eb dR S (aE (List Region) (aD a0)) (Vs S0) (enc (X:=Bool)) (qkX S0):=by
 rintro⟨l,d,⟨⟩⟩ hp
 simp[eb,dR,h1, -Bool.forall_bool, -Bool.exists_bool]
 refine⟨hp,fun y hy p' hp'=>?_⟩
 rw[hy p' hp']
 exact uQ p' l
end Go.Gv
