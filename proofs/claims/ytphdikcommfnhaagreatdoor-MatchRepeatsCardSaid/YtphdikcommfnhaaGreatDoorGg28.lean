/- A part of the framework and of the walks: W143 T34 W144 V54 C56 W145 W146 C57 W150. -/
import Derived.Laws.RangeString
import Derived.Test.YtphdikcommfnhaaGreatDoorGg27
import Derived.Test.YtphdikcommfnhaaGreatDoorGg26
import Derived.Test.YtphdikcommfnhaaGreatDoorGg20
import Derived.Test.YtphdikcommfnhaaGreatDoorGg21
import Derived.Test.YtphdikcommfnhaaGreatDoorGg19
set_option linter.unusedSimpArgs false
set_option linter.unusedVariables false
set_option linter.unusedSectionVars false
set_option maxRecDepth 100000
set_option maxHeartbeats 0

namespace Go.Gv
open Cod (enc dec)
variable {S S0:Nat->Spc}
def qei(b:Tbk->Rx->Option (Tbk×Prt))(o:Tbk->Rx×Int->Option (Tbk×Prt))(y:Rx)(mn mx:Int)(q:Tbk×Prt×Bool):Option (Tbk×Prt):=
 if q.2.2=true then some (q.1,Bg)else
  if mx < 0/\mn=0 then(b q.1 y).bind fun r=>(C1 r.1 (r.2.last,r.2.first)).map fun l=>(l.1, { r.2 with nul:=true })else
  if mn < mx then(o q.1 (y,mx -mn)).bind fun r=>xi r.1 (q.2.1,r.2)else some (q.1,q.2.1)
set_option maxHeartbeats 2000000 in
theorem Xd(n:Nat)(h1:S cx=G5 n)(h2:S dI=Re n)(h3:S cT=Ga)(h4:S fl=L0):EP gg fO S (a1 Rx) (enc (X:=Prt)) (BJ (n+1)).r:=by
 rintro b v v' t ⟨op,mn,mx,rs,ks⟩ r hF
 replace hF:Yu (BJ n).b (BJ n).o t ⟨op,mn,mx,rs,ks⟩=some r:=hF
 unfold Yu at hF
 simp only at hF
 split at hF
 ·cases hF
 rename_i y ks'
 split at hF
 ·cases hF
 rename_i hrng
 obtain⟨q,hq,hF⟩:=qtE.1 hF
 have hF:qei (BJ n).b (BJ n).o y mn mx q=some r:=hF
 have hm:mn=(mn.toNat:Int):=by omega
 generalize mn.toNat=m at hm hq
 subst hm
 have hm':(m:Int)<=9223372036854775807:=by omega
 have hpos:(0:Int) < ((y::ks').length:Int):=by simp
 simp[gg,fO,uO,nw,ny,qL,hm', -Bool.forall_bool, -Bool.exists_bool]
 intro b4 b5
 refine ai (X:=Tbk×Prt×Value×Value) [0,3,4,5] [4] m (fun k x=>(qi1 (BJ n).b y mx (m -k) x.1 x.2.1).bind (qei (BJ n).b (BJ n).o y m mx)=some r) (fun x=>[]) (fun x=>[(0, .box b [.own 990 x.2.2.1, .v (.int .u64 x.1.fi.val), .v (.int .u64 x.1.la.val), .own 991 x.2.2.2, .v (.bool x.1.nul)]),(990, .row x.2.2.1 dN 1 (x.1.lvs.map enc)),(991, .row x.2.2.2 eF 1 (x.1.fol.map enc)),(5, .box b5 [.v (.int .u64 x.2.1.first.val), .v (.int .u64 x.2.1.last.val), .v (.bool x.2.1.nul)])]) (t,Bg,v,v') (by simp) (by simp) (by omega) (by simp) (by simp) (by simp[hq,hF]) (by simp) (by simp[Bg]) ?_ ?_
 ·rintro k ⟨t,p,w,w'⟩ hk hx
  rw[show m -k=(m - (k+1)) +1 by omega,qi1]at hx
  simp only at hx
  split at hx
  ·cases hx
  rename_i hok
  obtain⟨hlv,hfo⟩:=uR hok
  have hlv':(t.lvs.length:Int)<=9223372036854775807:=by omega
  cases hb:(BJ n).b t y with
  | none=>rw[hb]at hx;cases hx
  | some c=>
  rw[hb,qtY]at hx
  split at hx
  ·cases hx
  rename_i hok2
  obtain⟨hlq,hfq⟩:=uR hok2
  have hlq':(c.1.lvs.length:Int)<=9223372036854775807:=by omega
  split at hx
  ·rename_i e
   have e':(c.1.lvs.length:Int)=t.lvs.length:=by omega
   simp[hk,h1,hb,hlv',hlq',e,e', -Bool.forall_bool, -Bool.exists_bool]
   have hx:some (c.1,Bg)=some r:=hx
   obtain rfl:=qtV hx
   exact fun u u'=>uX u u' c.1 Bg rfl rfl rfl rfl rfl
  rename_i e
  have e':¬ (c.1.lvs.length:Int)=t.lvs.length:=by omega
  have hin:InR .i64 ((m:Int) -1):=by simp only[InR];omega
  by_cases hmx:mx < 0
  ·by_cases hkm:m - (k+1)=0
   ·rw[if_pos ⟨hmx,hkm⟩]at hx
    have hkm':(k:Int)=m -1:=by omega
    cases hl:C1 c.1 (c.2.last,c.2.first)with
    | none=>rw[hl]at hx;cases hx
    | some l=>
    rw[hl,qtY]at hx
    cases hc:xi l.1 (p,c.2)with
    | none=>rw[hc]at hx;cases hx
    | some d=>
    rw[hc,qtY]at hx
    simp[hk,h1,h3,h4,hb,hl,hc,hlv',hlq',e,e',hin,hmx,hkm', -Bool.forall_bool, -Bool.exists_bool]
    exact fun u u'=>⟨d.1,d.2,hx,u,u', .inl ⟨rfl,rfl,rfl,rfl,rfl⟩, .inl ⟨rfl,rfl⟩, .inl ⟨rfl,rfl⟩, .inl ⟨rfl,rfl,rfl⟩⟩
   ·rw[if_neg (fun h=>hkm h.2)]at hx
    have hkm':¬ (k:Int)=m -1:=by omega
    rw[qtY]at hx
    cases hc:xi c.1 (p,c.2)with
    | none=>rw[hc]at hx;cases hx
    | some d=>
    rw[hc,qtY]at hx
    simp[hk,h1,h3,h4,hb,hc,hlv',hlq',e,e',hin,hmx,hkm', -Bool.forall_bool, -Bool.exists_bool]
    exact fun u u'=>⟨d.1,d.2,hx,u,u', .inl ⟨rfl,rfl,rfl,rfl,rfl⟩, .inl ⟨rfl,rfl⟩, .inl ⟨rfl,rfl⟩, .inl ⟨rfl,rfl,rfl⟩⟩
  ·rw[if_neg (fun h=>hmx h.1)]at hx
   rw[qtY]at hx
   cases hc:xi c.1 (p,c.2)with
   | none=>rw[hc]at hx;cases hx
   | some d=>
   rw[hc,qtY]at hx
   simp[hk,h1,h3,h4,hb,hc,hlv',hlq',e,e',hmx, -Bool.forall_bool, -Bool.exists_bool]
   exact fun u u'=>⟨d.1,d.2,hx,u,u', .inl ⟨rfl,rfl,rfl,rfl,rfl⟩, .inl ⟨rfl,rfl⟩, .inl ⟨rfl,rfl⟩, .inl ⟨rfl,rfl,rfl⟩⟩
 ·rintro⟨t,p,w,w'⟩ hx
  simp only[qvh,qi1,qtY]at hx
  have hx:(if mx < 0/\(m:Int)=0 then((BJ n).b t y).bind fun r=>(C1 r.1 (r.2.last,r.2.first)).map fun l=>(l.1, { r.2 with nul:=true })else
   if(m:Int) < mx then((BJ n).o t (y,mx -m)).bind fun r=>xi r.1 (p,r.2)else some (t,p))=some r:=hx
  by_cases hA:mx < 0/\(m:Int)=0
  ·rw[if_pos hA]at hx
   obtain⟨hmx,hm0⟩:=hA
   obtain⟨c,hb,hx⟩:=qtE.1 hx
   obtain⟨l,hl,rfl⟩:=qtR.1 hx
   have hm0':m=0:=by omega
   subst hm0'
   simp[h1,h4,hb,hl,hmx, -Bool.forall_bool, -Bool.exists_bool]
   exact fun u u'=>uX u u' l.1 _ rfl rfl rfl rfl ⟨rfl,rfl⟩
  ·rw[if_neg hA]at hx
   by_cases hB:(m:Int) < mx
   ·rw[if_pos hB]at hx
    obtain⟨c,hb,hx⟩:=qtE.1 hx
    have n0:¬mx < 0:=by omega
    have hin:InR .i64 (mx -m):=by simp only[InR];omega
    simp[h2,h3,hb,hx,n0,hB,hin, -Bool.forall_bool, -Bool.exists_bool]
    exact fun u u'=>uX u u' r.1 r.2 rfl rfl rfl rfl rfl
   ·rw[if_neg hB]at hx
    obtain rfl:=qtV hx
    by_cases hmx:mx < 0
    ·have hm0:¬ (m:Int)=0:=fun h=>hA ⟨hmx,h⟩
     have hm0':¬m=0:=by omega
     simp[hmx,hm0,hm0',hB, -Bool.forall_bool, -Bool.exists_bool]
     exact uX w w' t p rfl rfl rfl rfl ⟨rfl,rfl⟩
    ·simp[hmx,hB, -Bool.forall_bool, -Bool.exists_bool]
     exact uX w w' t p rfl rfl rfl rfl ⟨rfl,rfl⟩
end Go.Gv

namespace Go.Gv
open Cod (enc dec)
def R6(t:Tbk):D:= .cptr [enc t.lvs,enc t.fi,enc t.la,enc t.fol,enc t.nul] 0
theorem ZZ{t t':Tbk}(h:R6 t=R6 t'):t=t':=by
 obtain⟨a1,a2,a3,a4,a5⟩:=t
 obtain⟨b1,b2,b3,b4,b5⟩:=t'
 unfold R6 at h
 injection h with h1 h2
 simp only[qt5]at h1
 obtain⟨h1,h2,h3,h4,h5,_⟩:=h1
 have h1:=aL h1
 have h2:=aL h2
 have h3:=aL h3
 have h4:=aL h4
 have h5:=aL h5
 subst h1;subst h2;subst h3;subst h4;subst h5
 rfl
open Classical in
noncomputable instance:Cod Tbk where
 wd:=1
 enc:=R6
 dec d:=if h:∃t,d=R6 t then some h.choose else none
 kn _:=rfl
 wid _:=rfl
 dec_enc t:=by
  have h:∃t',R6 t=R6 t':=⟨t,rfl⟩
  rw[dif_pos h]
  exact congrArg some (ZZ h.choose_spec).symm
 le d x h:=by
  split at h
  ·rename_i h'
   cases h
   rw[h'.choose_spec.symm]
   exact .same _
  ·cases h
@[simp] theorem qm9(t:Tbk):enc t= .cptr [enc t.lvs,enc t.fi,enc t.la,enc t.fol,enc t.nul] 0:=id rfl
@[simp] theorem qnj(l:List (List Rng))(f a:Int)(fo:List U64)(n:Bool):dec (X:=Tbk) (.cptr [.list 1 (l.map enc), .v (.int .u64 f), .v (.int .u64 a), .list 1 (fo.map enc), .v (.bool n)] 0)=some ⟨l,⟨f⟩,⟨a⟩,fo,n⟩:=Cod.dec_enc (X:=Tbk) ⟨l,⟨f⟩,⟨a⟩,fo,n⟩
end Go.Gv

namespace Go.Gv
open Cod (enc dec)
variable {S S0:Nat->Spc}
def qdW(n:Nat)(x:Rx):Prop:=(qb0 n x).isSome=true
def qhh(n:Nat)(x:Rx)(t:Tbk):Prop:=qb0 n x=some t
noncomputable abbrev qeb(n:Nat):Spc:=aS (a1 Rx) (qdW n) (enc (X:=Tbk)) (qhh n)
theorem qou(n:Nat)(h1:S cx=G5 n):aq wN vL S (a1 Rx) (qdW n) (enc (X:=Tbk)) (qhh n):=by
 rintro x hx
 obtain⟨t,ht⟩:=quB.1 hx
 obtain⟨q,hq,rfl⟩:=qtR.1 ht
 have hq0:(BJ n).b ⟨[],⟨0⟩,⟨0⟩, [],false⟩ x=some q:=hq
 simp[wN,vL, -Bool.forall_bool, -Bool.exists_bool]
 refine jj (X:=Nat) [1] [] [] [] (fun _=>True) (fun b=>[(3, .bptr 6 b 0)]) (fun b=>[(6, .box b [.own 990 (.slice none 0 0), .v (.int .u64 0), .v (.int .u64 0), .own 991 (.slice none 0 0), .v (.bool false)]),(990, .row (.slice none 0 0) dN 1 []),(991, .row (.slice none 0 0) eF 1 [])]) [6,990,991] (fun _=>rfl) (by decide) ?_ ?_
 ·simp
  refine fun b=>⟨b, .same _, .inl ?_,by simp[isNilRow],by simp[isNilRow]⟩
  simp
  exact⟨.nilown 990, .nilown 991⟩
 ·rintro b -
  have e1:(Res.row (.slice none 0 0) dN 1 []:Res)= .row (.slice none 0 0) dN 1 (([]:List (List Rng)).map enc):=rfl
  have e2:(Res.row (.slice none 0 0) eF 1 []:Res)= .row (.slice none 0 0) eF 1 (([]:List U64).map enc):=rfl
  rw[e1,e2]
  simp[h1,hq0, -List.map_nil, -Bool.forall_bool, -Bool.exists_bool]
  simp[hq0, -Bool.forall_bool, -Bool.exists_bool]
  intro w w'
  refine jj (X:=Unit) [] [] [990,991] [] (fun _=>True) (fun _=>[(2, .bptr 6 b 0)]) (fun _=>[(6, .box b [enc q.1.lvs, .v (.int .u64 q.2.first.val), .v (.int .u64 q.2.last.val),enc q.1.fol, .v (.bool q.2.nul)])]) [6] (fun _=>rfl) (by decide) ?_ ?_
  ·simp
   exact .inl ⟨gP (l:=q.1.lvs) dN rfl,gP (l:=q.1.fol) eF rfl⟩
  ·rintro - -
   simp
   refine cB ⟨q.1.lvs,q.2.first,q.2.last,q.1.fol,q.2.nul⟩ ?_ ht
   exact .box rfl
def qbc(x:Tbk×U64×Bool):Prop:=x.1.fol.length<=100000
def qa4(x:Tbk×U64×Bool)(y:U64):Prop:=y=yD x.1 x.2.1 x.2.2
noncomputable abbrev XW:Spc:=aS (a3 Tbk U64 Bool) qbc (enc (X:=U64)) qa4
theorem qbP:aq eX eO S (a3 Tbk U64 Bool) qbc (enc (X:=U64)) qa4:=by
 rintro⟨⟨lv,fi,la,fo,nu⟩,set,beg⟩ hlen
 have hlen:fo.length<=100000:=hlen
 have hl:(fo.length:Int)<=9223372036854775807:=by omega
 cases beg
 ·simp[eX,eO,hl, -Bool.forall_bool, -Bool.exists_bool]
  refine ai (X:=U64) [1,18] [] fo.length (fun k m=>qeo set k (fo.drop k) m=qeo set 0 fo ⟨0⟩) (fun m=>[(7,enc m)]) (fun x=>[]) ⟨0⟩ (by simp) (by simp) (by omega) (by simp) (by simp) (by simp) (by simp) (by simp) ?_ ?_
  ·rintro k m hk hm
   obtain⟨f,hf⟩:∃f,fo[k]? =some f:=⟨_,qtH hk⟩
   obtain⟨_,hgf⟩:=qtG.1 hf
   rw[YV hf]at hm
   simp[hk,hf,hgf, -Bool.forall_bool, -Bool.exists_bool]
   exact⟨fun hb=>⟨qcm m f,by simpa [hb]using hm,rfl⟩,fun hb=>⟨m,by simpa [hb]using hm,rfl⟩⟩
  ·rintro m hm
   rw[quH,qeo]at hm
   subst hm
   simp[-Bool.forall_bool, -Bool.exists_bool]
   exact cB _ (.same _) rfl
 ·simp[eX,eO,hl, -Bool.forall_bool, -Bool.exists_bool]
  exact cB _ (.same _) rfl
end Go.Gv

namespace Go.Gv
open Cod (enc dec)
def M5(l:List Rng)(c:Int):Bool:=l.any fun r=>decide (r.fr.val<=c) && decide (c<=r.to.val)
def qhQ(next:U64)(c:I32):Nat->List (List Rng)->U64->U64
 | _, [],m=>m
 | i,l::ls,m=>qhQ next c (i+1) ls (if WI next i && M5 l c.val then⟨qjd .u64 m.val (Oi .u64 1 i)⟩else m)
def qbT(next:U64)(lvs:List (List Rng)):List I32->U64->U64
 | [],m=>m
 | v::vs,m=>qbT next lvs vs (qhQ next v 0 lvs m)
def qjp(t:Tbk)(vf:I32->List I32):List I32->U64->Bool->Bool
 | [],set,beg=>(beg && t.nul)||decide (So .u64 set.val t.la.val≠0)
 | c::l,set,beg=>if(qbT (yD t set beg) t.lvs (vf c) ⟨0⟩).val=0 then false else qjp t vf l (qbT (yD t set beg) t.lvs (vf c) ⟨0⟩) false
def low(c:Int):Int:=if 65<=c/\c<=90 then c+32 else c
def Ie(c:I32):List I32:=([⟨low c.val⟩,⟨low c.val -32⟩,⟨low c.val -80⟩]:List I32).filter fun v=>decide (0<=v.val/\low v.val=low c.val)
def QQ(f:Bool)(c:I32):List I32:=if f=true then Ie c else[c]
def qdz(l:List UInt8):List I32:=l.map fun c=>⟨(c.toNat:Int)⟩
def Bh(x:Rx)(s:B)(f:Bool):Option Bool:=if AH 50 x=true/\ux s=true/\s.size<=1000 then(qb0 50 x).bind fun t=>if My t=true then some (qjp t (QQ f) (qdz s.data.toList) ⟨0⟩ true)else none else none
end Go.Gv

namespace Go.Gv
open Go.Proofs
def rX:CC:=gq Tryz.f303 [3] {} _
def re:List aj:=[.tmp 6]
theorem Hw:am Tryz.prog oV [3] rX re 88:=fo
def rZ:CC:=gq Tryz.f286 [2] {} _
def rh:List aj:=[.tmp 4]
theorem Hy:am Tryz.prog tT [2] rZ rh 8:=fo
def oc:CC:=gq Tryz.f305 [] {} _
def nC:List aj:=[.tmp 2]
theorem DZ:am Tryz.prog cK [] oc nC 5:=fo
def kX:CC:=gq Tryz.f285 [2] {} _
def kE:List aj:=[.tmp 4]
theorem AV:am Tryz.prog mD [2] kX kE 8:=fo
def mR:CC:=gq Tryz.f304 [] {} _
def lP:List aj:=[.tmp 2]
theorem Cy:am Tryz.prog ct [] mR lP 43:=fo
end Go.Gv

namespace Go.Gv
open Cod (enc dec)
variable {S S0:Nat->Spc}
def aMt:cM (Rx×B×Bool):=⟨fun ds=>match ds with
 | [a,b, .clo f []]=>if f=cK then(dec a).bind fun x=>(dec b).map fun s=>(x,s,false)else if f=ct then(dec a).bind fun x=>(dec b).map fun s=>(x,s,true)else none
 | _=>none,fun x=>[enc x.1,enc x.2.1, .clo (if x.2.2=true then ct else cK) []],fun ds x h=>by
 split at h
 ·rename_i a b f
  split at h
  ·rename_i e
   simp only[qtE,qtR]at h
   obtain⟨x,hx,s,hs,rfl⟩:=h
   subst e
   exact .cons (Cod.le _ _ hx) (.cons (Cod.le _ _ hs) (.cons (.same _) .nil))
  ·split at h
   ·rename_i e
    simp only[qtE,qtR]at h
    obtain⟨x,hx,s,hs,rfl⟩:=h
    subst e
    exact .cons (Cod.le _ _ hx) (.cons (Cod.le _ _ hs) (.cons (.same _) .nil))
   ·cases h
 ·cases h⟩
@[simp] theorem qkP(x:Rx)(s:B)(f:Bool):aMt.view (x,s,f)=[enc x,enc s, .clo (if f=true then ct else cK) []]:=id rfl
@[simp] theorem qkR(a b:D):aMt.dec [a,b, .clo cK []]=(dec a).bind fun x=>(dec b).map fun s=>(x,s,false):=id rfl
@[simp] theorem qkQ(a b:D):aMt.dec [a,b, .clo ct []]=(dec a).bind fun x=>(dec b).map fun s=>(x,s,true):=id rfl
abbrev Va:Spc:=aS (a1 Rx) (fun x=>AH 50 x=true) (enc (X:=Int)) fun x y=>y=0
abbrev X0:Spc:=aS (a2 (List Rng) I32) (fun _=>True) (enc (X:=Bool)) fun x y=>y=M5 x.1 x.2.val
abbrev s_cpVal:Spc:=aS (a1 B) (fun s=>ux s=true/\s.size<=1000) (enc (X:=Bool)) fun _ y=>y=true
abbrev qef:Spc:=aS (a1 I32) (fun c=>0<=c.val/\c.val < 128) (enc (X:=List I32)) fun c y=>y=QQ false c
abbrev qea:Spc:=aS (a1 I32) (fun c=>0<=c.val/\c.val < 128) (enc (X:=List I32)) fun c y=>y=QQ true c
def qdU(x:Rx×B×Bool):Prop:=∃y,Bh x.1 x.2.1 x.2.2=some y
def qhf(x:Rx×B×Bool)(y:Bool):Prop:=Bh x.1 x.2.1 x.2.2=some y
abbrev X1:Spc:=aS aMt qdU (enc (X:=Bool)) qhf
theorem EM{s:B}(h:ux s=true){p:Nat}(hp:p < s.size):∃c:UInt8,s.data.toList[p]? =some c/\c.toNat < 128/\Utf8.decode s p=(c.toNat,1):=by
 have hl:p < s.data.toList.length:=by rw[qt6];exact hp
 refine⟨s.data.toList[p],qtH hl,?_,?_⟩
 ·have:=qtL.1 h _ (qu2 hl)
  simpa using this
 ·have h1:(s[p]'hp).toNat < 128:=by
   have:=qtL.1 h _ (qu2 hl)
   have h2:s.data[p].toNat < 128:=by simpa using this
   exact h2
  have:=Go.decode_ascii s p hp h1
  rw[this]
  have:s[p]=s.data.toList[p]:=by
   rw[Array.getElem_toList]
   rfl
  rw[this]
set_option maxHeartbeats 2000000 in
theorem Jb(h1:S jo=Va)(h2:S mP=s_cpVal)(h3:S yW=qeb 50)(h4:S jM=XW)(h5:S nS=X0)(h6:S cK=qef)(h7:S ct=qea):
 aq rX re S aMt qdU (enc (X:=Bool)) qhf:=by
 rintro⟨x,s,f⟩ ⟨y,hy⟩
 have hy0:Bh x s f=some y:=hy
 unfold Bh at hy0
 split at hy0
 rotate_left
 ·cases hy0
 rename_i hc
 obtain⟨hv,ha,hsz⟩:=hc
 obtain⟨t,ht,hy1⟩:=qtE.1 hy0
 split at hy1
 rotate_left
 ·cases hy1
 rename_i hok
 have hres:qjp t (QQ f) (qdz s.data.toList) ⟨0⟩ true=y:=qtV hy1
 obtain⟨hlv,hfo⟩:=uR (t:=t) (by rw[hok];simp)
 have hOf:qhh 50 x t:=ht
 have hPOf:qdW 50 x:=by unfold qdW;rw[ht];rfl
 simp[rX,re,h1,h2,h3,hv,ha,hsz,hPOf, -Bool.forall_bool, -Bool.exists_bool]
 intro t' ht' b
 obtain rfl:t=t':=by
  have h:qb0 50 x=some t':=ht'
  rw[ht]at h
  exact qtV h
 refine ar (X:=U64×Bool×Nat) [2,7,28] [] (fun z=>qjp t (QQ f) (qdz (s.data.toList.drop z.2.2)) z.1 z.2.1=y/\z.2.2<=s.size) (fun z=>[(8,enc z.1),(9,enc z.2.1)]) (fun z=>[(28, .iter b s z.2.2)]) (fun z=>s.size -z.2.2) (⟨0⟩,true,0) ⟨by simpa using hres,qub _⟩ (by simp) (by simp) ?_
 rintro⟨set,beg,pos⟩ ⟨hm,hp⟩
 simp only at hm hp
 by_cases hlt:pos < s.size
 ·obtain⟨c,hc,hc128,hdec⟩:=EM ha hlt
  rw[rV hc]at hm
  have hm:(if(qbT (yD t set beg) t.lvs (QQ f ⟨(c.toNat:Int)⟩) ⟨0⟩).val=0 then false else qjp t (QQ f) (qdz (s.data.toList.drop (pos+1))) (qbT (yD t set beg) t.lvs (QQ f ⟨(c.toNat:Int)⟩) ⟨0⟩) false)=y:=hm
  have hN:qbc (t,set,beg):=by show t.fol.length<=100000;omega
  have hq:qa4 (t,set,beg) (yD t set beg):=rfl
  have c0:(0:Int)<=(c.toNat:Int):=by omega
  have c1:(c.toNat:Int) < 128:=by omega
  have hvl:((QQ f ⟨(c.toNat:Int)⟩).length:Int)<=9223372036854775807:=by
   have:(QQ f ⟨(c.toNat:Int)⟩).length<=3:=by
    unfold QQ
    split
    ·unfold Ie
     exact quw (List.length_filter_le _ _) (by simp)
    ·simp
   omega
  have h8:S (if f=true then ct else cK)=aS (a1 I32) (fun c=>0<=c.val/\c.val < 128) (enc (X:=List I32)) fun c y=>y=QQ f c:=by
   cases f
   ·exact h6
   ·exact h7
  simp[hlt,hdec,h4,hN,h8,c0,c1,hvl, -Bool.forall_bool, -Bool.exists_bool]
  intro nx hnx
  obtain rfl:nx=yD t set beg:=hnx
  generalize yD t set beg=nx at hm
  generalize QQ f ⟨(c.toNat:Int)⟩=vs at hm hvl
  refine ai (X:=U64) [2,7,9,12,28,38] [28] vs.length (fun k m=>qbT nx t.lvs (vs.drop k) m=qbT nx t.lvs vs ⟨0⟩) (fun m=>[(8,enc m)]) (fun _=>[]) ⟨0⟩ (by simp) (by simp) (by omega) (by simp) (by simp) (by simp) (by simp) (by simp) ?_ ?_
  ·rintro k m hk hm2
   obtain⟨v,hvk⟩:=Nk hk
   obtain⟨_,hgv⟩:=qtG.1 hvk
   rw[rV hvk,qbT]at hm2
   have hlv':(t.lvs.length:Int)<=9223372036854775807:=by omega
   simp[hk,hvk,hgv,hlv', -Bool.forall_bool, -Bool.exists_bool]
   refine ai (X:=U64) [2,7,9,12,14,28,38,39,40,47] [28] t.lvs.length (fun k m'=>qhQ nx v k (t.lvs.drop k) m'=qhQ nx v 0 t.lvs m) (fun m=>[(8,enc m)]) (fun _=>[]) m (by simp) (by simp) (by omega) (by simp) (by simp) (by simp) (by simp) (by simp) ?_ ?_
   ·rintro j m' hj hm3
    obtain⟨lf,hlf⟩:=Nk hj
    obtain⟨_,hgl⟩:=qtG.1 hlf
    rw[rV hlf,qhQ]at hm3
    simp[hj,hlf,hgl,h5, -Bool.forall_bool, -Bool.exists_bool]
    refine⟨fun hb=>⟨fun hc=>⟨_,by rw[if_pos (by simp[hb,hc])]at hm3;exact hm3,rfl⟩,fun hc=>⟨m',by rw[if_neg (by simp[hc])]at hm3;exact hm3,rfl⟩⟩,fun hb=>⟨m',by rw[if_neg (by simp[hb])]at hm3;exact hm3,rfl⟩⟩
   ·rintro m' hm3
    rw[quH,qhQ]at hm3
    subst hm3
    simp[-Bool.forall_bool, -Bool.exists_bool]
    exact⟨_,hm2,rfl⟩
  ·rintro m hm2
   rw[quH,qbT]at hm2
   subst hm2
   simp[-Bool.forall_bool, -Bool.exists_bool]
   refine⟨fun h0=>?_,fun h0=>?_⟩
   ·rw[if_pos h0]at hm
    subst hm
    exact hy
   ·rw[if_neg h0]at hm
    exact⟨_,false,pos+1,⟨hm,by omega⟩,⟨⟨rfl,rfl⟩, .inl rfl⟩,by omega⟩
 ·have hpe:pos=s.size:=by omega
  subst hpe
  rw[quG (by rw[qt6];exact qtP _)]at hm
  have hm:((beg && t.nul)||decide (So .u64 set.val t.la.val≠0))=y:=hm
  simp[-Bool.forall_bool, -Bool.exists_bool]
  have hQ:∀w,w=y->qhf (x,s,f) w:=fun w e=>by subst e;exact hy
  refine⟨fun hb=>⟨fun hn=>hQ _ ?_,fun hn=>hQ _ ?_⟩,fun hb=>hQ _ ?_⟩
  all_goals
   subst hb
   first|subst hn|skip
   rw[<-hm]
   simp[*]
theorem Fm:aq oc nC S (a1 I32) (fun c=>0<=c.val/\c.val < 128) (enc (X:=List I32)) fun c y=>y=QQ false c:=by
 rintro⟨c⟩ ⟨c0,c1⟩
 simp[oc,nC, -Bool.forall_bool, -Bool.exists_bool]
 exact cB [⟨c⟩] (by simp) rfl
def Qy(f:Bool)(x:Rx×B):Prop:=∃y,Bh x.1 x.2 f=some y
def qa5(f:Bool)(x:Rx×B)(y:Bool):Prop:=Bh x.1 x.2 f=some y
abbrev Tg(f:Bool):Spc:=aS (a2 Rx B) (Qy f) (enc (X:=Bool)) (qa5 f)
theorem Je(h1:S oV=X1):aq rZ rh S (a2 Rx B) (Qy false) (enc (X:=Bool)) (qa5 false):=by
 rintro⟨x,s⟩ hp
 have hp':qdU (x,s,false):=hp
 simp[rZ,rh,h1,hp', -Bool.forall_bool, -Bool.exists_bool]
 exact fun y hy=>hy
theorem BP(h1:S oV=X1):aq kX kE S (a2 Rx B) (Qy true) (enc (X:=Bool)) (qa5 true):=by
 rintro⟨x,s⟩ hp
 have hp':qdU (x,s,true):=hp
 simp[kX,kE,h1,hp', -Bool.forall_bool, -Bool.exists_bool]
 exact fun y hy=>hy
end Go.Gv

namespace Go.Gv
open Cod (enc dec)
variable {S S0:Nat->Spc}
def jm(c:Int):B:=⟨#[c.toNat.toUInt8]⟩
abbrev s_cpFold1:Spc:=aS (a1 B) (fun s=>∃c:Int,0<=c/\c < 128/\s=jm c) (enc (X:=B)) fun s y=>∀c:Int,0<=c->c < 128->s=jm c->y=jm (low c)
theorem M0{c:Int}(h0:0<=c)(h1:c < 128):Utf8.encode c=jm c:=by
 unfold Utf8.encode jm
 have e:c.toNat < 128:=by omega
 have h:Utf8.valid c=true:=by
  unfold Utf8.valid
  have:c < 55296:=by omega
  simp[h0,this]
 simp[e,h]
theorem MD{c:Int}(h0:0<=c)(h1:c < 128):0<=low c/\low c < 128:=by unfold low;split <;> omega
theorem Tl{c d:Int}(hc:0<=c)(hc':c < 128)(hd:0<=d)(hd':d < 128)(h:jm c=jm d):c=d:=by
 have:c.toNat.toUInt8=d.toNat.toUInt8:=by
  have:=congrArg (fun b:B=>b.data.toList.head?) h
  simpa [jm]using this
 have:=congrArg UInt8.toNat this
 have e1:c.toNat.toUInt8.toNat=c.toNat % 256:=qvj ..
 have e2:d.toNat.toUInt8.toNat=d.toNat % 256:=qvj ..
 omega
theorem qfX{c d:Int}(hc:0<=c)(hc':c < 128)(hd:0<=d)(hd':d < 128):(jm c=jm d)=(c=d):=propext ⟨Tl hc hc' hd hd',fun h=>by rw[h]⟩
theorem QH(h1:S nZ=s_cpFold1):aq mR lP S (a1 I32) (fun c=>0<=c.val/\c.val < 128) (enc (X:=List I32)) fun c y=>y=QQ true c:=by
 rintro⟨c⟩ ⟨c0,c1⟩
 have c0:0<=c:=c0
 have c1:c < 128:=c1
 obtain⟨l0,l1⟩:=MD c0 c1
 have hP:∃d:Int,0<=d/\d < 128/\jm c=jm d:=⟨c,c0,c1,rfl⟩
 simp[mR,lP,h1,M0 c0 c1,hP, -Bool.forall_bool, -Bool.exists_bool]
 intro y hy b
 obtain rfl:=hy c c0 c1 rfl
 clear hy
 obtain⟨r,hr⟩:∃r,r=low c:=⟨_,rfl⟩
 rw[<-hr]at l0 l1 ⊢
 have hsz:(jm r).size=1:=rfl
 have hdec:Utf8.decode (jm r) 0=(r.toNat,1):=by
  have h0:0 < (jm r).size:=by rw[hsz];omega
  have e1:((jm r)[0]'h0).toNat=r.toNat % 256:=qvj ..
  have e2:((jm r)[0]'h0).toNat=r.toNat:=by omega
  rw[Go.decode_ascii (jm r) 0 h0 (by omega),e2]
 refine ar (X:=Nat×Value×List I32) [4,13] [] (fun z=>z.1=0/\z.2.1= .slice none 0 0/\z.2.2=[]\/z.1=1/\z.2.2=Ie ⟨c⟩) (fun z=>[(3, .own 40 z.2.1)]) (fun z=>[(13, .iter b (jm r) z.1),(40, .row z.2.1 GL 1 (z.2.2.map enc))]) (fun z=>1 -z.1) (0, .slice none 0 0, []) (.inl ⟨rfl,rfl,rfl⟩) (by simp) (by simp[isNilRow]) ?_
 rintro⟨pos,v,l⟩ hz
 simp only at hz
 rcases hz with⟨rfl,rfl,rfl⟩|⟨rfl,rfl⟩
 ·have hrn:((r.toNat:Nat):Int)=r:=by omega
  have i1:InR .i32 (r -32):=by simp only[InR];omega
  have i2:InR .i32 (r -80):=by simp only[InR];omega
  simp[hsz,hdec,hrn,i1,i2, -Bool.forall_bool, -Bool.exists_bool]
  have hfo:∀l:List I32,l=([⟨r⟩,⟨r -32⟩,⟨r -80⟩]:List I32).filter (fun v=>decide (0<=v.val/\low v.val=r))->l=Ie ⟨c⟩:=fun l hl=>by
   rw[hl,Ie]
   simp only[<-hr]
  refine ai (X:=Value×List I32) [4,13,22] [13] 3 (fun k z=>z.2=(([⟨r⟩,⟨r -32⟩,⟨r -80⟩]:List I32).take k).filter (fun v=>decide (0<=v.val/\low v.val=r))/\z.2.length<=k) (fun z=>[(3, .own 40 z.1)]) (fun z=>[(40, .row z.1 GL 1 (z.2.map enc))]) (.slice none 0 0, []) (by simp) (by simp) (by omega) (by simp) (by simp) ⟨rfl,by simp⟩ (by simp) (by simp[isNilRow]) ?_ ?_
  ·rintro k ⟨v,l⟩ hk ⟨hl,hlen⟩
   simp only at hl hlen
   obtain⟨e,he,hee⟩:∃e:Int,e < 128/\([⟨r⟩,⟨r -32⟩,⟨r -80⟩]:List I32)[k]? =some ⟨e⟩/\([.v (.int .i32 r), .v (.int .i32 (r -32)), .v (.int .i32 (r -80))]:List D)[k]? =some (.v (.int .i32 e)):=by
    rcases(by omega:k=0\/k=1\/k=2)with rfl|rfl|rfl
    ·exact⟨r,by omega,rfl,rfl⟩
    ·exact⟨r -32,by omega,rfl,rfl⟩
    ·exact⟨r -80,by omega,rfl,rfl⟩
   obtain⟨he1,he2⟩:=hee
   have he3:∀h,([.v (.int .i32 r), .v (.int .i32 (r -32)), .v (.int .i32 (r -80))]:List D)[k]'h= .v (.int .i32 e):=fun h=>by
    obtain⟨_,h2⟩:=qtG.1 he2
    exact h2
   have hki:(k:Int) < 3:=by omega
   have hstep:(([⟨r⟩,⟨r -32⟩,⟨r -80⟩]:List I32).take (k+1)).filter (fun v=>decide (0<=v.val/\low v.val=r))=l++ ([⟨e⟩]:List I32).filter (fun v=>decide (0<=v.val/\low v.val=r)):=by
    rw[qvF,he1,qvA,<-hl]
    rfl
   by_cases h0:0<=e
   ·obtain⟨q0,q1⟩:=MD h0 he
    have hPe:∃d:Int,0<=d/\d < 128/\jm e=jm d:=⟨e,h0,he,rfl⟩
    simp[hk,hki,he2,he3,h0,h1,M0 h0 he,hPe, -Bool.forall_bool, -Bool.exists_bool]
    intro y hy
    obtain rfl:=hy e h0 he rfl
    rw[qfX q0 q1 l0 l1]
    refine⟨fun hh=>⟨by omega,by omega,fun v=>⟨v,l++ [⟨e⟩],⟨?_,by simp;omega⟩,rfl, .inl ⟨rfl,by simp⟩⟩⟩,fun hh=>⟨v,l,⟨?_,by omega⟩,rfl, .inl ⟨rfl,rfl⟩⟩⟩
    ·simpa [h0,hh]using hstep.symm
    ·simpa [h0,hh]using hstep.symm
   ·simp[hk,hki,he2,he3,h0, -Bool.forall_bool, -Bool.exists_bool]
    refine⟨v,l,⟨?_,by omega⟩,rfl, .inl ⟨rfl,rfl⟩⟩
    simpa [h0]using hstep.symm
  ·rintro⟨v,l⟩ ⟨hl,hlen⟩
   simp only at hl hlen
   have hl:=hfo l hl
   simp[-Bool.forall_bool, -Bool.exists_bool]
   exact⟨1,v,l, .inr ⟨rfl,hl⟩,⟨rfl, .inl rfl, .inl ⟨rfl,rfl⟩⟩,rfl⟩
 ·simp[hsz, -Bool.forall_bool, -Bool.exists_bool]
  exact cB (Ie ⟨c⟩) (gP (l:=Ie ⟨c⟩) GL rfl) rfl
end Go.Gv

namespace Go.Gv
open Go.Proofs
def dC:CC:=gq Tryz.f221 [] {} _
def dt:List aj:=[.tmp 4]
theorem pu:am Tryz.prog dP [] dC dt 19:=fo
def dW:CC:=gq Tryz.f266 [] {} _
def dU:List aj:=[.tmp 4]
theorem qH:am Tryz.prog eo [] dW dU 9:=fo
def fj:CC:=gq Tryz.f291 [] {} _
def fa:List aj:=[.tmp 4]
theorem tP:am Tryz.prog fu [] fj fa 19:=fo
def dD:CC:=gq Tryz.f181 [] {} _
def du:List aj:=[.tmp 4]
theorem fF:am Tryz.prog bj [] dD du 9:=fo
def ep:CC:=gq Tryz.f228 [] {} _
def ei:List aj:=[.tmp 4]
theorem iG:am Tryz.prog cN [] ep ei 19:=fo
def fB:CC:=gq Tryz.f290 [3] {} _
def fq:List aj:=[.tmp 4]
theorem uP:am Tryz.prog fV [3] fB fq 9:=fo
def iT:CC:=gq Tryz.f306 [3] {} _
def iv:List aj:=[.tmp 4]
theorem ym:am Tryz.prog jI [3] iT iv 19:=fo
def fZ:CC:=gq Tryz.f168 [] {} _
def fJ:List aj:=[.tmp 4]
theorem vP:am Tryz.prog bZ [] fZ fJ 19:=fo
def bS:CC:=gq Tryz.f119 [] {} _
def bQ:List aj:=[.tmp 4]
theorem jw:am Tryz.prog aP [] bS bQ 9:=fo
def iZ:CC:=gq Tryz.f121 [3] {} _
def iB:List aj:=[.tmp 6, .tmp 7]
theorem yw:am Tryz.prog cH [3] iZ iB 40:=fo
def dL:CC:=gq Tryz.f122 [2] {} _
def dG:List aj:=[.tmp 4]
theorem sY:am Tryz.prog bO [2] dL dG 29:=fo
def aY:CC:=gq Tryz.f170 [1,2034005,2033005,2043005,2042005,2041005,2052005,2051005,2050005] {} _
def aW:List aj:=[.tmp 2]
theorem A8:am Tryz.prog ij [1,2034005,2033005,2043005,2042005,2041005,2052005,2051005,2050005] aY aW 108:=fo
def gj:CC:=gq Tryz.f173 [3] {} _
def fR:List aj:=[.tmp 4]
theorem vV:am Tryz.prog bv [3] gj fR 8:=fo
def fk:CC:=gq Tryz.f222 [2] {} _
def fb:List aj:=[.tmp 3]
theorem tR:am Tryz.prog bC [2] fk fb 8:=fo
def gi:CC:=gq Tryz.f219 [] {} _
def fQ:List aj:=[.tmp 4]
theorem Bb:am Tryz.prog ip [] gi fQ 14:=fo
def bJ:CC:=gq Tryz.f171 [2] {} _
def bE:List aj:=[.tmp 4]
theorem A9:am Tryz.prog il [2] bJ bE 50:=fo
def aI:CC:=gq Tryz.f124 [3] {} _
def aG:List aj:=[.tmp 6]
theorem rI:am Tryz.prog eT [3] aI aG 59:=fo
def cU:CC:=gq Tryz.f74 [5,4,3] {} _
def cQ:List aj:=[.tmp 6]
theorem nz:am Tryz.prog dB [5,4,3] cU cQ 23:=fo
def cz:CC:=gq Tryz.f123 [3] {} _
def cq:List aj:=[.tmp 4]
theorem lE:am Tryz.prog au [3] cz cq 9:=fo
def bK:CC:=gq Tryz.f263 [3] {} _
def bF:List aj:=[.tmp 6]
theorem Bc:am Tryz.prog mO [3] bK bF 38:=fo
def jT:CC:=gq Tryz.f265 [5,4,3] {} _
def jF:List aj:=[.tmp 6]
theorem Ab:am Tryz.prog kV [5,4,3] jT jF 11:=fo
def bz:CC:=gq Tryz.f289 [3] {} _
def bu:List aj:=[.tmp 4]
theorem xF:am Tryz.prog bI [3] bz bu 37:=fo
end Go.Gv

namespace Go.Gv
open Cod (enc dec)
variable {S S0:Nat->Spc}
def FunOn{X Y:Type}[Cod X][Cod Y](S:Nat->Spc)(d:D)(l:List X)(p:X->Y):Prop:=
 ∃g caps pc,d= .clo g caps/\S g= .pure pc/\∀x∈l,pc.pre (enc x::caps)/\∀r,pc.post (enc x::caps) r->r=enc (p x)
theorem FunOn.useB{X:Type}[Cod X]{S:Nat->Spc}{d:D}{l:List X}{p:X->Bool}(h:FunOn S d l p){x:X}(hx:x∈l){d':Nat}{H:ab}{K:D->ab->Prop}(hk:∀y:Bool,(∀q:X->Bool,FunOn S d l q->y=q x)->K (.v (.bool y)) H):zn S d d' [enc x] H K:=by
 obtain⟨g,caps,pc,rfl,h1,h2⟩:=h
 simp only[zn,h1,Spc.pt]
 refine⟨(h2 x hx).1,fun r hr=>?_⟩
 have e:=(h2 x hx).2 r hr
 rw[e]
 refine hk (p x) fun q hq=>?_
 obtain⟨g',caps',pc',e',k1,k2⟩:=hq
 cases e'
 rw[h1]at k1
 cases k1
 exact aL (e.symm.trans ((k2 x hx).2 r hr))
theorem uW{X Y Z:Type}[Cod X][Cod Y]{S:Nat->Spc}{g:Nat}{caps:List D}{A:cM Z}{pre:Z->Prop}{post:Z->Y->Prop}{l:List X}{p:X->Y}{f:X->Z}(h:S g=aS A pre enc post)(hd:∀x∈l,A.dec (enc x::caps)=some (f x))(hp:∀x∈l,pre (f x))(hq:∀x∈l,∀y,post (f x) y->y=p x):FunOn S (.clo g caps) l p:=by
 refine⟨g,caps,_,rfl,h,fun x hx=>⟨⟨f x,hd x hx,hp x hx⟩,fun r hr=>?_⟩⟩
 obtain⟨y,h1,h2⟩:=hr (f x) (hd x hx) (hp x hx)
 rw[h1,hq x hx y h2]
def Sx{X:Type}[Cod X](S0:Nat->Spc)(x:List X×D×Unit):Prop:=∃p:X->Bool,FunOn S0 x.2.1 x.1 p
def qdS{X:Type}[Cod X](S0:Nat->Spc)(x:List X×D×Unit)(y:Int):Prop:=∀p:X->Bool,FunOn S0 x.2.1 x.1 p->y=fS x.1 p
def qhi{X:Type}[Cod X](S0:Nat->Spc)(x:List X×D×Unit)(y:Bool):Prop:=∀p:X->Bool,FunOn S0 x.2.1 x.1 p->y=x.1.any p
abbrev Rm(X:Type)[Cod X](S0:Nat->Spc):Spc:=aS (aE (List X) (aD a0)) (Sx S0) (enc (X:=Int)) (qdS S0)
abbrev Vb(X:Type)[Cod X](S0:Nat->Spc):Spc:=aS (aE (List X) (aD a0)) (Sx S0) (enc (X:=Bool)) (qhi S0)
theorem GE:aq dC dt S (aE (List Attr) (aD a0)) (Sx S) (enc (X:=Int)) (qdS S):=by
 rintro⟨l,d,⟨⟩⟩ ⟨p,hp⟩
 simp only at hp
 simp[dC,dt, -Bool.forall_bool, -Bool.exists_bool]
 intro _
 refine ai (X:=Unit) [0,1] [] l.length (fun k _=>∀p:Attr->Bool,FunOn S d l p->∀x∈l.take k,p x=false) (fun _=>[]) (fun _=>[]) () (by simp) (by simp) (by omega) (by simp) (by simp) (by simp) (by simp) (by simp) ?_ ?_
 ·intro k _ hk hP
  obtain⟨x,hx⟩:∃x,l[k]? =some x:=⟨_,qtH hk⟩
  obtain⟨_,hgx⟩:=qtG.1 hx
  simp[hk,hx,hgx, -Bool.forall_bool, -Bool.exists_bool]
  refine hp.useB (x:=x) (qtJ hx) fun y hy=>?_
  simp[-Bool.forall_bool, -Bool.exists_bool]
  refine⟨fun h=>?_,fun h p' hp'=>?_⟩
  ·intro p' hp'
   exact(tc hx (by rw[<-hy p' hp',h]) (hP p' hp')).symm
  ·rw[bM hx]
   intro z hz
   rcases qtK.1 hz with hz|hz
   ·exact hP p' hp' z hz
   ·simp at hz;subst hz;rw[<-hy p' hp',h]
 ·intro _ hP
  simp[-Bool.forall_bool, -Bool.exists_bool]
  intro p' hp'
  exact(lG (by simpa using hP p' hp')).symm
theorem US:aq fj fa S (aE (List Cond) (aD a0)) (Sx S) (enc (X:=Int)) (qdS S):=by
 rintro⟨l,d,⟨⟩⟩ ⟨p,hp⟩
 simp only at hp
 simp[fj,fa, -Bool.forall_bool, -Bool.exists_bool]
 intro _
 refine ai (X:=Unit) [0,1] [] l.length (fun k _=>∀p:Cond->Bool,FunOn S d l p->∀x∈l.take k,p x=false) (fun _=>[]) (fun _=>[]) () (by simp) (by simp) (by omega) (by simp) (by simp) (by simp) (by simp) (by simp) ?_ ?_
 ·intro k _ hk hP
  obtain⟨x,hx⟩:∃x,l[k]? =some x:=⟨_,qtH hk⟩
  obtain⟨_,hgx⟩:=qtG.1 hx
  simp[hk,hx,hgx, -Bool.forall_bool, -Bool.exists_bool]
  have e:D.agg [.v (.int .i64 x.op), .v (.string x.name), .v (.string x.arg), .v (.string x.val), .v (.string x.lab), .v (.bool x.fold), .list 7 (x.kids.map enc)]=enc x:=by simp
  rw[e]
  refine hp.useB (x:=x) (qtJ hx) fun y hy=>?_
  simp[-Bool.forall_bool, -Bool.exists_bool]
  refine⟨fun h=>?_,fun h p' hp'=>?_⟩
  ·intro p' hp'
   exact(tc hx (by rw[<-hy p' hp',h]) (hP p' hp')).symm
  ·rw[bM hx]
   intro z hz
   rcases qtK.1 hz with hz|hz
   ·exact hP p' hp' z hz
   ·simp at hz;subst hz;rw[<-hy p' hp',h]
 ·intro _ hP
  simp[-Bool.forall_bool, -Bool.exists_bool]
  intro p' hp'
  exact(lG (by simpa using hP p' hp')).symm
theorem UT(h1:S fu=Rm Cond S0):aq dW dU S (aE (List Cond) (aD a0)) (Sx S0) (enc (X:=Bool)) (qhi S0):=by
 rintro⟨l,d,⟨⟩⟩ hp
 simp[dW,dU,h1, -Bool.forall_bool, -Bool.exists_bool]
 refine⟨hp,fun y hy p' hp'=>?_⟩
 rw[hy p' hp']
 exact tb p' l
theorem ES:aq ep ei S (aE (List Region) (aD a0)) (Sx S) (enc (X:=Int)) (qdS S):=by
 rintro⟨l,d,⟨⟩⟩ ⟨p,hp⟩
 simp only at hp
 simp[ep,ei, -Bool.forall_bool, -Bool.exists_bool]
 intro _
 refine ai (X:=Unit) [0,1] [] l.length (fun k _=>∀p:Region->Bool,FunOn S d l p->∀x∈l.take k,p x=false) (fun _=>[]) (fun _=>[]) () (by simp) (by simp) (by omega) (by simp) (by simp) (by simp) (by simp) (by simp) ?_ ?_
 ·intro k _ hk hP
  obtain⟨x,hx⟩:∃x,l[k]? =some x:=⟨_,qtH hk⟩
  obtain⟨_,hgx⟩:=qtG.1 hx
  simp[hk,hx,hgx, -Bool.forall_bool, -Bool.exists_bool]
  refine hp.useB (x:=x) (qtJ hx) fun y hy=>?_
  simp[-Bool.forall_bool, -Bool.exists_bool]
  refine⟨fun h=>?_,fun h p' hp'=>?_⟩
  ·intro p' hp'
   exact(tc hx (by rw[<-hy p' hp',h]) (hP p' hp')).symm
  ·rw[bM hx]
   intro z hz
   rcases qtK.1 hz with hz|hz
   ·exact hP p' hp' z hz
   ·simp at hz;subst hz;rw[<-hy p' hp',h]
 ·intro _ hP
  simp[-Bool.forall_bool, -Bool.exists_bool]
  intro p' hp'
  exact(lG (by simpa using hP p' hp')).symm
theorem ET(h1:S cN=Rm Region S0):aq dD du S (aE (List Region) (aD a0)) (Sx S0) (enc (X:=Bool)) (qhi S0):=by
 rintro⟨l,d,⟨⟩⟩ hp
 simp[dD,du,h1, -Bool.forall_bool, -Bool.exists_bool]
 refine⟨hp,fun y hy p' hp'=>?_⟩
 rw[hy p' hp']
 exact tb p' l
end Go.Gv
