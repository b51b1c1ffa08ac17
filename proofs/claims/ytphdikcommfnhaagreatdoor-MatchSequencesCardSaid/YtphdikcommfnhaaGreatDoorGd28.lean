/- A part of the framework and of the walks: W143 T34 W144 V54 C56 W145 W146 C57. -/
import Derived.Laws.RangeString
import Derived.Test.YtphdikcommfnhaaGreatDoorGd27
import Derived.Test.YtphdikcommfnhaaGreatDoorGd26
import Derived.Test.YtphdikcommfnhaaGreatDoorGd20
set_option linter.unusedSimpArgs false
set_option linter.unusedVariables false
set_option linter.unusedSectionVars false
set_option maxRecDepth 100000
set_option maxHeartbeats 0

namespace Go.Gv
open Cod (enc dec)
variable {S S0:Nat->Spc}
def qeB(b:Tbk->Rx->Option (Tbk×Prt))(o:Tbk->Rx×Int->Option (Tbk×Prt))(y:Rx)(mn mx:Int)(q:Tbk×Prt×Bool):Option (Tbk×Prt):=
 if q.2.2=true then some (q.1,BN)else
  if mx < 0/\mn=0 then(b q.1 y).bind fun r=>(Du r.1 (r.2.last,r.2.first)).map fun l=>(l.1, { r.2 with nul:=true })else
  if mn < mx then(o q.1 (y,mx -mn)).bind fun r=>yc r.1 (q.2.1,r.2)else some (q.1,q.2.1)
set_option maxHeartbeats 2000000 in
theorem X9(n:Nat)(h1:S aU=wt n)(h2:S ca=HY n)(h3:S bE=ws)(h4:S db=CT):Fz gR gA S (a1 Rx) (enc (X:=Prt)) (Ca (n+1)).r:=by
 rintro b v v' t ⟨op,mn,mx,rs,ks⟩ r hF
 replace hF:Y0 (Ca n).b (Ca n).o t ⟨op,mn,mx,rs,ks⟩=some r:=hF
 unfold Y0 at hF
 simp only at hF
 split at hF
 ·cases hF
 rename_i y ks'
 split at hF
 ·cases hF
 rename_i hrng
 obtain⟨q,hq,hF⟩:=qtT.1 hF
 have hF:qeB (Ca n).b (Ca n).o y mn mx q=some r:=hF
 have hm:mn=(mn.toNat:Int):=by omega
 generalize mn.toNat=m at hm hq
 subst hm
 have hm':(m:Int)<=9223372036854775807:=by omega
 have hpos:(0:Int) < ((y::ks').length:Int):=by simp
 simp[gR,gA,vK,om,oo,rO,hm', -Bool.forall_bool, -Bool.exists_bool]
 intro b4 b5
 refine aj (X:=Tbk×Prt×Value×Value) [0,3,4,5] [4] m (fun k x=>(qjh (Ca n).b y mx (m -k) x.1 x.2.1).bind (qeB (Ca n).b (Ca n).o y m mx)=some r) (fun x=>[]) (fun x=>[(0, .box b [.own 990 x.2.2.1, .v (.int .u64 x.1.fi.val), .v (.int .u64 x.1.la.val), .own 991 x.2.2.2, .v (.bool x.1.nul)]),(990, .row x.2.2.1 eb 1 (x.1.lvs.map enc)),(991, .row x.2.2.2 eW 1 (x.1.fol.map enc)),(5, .box b5 [.v (.int .u64 x.2.1.first.val), .v (.int .u64 x.2.1.last.val), .v (.bool x.2.1.nul)])]) (t,BN,v,v') (by simp) (by simp) (by omega) (by simp) (by simp) (by simp[hq,hF]) (by simp) (by simp[BN]) ?_ ?_
 ·rintro k ⟨t,p,w,w'⟩ hk hx
  rw[show m -k=(m - (k+1)) +1 by omega,qjh]at hx
  simp only at hx
  split at hx
  ·cases hx
  rename_i hok
  obtain⟨hlv,hfo⟩:=vO hok
  have hlv':(t.lvs.length:Int)<=9223372036854775807:=by omega
  cases hb:(Ca n).b t y with
  | none=>rw[hb]at hx;cases hx
  | some c=>
  rw[hb,qud]at hx
  split at hx
  ·cases hx
  rename_i hok2
  obtain⟨hlq,hfq⟩:=vO hok2
  have hlq':(c.1.lvs.length:Int)<=9223372036854775807:=by omega
  split at hx
  ·rename_i e
   have e':(c.1.lvs.length:Int)=t.lvs.length:=by omega
   simp[hk,h1,hb,hlv',hlq',e,e', -Bool.forall_bool, -Bool.exists_bool]
   have hx:some (c.1,BN)=some r:=hx
   obtain rfl:=qua hx
   exact fun u u'=>vW u u' c.1 BN rfl rfl rfl rfl rfl
  rename_i e
  have e':¬ (c.1.lvs.length:Int)=t.lvs.length:=by omega
  have hin:InR .i64 ((m:Int) -1):=by simp only[InR];omega
  by_cases hmx:mx < 0
  ·by_cases hkm:m - (k+1)=0
   ·rw[if_pos ⟨hmx,hkm⟩]at hx
    have hkm':(k:Int)=m -1:=by omega
    cases hl:Du c.1 (c.2.last,c.2.first)with
    | none=>rw[hl]at hx;cases hx
    | some l=>
    rw[hl,qud]at hx
    cases hc:yc l.1 (p,c.2)with
    | none=>rw[hc]at hx;cases hx
    | some d=>
    rw[hc,qud]at hx
    simp[hk,h1,h3,h4,hb,hl,hc,hlv',hlq',e,e',hin,hmx,hkm', -Bool.forall_bool, -Bool.exists_bool]
    exact fun u u'=>⟨d.1,d.2,hx,u,u', .inl ⟨rfl,rfl,rfl,rfl,rfl⟩, .inl ⟨rfl,rfl⟩, .inl ⟨rfl,rfl⟩, .inl ⟨rfl,rfl,rfl⟩⟩
   ·rw[if_neg (fun h=>hkm h.2)]at hx
    have hkm':¬ (k:Int)=m -1:=by omega
    rw[qud]at hx
    cases hc:yc c.1 (p,c.2)with
    | none=>rw[hc]at hx;cases hx
    | some d=>
    rw[hc,qud]at hx
    simp[hk,h1,h3,h4,hb,hc,hlv',hlq',e,e',hin,hmx,hkm', -Bool.forall_bool, -Bool.exists_bool]
    exact fun u u'=>⟨d.1,d.2,hx,u,u', .inl ⟨rfl,rfl,rfl,rfl,rfl⟩, .inl ⟨rfl,rfl⟩, .inl ⟨rfl,rfl⟩, .inl ⟨rfl,rfl,rfl⟩⟩
  ·rw[if_neg (fun h=>hmx h.1)]at hx
   rw[qud]at hx
   cases hc:yc c.1 (p,c.2)with
   | none=>rw[hc]at hx;cases hx
   | some d=>
   rw[hc,qud]at hx
   simp[hk,h1,h3,h4,hb,hc,hlv',hlq',e,e',hmx, -Bool.forall_bool, -Bool.exists_bool]
   exact fun u u'=>⟨d.1,d.2,hx,u,u', .inl ⟨rfl,rfl,rfl,rfl,rfl⟩, .inl ⟨rfl,rfl⟩, .inl ⟨rfl,rfl⟩, .inl ⟨rfl,rfl,rfl⟩⟩
 ·rintro⟨t,p,w,w'⟩ hx
  simp only[qvw,qjh,qud]at hx
  have hx:(if mx < 0/\(m:Int)=0 then((Ca n).b t y).bind fun r=>(Du r.1 (r.2.last,r.2.first)).map fun l=>(l.1, { r.2 with nul:=true })else
   if(m:Int) < mx then((Ca n).o t (y,mx -m)).bind fun r=>yc r.1 (p,r.2)else some (t,p))=some r:=hx
  by_cases hA:mx < 0/\(m:Int)=0
  ·rw[if_pos hA]at hx
   obtain⟨hmx,hm0⟩:=hA
   obtain⟨c,hb,hx⟩:=qtT.1 hx
   obtain⟨l,hl,rfl⟩:=qt6.1 hx
   have hm0':m=0:=by omega
   subst hm0'
   simp[h1,h4,hb,hl,hmx, -Bool.forall_bool, -Bool.exists_bool]
   exact fun u u'=>vW u u' l.1 _ rfl rfl rfl rfl ⟨rfl,rfl⟩
  ·rw[if_neg hA]at hx
   by_cases hB:(m:Int) < mx
   ·rw[if_pos hB]at hx
    obtain⟨c,hb,hx⟩:=qtT.1 hx
    have n0:¬mx < 0:=by omega
    have hin:InR .i64 (mx -m):=by simp only[InR];omega
    simp[h2,h3,hb,hx,n0,hB,hin, -Bool.forall_bool, -Bool.exists_bool]
    exact fun u u'=>vW u u' r.1 r.2 rfl rfl rfl rfl rfl
   ·rw[if_neg hB]at hx
    obtain rfl:=qua hx
    by_cases hmx:mx < 0
    ·have hm0:¬ (m:Int)=0:=fun h=>hA ⟨hmx,h⟩
     have hm0':¬m=0:=by omega
     simp[hmx,hm0,hm0',hB, -Bool.forall_bool, -Bool.exists_bool]
     exact vW w w' t p rfl rfl rfl rfl ⟨rfl,rfl⟩
    ·simp[hmx,hB, -Bool.forall_bool, -Bool.exists_bool]
     exact vW w w' t p rfl rfl rfl rfl ⟨rfl,rfl⟩
end Go.Gv

namespace Go.Gv
open Cod (enc dec)
def Tw(t:Tbk):D:= .cptr [enc t.lvs,enc t.fi,enc t.la,enc t.fol,enc t.nul] 0
theorem qau{t t':Tbk}(h:Tw t=Tw t'):t=t':=by
 obtain⟨a1,a2,a3,a4,a5⟩:=t
 obtain⟨b1,b2,b3,b4,b5⟩:=t'
 unfold Tw at h
 injection h with h1 h2
 simp only[quk]at h1
 obtain⟨h1,h2,h3,h4,h5,_⟩:=h1
 have h1:=aL h1
 have h2:=aL h2
 have h3:=aL h3
 have h4:=aL h4
 have h5:=aL h5
 subst h1;subst h2;subst h3;subst h4;subst h5
 rfl
open Classical in
noncomputable instance:Cod Tbk where
 wd:=1
 enc:=Tw
 dec d:=if h:∃t,d=Tw t then some h.choose else none
 kn _:=rfl
 wid _:=rfl
 dec_enc t:=by
  have h:∃t',Tw t=Tw t':=⟨t,rfl⟩
  rw[dif_pos h]
  exact congrArg some (qau h.choose_spec).symm
 le d x h:=by
  split at h
  ·rename_i h'
   cases h
   rw[h'.choose_spec.symm]
   exact .same _
  ·cases h
@[simp] theorem qno(t:Tbk):enc t= .cptr [enc t.lvs,enc t.fi,enc t.la,enc t.fol,enc t.nul] 0:=id rfl
@[simp] theorem qny(l:List (List Rng))(f a:Int)(fo:List U64)(n:Bool):dec (X:=Tbk) (.cptr [.list 1 (l.map enc), .v (.int .u64 f), .v (.int .u64 a), .list 1 (fo.map enc), .v (.bool n)] 0)=some ⟨l,⟨f⟩,⟨a⟩,fo,n⟩:=Cod.dec_enc (X:=Tbk) ⟨l,⟨f⟩,⟨a⟩,fo,n⟩
end Go.Gv

namespace Go.Gv
open Cod (enc dec)
variable {S S0:Nat->Spc}
def qel(n:Nat)(x:Rx):Prop:=(qcu n x).isSome=true
def qhu(n:Nat)(x:Rx)(t:Tbk):Prop:=qcu n x=some t
noncomputable abbrev YK(n:Nat):Spc:=bj (a1 Rx) (qel n) (enc (X:=Tbk)) (qhu n)
theorem qoI(n:Nat)(h1:S aU=wt n):ar xI wK S (a1 Rx) (qel n) (enc (X:=Tbk)) (qhu n):=by
 rintro x hx
 obtain⟨t,ht⟩:=quY.1 hx
 obtain⟨q,hq,rfl⟩:=qt6.1 ht
 have hq0:(Ca n).b ⟨[],⟨0⟩,⟨0⟩, [],false⟩ x=some q:=hq
 simp[xI,wK, -Bool.forall_bool, -Bool.exists_bool]
 refine jN (X:=Nat) [1] [] [] [] (fun _=>True) (fun b=>[(3, .bptr 6 b 0)]) (fun b=>[(6, .box b [.own 990 (.slice none 0 0), .v (.int .u64 0), .v (.int .u64 0), .own 991 (.slice none 0 0), .v (.bool false)]),(990, .row (.slice none 0 0) eb 1 []),(991, .row (.slice none 0 0) eW 1 [])]) [6,990,991] (fun _=>rfl) (by decide) ?_ ?_
 ·simp
  refine fun b=>⟨b, .same _, .inl ?_,by simp[isNilRow],by simp[isNilRow]⟩
  simp
  exact⟨.nilown 990, .nilown 991⟩
 ·rintro b -
  have e1:(Res.row (.slice none 0 0) eb 1 []:Res)= .row (.slice none 0 0) eb 1 (([]:List (List Rng)).map enc):=rfl
  have e2:(Res.row (.slice none 0 0) eW 1 []:Res)= .row (.slice none 0 0) eW 1 (([]:List U64).map enc):=rfl
  rw[e1,e2]
  simp[h1,hq0, -List.map_nil, -Bool.forall_bool, -Bool.exists_bool]
  simp[hq0, -Bool.forall_bool, -Bool.exists_bool]
  intro w w'
  refine jN (X:=Unit) [] [] [990,991] [] (fun _=>True) (fun _=>[(2, .bptr 6 b 0)]) (fun _=>[(6, .box b [enc q.1.lvs, .v (.int .u64 q.2.first.val), .v (.int .u64 q.2.last.val),enc q.1.fol, .v (.bool q.2.nul)])]) [6] (fun _=>rfl) (by decide) ?_ ?_
  ·simp
   exact .inl ⟨jj (l:=q.1.lvs) eb rfl,jj (l:=q.1.fol) eW rfl⟩
  ·rintro - -
   simp
   refine cX ⟨q.1.lvs,q.2.first,q.2.last,q.1.fol,q.2.nul⟩ ?_ ht
   exact .box rfl
def qbJ(x:Tbk×U64×Bool):Prop:=x.1.fol.length<=100000
def qbA(x:Tbk×U64×Bool)(y:U64):Prop:=y=zD x.1 x.2.1 x.2.2
noncomputable abbrev Sh:Spc:=bj (a3 Tbk U64 Bool) qbJ (enc (X:=U64)) qbA
theorem qck:ar fD fh S (a3 Tbk U64 Bool) qbJ (enc (X:=U64)) qbA:=by
 rintro⟨⟨lv,fi,la,fo,nu⟩,set,beg⟩ hlen
 have hlen:fo.length<=100000:=hlen
 have hl:(fo.length:Int)<=9223372036854775807:=by omega
 cases beg
 ·simp[fD,fh,hl, -Bool.forall_bool, -Bool.exists_bool]
  refine aj (X:=U64) [1,18] [] fo.length (fun k m=>qeH set k (fo.drop k) m=qeH set 0 fo ⟨0⟩) (fun m=>[(7,enc m)]) (fun x=>[]) ⟨0⟩ (by simp) (by simp) (by omega) (by simp) (by simp) (by simp) (by simp) (by simp) ?_ ?_
  ·rintro k m hk hm
   obtain⟨f,hf⟩:∃f,fo[k]? =some f:=⟨_,qtW hk⟩
   obtain⟨_,hgf⟩:=qtV.1 hf
   rw[Zr hf]at hm
   simp[hk,hf,hgf, -Bool.forall_bool, -Bool.exists_bool]
   exact⟨fun hb=>⟨qcO m f,by simpa [hb]using hm,rfl⟩,fun hb=>⟨m,by simpa [hb]using hm,rfl⟩⟩
  ·rintro m hm
   rw[quU,qeH]at hm
   subst hm
   simp[-Bool.forall_bool, -Bool.exists_bool]
   exact cX _ (.same _) rfl
 ·simp[fD,fh,hl, -Bool.forall_bool, -Bool.exists_bool]
  exact cX _ (.same _) rfl
end Go.Gv

namespace Go.Gv
open Cod (enc dec)
def N2(l:List Rng)(c:Int):Bool:=l.any fun r=>decide (r.fr.val<=c) && decide (c<=r.to.val)
def qh6(next:U64)(c:I32):Nat->List (List Rng)->U64->U64
 | _, [],m=>m
 | i,l::ls,m=>qh6 next c (i+1) ls (if XM next i && N2 l c.val then⟨qjs .u64 m.val (Pj .u64 1 i)⟩else m)
def qco(next:U64)(lvs:List (List Rng)):List I32->U64->U64
 | [],m=>m
 | v::vs,m=>qco next lvs vs (qh6 next v 0 lvs m)
def qjE(t:Tbk)(vf:I32->List I32):List I32->U64->Bool->Bool
 | [],set,beg=>(beg && t.nul)||decide (TN .u64 set.val t.la.val≠0)
 | c::l,set,beg=>if(qco (zD t set beg) t.lvs (vf c) ⟨0⟩).val=0 then false else qjE t vf l (qco (zD t set beg) t.lvs (vf c) ⟨0⟩) false
def low(c:Int):Int:=if 65<=c/\c<=90 then c+32 else c
def Jm(c:I32):List I32:=([⟨low c.val⟩,⟨low c.val -32⟩,⟨low c.val -80⟩]:List I32).filter fun v=>decide (0<=v.val/\low v.val=low c.val)
def RE(f:Bool)(c:I32):List I32:=if f=true then Jm c else[c]
def qd1(l:List UInt8):List I32:=l.map fun c=>⟨(c.toNat:Int)⟩
def BO(x:Rx)(s:B)(f:Bool):Option Bool:=if A8 50 x=true/\vt s=true/\s.size<=1000 then(qcu 50 x).bind fun t=>if Nz t=true then some (qjE t (RE f) (qd1 s.data.toList) ⟨0⟩ true)else none else none
end Go.Gv

namespace Go.Gv
open Go.Proofs
def ta:CC:=by refine(fun(_:G.ap (G.gn Tryz.prog Tryz.f303 [3] {})=?c)=>?c) ?h;case h=>conv=>lhs; (conv=>arg 1;reduce);dsimp only[G.ap]
def sv:List ak:=[.tmp 6]
theorem Iz:aq Tryz.prog io [3] ta sv 88:=ai mixed (by kernel_rfl)
def tc:CC:=by refine(fun(_:G.ap (G.gn Tryz.prog Tryz.f286 [2] {})=?c)=>?c) ?h;case h=>conv=>lhs; (conv=>arg 1;reduce);dsimp only[G.ap]
def sx:List ak:=[.tmp 4]
theorem IB:aq Tryz.prog pJ [2] tc sx 8:=ai mixed (by kernel_rfl)
def ph:CC:=by refine(fun(_:G.ap (G.gn Tryz.prog Tryz.f305 [] {})=?c)=>?c) ?h;case h=>conv=>lhs; (conv=>arg 1;reduce);dsimp only[G.ap]
def ow:List ak:=[.tmp 2]
theorem EF:aq Tryz.prog cM [] ph ow 5:=ai mixed (by kernel_rfl)
def lQ:CC:=by refine(fun(_:G.ap (G.gn Tryz.prog Tryz.f285 [2] {})=?c)=>?c) ?h;case h=>conv=>lhs; (conv=>arg 1;reduce);dsimp only[G.ap]
def lB:List ak:=[.tmp 4]
theorem Bo:aq Tryz.prog iS [2] lQ lB 8:=ai mixed (by kernel_rfl)
def nH:CC:=by refine(fun(_:G.ap (G.gn Tryz.prog Tryz.f304 [] {})=?c)=>?c) ?h;case h=>conv=>lhs; (conv=>arg 1;reduce);dsimp only[G.ap]
def mI:List ak:=[.tmp 2]
theorem C3:aq Tryz.prog cq [] nH mI 43:=ai mixed (by kernel_rfl)
end Go.Gv

namespace Go.Gv
open Cod (enc dec)
variable {S S0:Nat->Spc}
def aMt:df (Rx×B×Bool):=⟨fun ds=>match ds with
 | [a,b, .clo f []]=>if f=cM then(dec a).bind fun x=>(dec b).map fun s=>(x,s,false)else if f=cq then(dec a).bind fun x=>(dec b).map fun s=>(x,s,true)else none
 | _=>none,fun x=>[enc x.1,enc x.2.1, .clo (if x.2.2=true then cq else cM) []],fun ds x h=>by
 split at h
 ·rename_i a b f
  split at h
  ·rename_i e
   simp only[qtT,qt6]at h
   obtain⟨x,hx,s,hs,rfl⟩:=h
   subst e
   exact .cons (Cod.le _ _ hx) (.cons (Cod.le _ _ hs) (.cons (.same _) .nil))
  ·split at h
   ·rename_i e
    simp only[qtT,qt6]at h
    obtain⟨x,hx,s,hs,rfl⟩:=h
    subst e
    exact .cons (Cod.le _ _ hx) (.cons (Cod.le _ _ hs) (.cons (.same _) .nil))
   ·cases h
 ·cases h⟩
@[simp] theorem qk0(x:Rx)(s:B)(f:Bool):aMt.view (x,s,f)=[enc x,enc s, .clo (if f=true then cq else cM) []]:=id rfl
@[simp] theorem qk2(a b:D):aMt.dec [a,b, .clo cM []]=(dec a).bind fun x=>(dec b).map fun s=>(x,s,false):=id rfl
@[simp] theorem qk1(a b:D):aMt.dec [a,b, .clo cq []]=(dec a).bind fun x=>(dec b).map fun s=>(x,s,true):=id rfl
abbrev Lo:Spc:=bj (a1 Rx) (fun x=>A8 50 x=true) (enc (X:=Int)) fun x y=>y=0
abbrev Pn:Spc:=bj (a2 (List Rng) I32) (fun _=>True) (enc (X:=Bool)) fun x y=>y=N2 x.1 x.2.val
abbrev s_cpVal:Spc:=bj (a1 B) (fun s=>vt s=true/\s.size<=1000) (enc (X:=Bool)) fun _ y=>y=true
abbrev YQ:Spc:=bj (a1 I32) (fun c=>0<=c.val/\c.val < 128) (enc (X:=List I32)) fun c y=>y=RE false c
abbrev YJ:Spc:=bj (a1 I32) (fun c=>0<=c.val/\c.val < 128) (enc (X:=List I32)) fun c y=>y=RE true c
def qej(x:Rx×B×Bool):Prop:=∃y,BO x.1 x.2.1 x.2.2=some y
def qhr(x:Rx×B×Bool)(y:Bool):Prop:=BO x.1 x.2.1 x.2.2=some y
abbrev Po:Spc:=bj aMt qej (enc (X:=Bool)) qhr
theorem Fw{s:B}(h:vt s=true){p:Nat}(hp:p < s.size):∃c:UInt8,s.data.toList[p]? =some c/\c.toNat < 128/\Utf8.decode s p=(c.toNat,1):=by
 have hl:p < s.data.toList.length:=by rw[qum];exact hp
 refine⟨s.data.toList[p],qtW hl,?_,?_⟩
 ·have:=qt0.1 h _ (qvg hl)
  simpa using this
 ·have h1:(s[p]'hp).toNat < 128:=by
   have:=qt0.1 h _ (qvg hl)
   have h2:s.data[p].toNat < 128:=by simpa using this
   exact h2
  have:=Go.decode_ascii s p hp h1
  rw[this]
  have:s[p]=s.data.toList[p]:=by
   rw[Array.getElem_toList]
   rfl
  rw[this]
set_option maxHeartbeats 2000000 in
theorem Ke(h1:S eq=Lo)(h2:S fA=s_cpVal)(h3:S uo=YK 50)(h4:S fQ=Sh)(h5:S jT=Pn)(h6:S cM=YQ)(h7:S cq=YJ):
 ar ta sv S aMt qej (enc (X:=Bool)) qhr:=by
 rintro⟨x,s,f⟩ ⟨y,hy⟩
 have hy0:BO x s f=some y:=hy
 unfold BO at hy0
 split at hy0
 rotate_left
 ·cases hy0
 rename_i hc
 obtain⟨hv,ha,hsz⟩:=hc
 obtain⟨t,ht,hy1⟩:=qtT.1 hy0
 split at hy1
 rotate_left
 ·cases hy1
 rename_i hok
 have hres:qjE t (RE f) (qd1 s.data.toList) ⟨0⟩ true=y:=qua hy1
 obtain⟨hlv,hfo⟩:=vO (t:=t) (by rw[hok];simp)
 have hOf:qhu 50 x t:=ht
 have hPOf:qel 50 x:=by unfold qel;rw[ht];rfl
 simp[ta,sv,h1,h2,h3,hv,ha,hsz,hPOf, -Bool.forall_bool, -Bool.exists_bool]
 intro t' ht' b
 obtain rfl:t=t':=by
  have h:qcu 50 x=some t':=ht'
  rw[ht]at h
  exact qua h
 refine av (X:=U64×Bool×Nat) [2,7,28] [] (fun z=>qjE t (RE f) (qd1 (s.data.toList.drop z.2.2)) z.1 z.2.1=y/\z.2.2<=s.size) (fun z=>[(8,enc z.1),(9,enc z.2.1)]) (fun z=>[(28, .iter b s z.2.2)]) (fun z=>s.size -z.2.2) (⟨0⟩,true,0) ⟨by simpa using hres,qul _⟩ (by simp) (by simp) ?_
 rintro⟨set,beg,pos⟩ ⟨hm,hp⟩
 simp only at hm hp
 by_cases hlt:pos < s.size
 ·obtain⟨c,hc,hc128,hdec⟩:=Fw ha hlt
  rw[sY hc]at hm
  have hm:(if(qco (zD t set beg) t.lvs (RE f ⟨(c.toNat:Int)⟩) ⟨0⟩).val=0 then false else qjE t (RE f) (qd1 (s.data.toList.drop (pos+1))) (qco (zD t set beg) t.lvs (RE f ⟨(c.toNat:Int)⟩) ⟨0⟩) false)=y:=hm
  have hN:qbJ (t,set,beg):=by show t.fol.length<=100000;omega
  have hq:qbA (t,set,beg) (zD t set beg):=rfl
  have c0:(0:Int)<=(c.toNat:Int):=by omega
  have c1:(c.toNat:Int) < 128:=by omega
  have hvl:((RE f ⟨(c.toNat:Int)⟩).length:Int)<=9223372036854775807:=by
   have:(RE f ⟨(c.toNat:Int)⟩).length<=3:=by
    unfold RE
    split
    ·unfold Jm
     exact quL (List.length_filter_le _ _) (by simp)
    ·simp
   omega
  have h8:S (if f=true then cq else cM)=bj (a1 I32) (fun c=>0<=c.val/\c.val < 128) (enc (X:=List I32)) fun c y=>y=RE f c:=by
   cases f
   ·exact h6
   ·exact h7
  simp[hlt,hdec,h4,hN,h8,c0,c1,hvl, -Bool.forall_bool, -Bool.exists_bool]
  intro nx hnx
  obtain rfl:nx=zD t set beg:=hnx
  generalize zD t set beg=nx at hm
  generalize RE f ⟨(c.toNat:Int)⟩=vs at hm hvl
  refine aj (X:=U64) [2,7,9,12,28,38] [28] vs.length (fun k m=>qco nx t.lvs (vs.drop k) m=qco nx t.lvs vs ⟨0⟩) (fun m=>[(8,enc m)]) (fun _=>[]) ⟨0⟩ (by simp) (by simp) (by omega) (by simp) (by simp) (by simp) (by simp) (by simp) ?_ ?_
  ·rintro k m hk hm2
   obtain⟨v,hvk⟩:=Og hk
   obtain⟨_,hgv⟩:=qtV.1 hvk
   rw[sY hvk,qco]at hm2
   have hlv':(t.lvs.length:Int)<=9223372036854775807:=by omega
   simp[hk,hvk,hgv,hlv', -Bool.forall_bool, -Bool.exists_bool]
   refine aj (X:=U64) [2,7,9,12,14,28,38,39,40,47] [28] t.lvs.length (fun k m'=>qh6 nx v k (t.lvs.drop k) m'=qh6 nx v 0 t.lvs m) (fun m=>[(8,enc m)]) (fun _=>[]) m (by simp) (by simp) (by omega) (by simp) (by simp) (by simp) (by simp) (by simp) ?_ ?_
   ·rintro j m' hj hm3
    obtain⟨lf,hlf⟩:=Og hj
    obtain⟨_,hgl⟩:=qtV.1 hlf
    rw[sY hlf,qh6]at hm3
    simp[hj,hlf,hgl,h5, -Bool.forall_bool, -Bool.exists_bool]
    refine⟨fun hb=>⟨fun hc=>⟨_,by rw[if_pos (by simp[hb,hc])]at hm3;exact hm3,rfl⟩,fun hc=>⟨m',by rw[if_neg (by simp[hc])]at hm3;exact hm3,rfl⟩⟩,fun hb=>⟨m',by rw[if_neg (by simp[hb])]at hm3;exact hm3,rfl⟩⟩
   ·rintro m' hm3
    rw[quU,qh6]at hm3
    subst hm3
    simp[-Bool.forall_bool, -Bool.exists_bool]
    exact⟨_,hm2,rfl⟩
  ·rintro m hm2
   rw[quU,qco]at hm2
   subst hm2
   simp[-Bool.forall_bool, -Bool.exists_bool]
   refine⟨fun h0=>?_,fun h0=>?_⟩
   ·rw[if_pos h0]at hm
    subst hm
    exact hy
   ·rw[if_neg h0]at hm
    exact⟨_,false,pos+1,⟨hm,by omega⟩,⟨⟨rfl,rfl⟩, .inl rfl⟩,by omega⟩
 ·have hpe:pos=s.size:=by omega
  subst hpe
  rw[quT (by rw[qum];exact qt4 _)]at hm
  have hm:((beg && t.nul)||decide (TN .u64 set.val t.la.val≠0))=y:=hm
  simp[-Bool.forall_bool, -Bool.exists_bool]
  have hQ:∀w,w=y->qhr (x,s,f) w:=fun w e=>by subst e;exact hy
  refine⟨fun hb=>⟨fun hn=>hQ _ ?_,fun hn=>hQ _ ?_⟩,fun hb=>hQ _ ?_⟩
  all_goals
   subst hb
   first|subst hn|skip
   rw[<-hm]
   simp[*]
theorem F4:ar ph ow S (a1 I32) (fun c=>0<=c.val/\c.val < 128) (enc (X:=List I32)) fun c y=>y=RE false c:=by
 rintro⟨c⟩ ⟨c0,c1⟩
 simp[ph,ow, -Bool.forall_bool, -Bool.exists_bool]
 exact cX [⟨c⟩] (by simp) rfl
def Ri(f:Bool)(x:Rx×B):Prop:=∃y,BO x.1 x.2 f=some y
def qbB(f:Bool)(x:Rx×B)(y:Bool):Prop:=BO x.1 x.2 f=some y
abbrev Lp(f:Bool):Spc:=bj (a2 Rx B) (Ri f) (enc (X:=Bool)) (qbB f)
theorem Kh(h1:S io=Po):ar tc sx S (a2 Rx B) (Ri false) (enc (X:=Bool)) (qbB false):=by
 rintro⟨x,s⟩ hp
 have hp':qej (x,s,false):=hp
 simp[tc,sx,h1,hp', -Bool.forall_bool, -Bool.exists_bool]
 exact fun y hy=>hy
theorem Ci(h1:S io=Po):ar lQ lB S (a2 Rx B) (Ri true) (enc (X:=Bool)) (qbB true):=by
 rintro⟨x,s⟩ hp
 have hp':qej (x,s,true):=hp
 simp[lQ,lB,h1,hp', -Bool.forall_bool, -Bool.exists_bool]
 exact fun y hy=>hy
end Go.Gv

namespace Go.Gv
open Cod (enc dec)
variable {S S0:Nat->Spc}
def jQ(c:Int):B:=⟨#[c.toNat.toUInt8]⟩
abbrev s_cpFold1:Spc:=bj (a1 B) (fun s=>∃c:Int,0<=c/\c < 128/\s=jQ c) (enc (X:=B)) fun s y=>∀c:Int,0<=c->c < 128->s=jQ c->y=jQ (low c)
theorem NY{c:Int}(h0:0<=c)(h1:c < 128):Utf8.encode c=jQ c:=by
 unfold Utf8.encode jQ
 have e:c.toNat < 128:=by omega
 have h:Utf8.valid c=true:=by
  unfold Utf8.valid
  have:c < 55296:=by omega
  simp[h0,this]
 simp[e,h]
theorem NF{c:Int}(h0:0<=c)(h1:c < 128):0<=low c/\low c < 128:=by unfold low;split <;> omega
theorem Ur{c d:Int}(hc:0<=c)(hc':c < 128)(hd:0<=d)(hd':d < 128)(h:jQ c=jQ d):c=d:=by
 have:c.toNat.toUInt8=d.toNat.toUInt8:=by
  have:=congrArg (fun b:B=>b.data.toList.head?) h
  simpa [jQ]using this
 have:=congrArg UInt8.toNat this
 have e1:c.toNat.toUInt8.toNat=c.toNat % 256:=qvy ..
 have e2:d.toNat.toUInt8.toNat=d.toNat % 256:=qvy ..
 omega
theorem qf9{c d:Int}(hc:0<=c)(hc':c < 128)(hd:0<=d)(hd':d < 128):(jQ c=jQ d)=(c=d):=propext ⟨Ur hc hc' hd hd',fun h=>by rw[h]⟩
theorem Ru(h1:S ko=s_cpFold1):ar nH mI S (a1 I32) (fun c=>0<=c.val/\c.val < 128) (enc (X:=List I32)) fun c y=>y=RE true c:=by
 rintro⟨c⟩ ⟨c0,c1⟩
 have c0:0<=c:=c0
 have c1:c < 128:=c1
 obtain⟨l0,l1⟩:=NF c0 c1
 have hP:∃d:Int,0<=d/\d < 128/\jQ c=jQ d:=⟨c,c0,c1,rfl⟩
 simp[nH,mI,h1,NY c0 c1,hP, -Bool.forall_bool, -Bool.exists_bool]
 intro y hy b
 obtain rfl:=hy c c0 c1 rfl
 clear hy
 obtain⟨r,hr⟩:∃r,r=low c:=⟨_,rfl⟩
 rw[<-hr]at l0 l1 ⊢
 have hsz:(jQ r).size=1:=rfl
 have hdec:Utf8.decode (jQ r) 0=(r.toNat,1):=by
  have h0:0 < (jQ r).size:=by rw[hsz];omega
  have e1:((jQ r)[0]'h0).toNat=r.toNat % 256:=qvy ..
  have e2:((jQ r)[0]'h0).toNat=r.toNat:=by omega
  rw[Go.decode_ascii (jQ r) 0 h0 (by omega),e2]
 refine av (X:=Nat×Value×List I32) [4,13] [] (fun z=>z.1=0/\z.2.1= .slice none 0 0/\z.2.2=[]\/z.1=1/\z.2.2=Jm ⟨c⟩) (fun z=>[(3, .own 40 z.2.1)]) (fun z=>[(13, .iter b (jQ r) z.1),(40, .row z.2.1 HB 1 (z.2.2.map enc))]) (fun z=>1 -z.1) (0, .slice none 0 0, []) (.inl ⟨rfl,rfl,rfl⟩) (by simp) (by simp[isNilRow]) ?_
 rintro⟨pos,v,l⟩ hz
 simp only at hz
 rcases hz with⟨rfl,rfl,rfl⟩|⟨rfl,rfl⟩
 ·have hrn:((r.toNat:Nat):Int)=r:=by omega
  have i1:InR .i32 (r -32):=by simp only[InR];omega
  have i2:InR .i32 (r -80):=by simp only[InR];omega
  simp[hsz,hdec,hrn,i1,i2, -Bool.forall_bool, -Bool.exists_bool]
  have hfo:∀l:List I32,l=([⟨r⟩,⟨r -32⟩,⟨r -80⟩]:List I32).filter (fun v=>decide (0<=v.val/\low v.val=r))->l=Jm ⟨c⟩:=fun l hl=>by
   rw[hl,Jm]
   simp only[<-hr]
  refine aj (X:=Value×List I32) [4,13,22] [13] 3 (fun k z=>z.2=(([⟨r⟩,⟨r -32⟩,⟨r -80⟩]:List I32).take k).filter (fun v=>decide (0<=v.val/\low v.val=r))/\z.2.length<=k) (fun z=>[(3, .own 40 z.1)]) (fun z=>[(40, .row z.1 HB 1 (z.2.map enc))]) (.slice none 0 0, []) (by simp) (by simp) (by omega) (by simp) (by simp) ⟨rfl,by simp⟩ (by simp) (by simp[isNilRow]) ?_ ?_
  ·rintro k ⟨v,l⟩ hk ⟨hl,hlen⟩
   simp only at hl hlen
   obtain⟨e,he,hee⟩:∃e:Int,e < 128/\([⟨r⟩,⟨r -32⟩,⟨r -80⟩]:List I32)[k]? =some ⟨e⟩/\([.v (.int .i32 r), .v (.int .i32 (r -32)), .v (.int .i32 (r -80))]:List D)[k]? =some (.v (.int .i32 e)):=by
    rcases(by omega:k=0\/k=1\/k=2)with rfl|rfl|rfl
    ·exact⟨r,by omega,rfl,rfl⟩
    ·exact⟨r -32,by omega,rfl,rfl⟩
    ·exact⟨r -80,by omega,rfl,rfl⟩
   obtain⟨he1,he2⟩:=hee
   have he3:∀h,([.v (.int .i32 r), .v (.int .i32 (r -32)), .v (.int .i32 (r -80))]:List D)[k]'h= .v (.int .i32 e):=fun h=>by
    obtain⟨_,h2⟩:=qtV.1 he2
    exact h2
   have hki:(k:Int) < 3:=by omega
   have hstep:(([⟨r⟩,⟨r -32⟩,⟨r -80⟩]:List I32).take (k+1)).filter (fun v=>decide (0<=v.val/\low v.val=r))=l++ ([⟨e⟩]:List I32).filter (fun v=>decide (0<=v.val/\low v.val=r)):=by
    rw[qvV,he1,qvQ,<-hl]
    rfl
   by_cases h0:0<=e
   ·obtain⟨q0,q1⟩:=NF h0 he
    have hPe:∃d:Int,0<=d/\d < 128/\jQ e=jQ d:=⟨e,h0,he,rfl⟩
    simp[hk,hki,he2,he3,h0,h1,NY h0 he,hPe, -Bool.forall_bool, -Bool.exists_bool]
    intro y hy
    obtain rfl:=hy e h0 he rfl
    rw[qf9 q0 q1 l0 l1]
    refine⟨fun hh=>⟨by omega,by omega,fun v=>⟨v,l++ [⟨e⟩],⟨?_,by simp;omega⟩,rfl, .inl ⟨rfl,by simp⟩⟩⟩,fun hh=>⟨v,l,⟨?_,by omega⟩,rfl, .inl ⟨rfl,rfl⟩⟩⟩
    ·simpa [h0,hh]using hstep.symm
    ·simpa [h0,hh]using hstep.symm
   ·simp[hk,hki,he2,he3,h0, -Bool.forall_bool, -Bool.exists_bool]
    refine⟨v,l,⟨?_,by omega⟩,rfl, .inl ⟨rfl,rfl⟩⟩
    simpa [h0]using hstep.symm
  ·rintro⟨v,l⟩ ⟨hl,hlen⟩
   simp only at hl hlen
   have hl:=hfo l hl
   simp[-Bool.forall_bool, -Bool.exists_bool]
   exact⟨1,v,l, .inr ⟨rfl,hl⟩,⟨rfl, .inl rfl, .inl ⟨rfl,rfl⟩⟩,rfl⟩
 ·simp[hsz, -Bool.forall_bool, -Bool.exists_bool]
  exact cX (Jm ⟨c⟩) (jj (l:=Jm ⟨c⟩) HB rfl) rfl
end Go.Gv

namespace Go.Gv
open Go.Proofs
def dO:CC:=by refine(fun(_:G.ap (G.gn Tryz.prog Tryz.f221 [] {})=?c)=>?c) ?h;case h=>conv=>lhs; (conv=>arg 1;reduce);dsimp only[G.ap]
def dG:List ak:=[.tmp 4]
theorem qn:aq Tryz.prog cL [] dO dG 19:=ai mixed (by kernel_rfl)
def ek:CC:=by refine(fun(_:G.ap (G.gn Tryz.prog Tryz.f266 [] {})=?c)=>?c) ?h;case h=>conv=>lhs; (conv=>arg 1;reduce);dsimp only[G.ap]
def eh:List ak:=[.tmp 4]
theorem rB:aq Tryz.prog cZ [] ek eh 9:=ai mixed (by kernel_rfl)
def fK:CC:=by refine(fun(_:G.ap (G.gn Tryz.prog Tryz.f291 [] {})=?c)=>?c) ?h;case h=>conv=>lhs; (conv=>arg 1;reduce);dsimp only[G.ap]
def fG:List ak:=[.tmp 4]
theorem uQ:aq Tryz.prog dT [] fK fG 19:=ai mixed (by kernel_rfl)
def dP:CC:=by refine(fun(_:G.ap (G.gn Tryz.prog Tryz.f181 [] {})=?c)=>?c) ?h;case h=>conv=>lhs; (conv=>arg 1;reduce);dsimp only[G.ap]
def dH:List ak:=[.tmp 4]
theorem gl:aq Tryz.prog aO [] dP dH 9:=ai mixed (by kernel_rfl)
def eJ:CC:=by refine(fun(_:G.ap (G.gn Tryz.prog Tryz.f228 [] {})=?c)=>?c) ?h;case h=>conv=>lhs; (conv=>arg 1;reduce);dsimp only[G.ap]
def eC:List ak:=[.tmp 4]
theorem jx:aq Tryz.prog bK [] eJ eC 19:=ai mixed (by kernel_rfl)
def ga:CC:=by refine(fun(_:G.ap (G.gn Tryz.prog Tryz.f290 [3] {})=?c)=>?c) ?h;case h=>conv=>lhs; (conv=>arg 1;reduce);dsimp only[G.ap]
def fT:List ak:=[.tmp 4]
theorem vL:aq Tryz.prog ei [3] ga fT 9:=ai mixed (by kernel_rfl)
def jC:CC:=by refine(fun(_:G.ap (G.gn Tryz.prog Tryz.f306 [3] {})=?c)=>?c) ?h;case h=>conv=>lhs; (conv=>arg 1;reduce);dsimp only[G.ap]
def jm:List ak:=[.tmp 4]
theorem zl:aq Tryz.prog fM [3] jC jm 19:=ai mixed (by kernel_rfl)
def gM:CC:=by refine(fun(_:G.ap (G.gn Tryz.prog Tryz.f168 [] {})=?c)=>?c) ?h;case h=>conv=>lhs; (conv=>arg 1;reduce);dsimp only[G.ap]
def gu:List ak:=[.tmp 4]
theorem wO:aq Tryz.prog aM [] gM gu 19:=ai mixed (by kernel_rfl)
def cx:CC:=by refine(fun(_:G.ap (G.gn Tryz.prog Tryz.f119 [] {})=?c)=>?c) ?h;case h=>conv=>lhs; (conv=>arg 1;reduce);dsimp only[G.ap]
def cw:List ak:=[.tmp 4]
theorem kB:aq Tryz.prog aF [] cx cw 9:=ai mixed (by kernel_rfl)
def jI:CC:=by refine(fun(_:G.ap (G.gn Tryz.prog Tryz.f121 [3] {})=?c)=>?c) ?h;case h=>conv=>lhs; (conv=>arg 1;reduce);dsimp only[G.ap]
def js:List ak:=[.tmp 6, .tmp 7]
theorem zy:aq Tryz.prog cz [3] jI js 40:=ai mixed (by kernel_rfl)
def oc:CC:=by refine(fun(_:G.ap (G.gn Tryz.prog Tryz.f122 [2] {})=?c)=>?c) ?h;case h=>conv=>lhs; (conv=>arg 1;reduce);dsimp only[G.ap]
def nc:List ak:=[.tmp 4]
theorem Dn:aq Tryz.prog dy [2] oc nc 29:=ai mixed (by kernel_rfl)
def bB:CC:=by refine(fun(_:G.ap (G.gn Tryz.prog Tryz.f170 [1,2034005,2033005,2043005,2042005,2041005,2052005,2051005,2050005] {})=?c)=>?c) ?h;case h=>conv=>lhs; (conv=>arg 1;reduce);dsimp only[G.ap]
def bA:List ak:=[.tmp 2]
theorem BE:aq Tryz.prog jd [1,2034005,2033005,2043005,2042005,2041005,2052005,2051005,2050005] bB bA 108:=ai mixed (by kernel_rfl)
def gU:CC:=by refine(fun(_:G.ap (G.gn Tryz.prog Tryz.f173 [3] {})=?c)=>?c) ?h;case h=>conv=>lhs; (conv=>arg 1;reduce);dsimp only[G.ap]
def gD:List ak:=[.tmp 4]
theorem wU:aq Tryz.prog aN [3] gU gD 8:=ai mixed (by kernel_rfl)
def fL:CC:=by refine(fun(_:G.ap (G.gn Tryz.prog Tryz.f222 [2] {})=?c)=>?c) ?h;case h=>conv=>lhs; (conv=>arg 1;reduce);dsimp only[G.ap]
def fH:List ak:=[.tmp 3]
theorem uS:aq Tryz.prog bb [2] fL fH 8:=ai mixed (by kernel_rfl)
def gT:CC:=by refine(fun(_:G.ap (G.gn Tryz.prog Tryz.f219 [] {})=?c)=>?c) ?h;case h=>conv=>lhs; (conv=>arg 1;reduce);dsimp only[G.ap]
def gC:List ak:=[.tmp 4]
theorem BH:aq Tryz.prog dW [] gT gC 14:=ai mixed (by kernel_rfl)
def cm:CC:=by refine(fun(_:G.ap (G.gn Tryz.prog Tryz.f171 [2] {})=?c)=>?c) ?h;case h=>conv=>lhs; (conv=>arg 1;reduce);dsimp only[G.ap]
def cg:List ak:=[.tmp 4]
theorem BF:aq Tryz.prog je [2] cm cg 50:=ai mixed (by kernel_rfl)
def cP:CC:=by refine(fun(_:G.ap (G.gn Tryz.prog Tryz.f124 [3] {})=?c)=>?c) ?h;case h=>conv=>lhs; (conv=>arg 1;reduce);dsimp only[G.ap]
def cO:List ak:=[.tmp 6]
theorem BI:aq Tryz.prog jg [3] cP cO 59:=ai mixed (by kernel_rfl)
def iN:CC:=by refine(fun(_:G.ap (G.gn Tryz.prog Tryz.f74 [5,4,3] {})=?c)=>?c) ?h;case h=>conv=>lhs; (conv=>arg 1;reduce);dsimp only[G.ap]
def iG:List ak:=[.tmp 6]
theorem yw:aq Tryz.prog fy [5,4,3] iN iG 23:=ai mixed (by kernel_rfl)
def ge:CC:=by refine(fun(_:G.ap (G.gn Tryz.prog Tryz.f123 [3] {})=?c)=>?c) ?h;case h=>conv=>lhs; (conv=>arg 1;reduce);dsimp only[G.ap]
def fW:List ak:=[.tmp 4]
theorem vN:aq Tryz.prog bM [3] ge fW 9:=ai mixed (by kernel_rfl)
def cn:CC:=by refine(fun(_:G.ap (G.gn Tryz.prog Tryz.f263 [3] {})=?c)=>?c) ?h;case h=>conv=>lhs; (conv=>arg 1;reduce);dsimp only[G.ap]
def ci:List ak:=[.tmp 6]
theorem BJ:aq Tryz.prog jh [3] cn ci 38:=ai mixed (by kernel_rfl)
def kV:CC:=by refine(fun(_:G.ap (G.gn Tryz.prog Tryz.f265 [5,4,3] {})=?c)=>?c) ?h;case h=>conv=>lhs; (conv=>arg 1;reduce);dsimp only[G.ap]
def kK:List ak:=[.tmp 6]
theorem AG:aq Tryz.prog gI [5,4,3] kV kK 11:=ai mixed (by kernel_rfl)
def bW:CC:=by refine(fun(_:G.ap (G.gn Tryz.prog Tryz.f289 [3] {})=?c)=>?c) ?h;case h=>conv=>lhs; (conv=>arg 1;reduce);dsimp only[G.ap]
def bU:List ak:=[.tmp 4]
theorem yv:aq Tryz.prog aV [3] bW bU 37:=ai mixed (by kernel_rfl)
end Go.Gv
