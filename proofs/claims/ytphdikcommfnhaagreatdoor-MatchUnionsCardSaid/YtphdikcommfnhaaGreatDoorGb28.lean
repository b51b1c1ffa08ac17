/- A part of the framework and of the walks: W143 T34 W144 V54 C56 W145 W146 C57. -/
import Derived.Laws.RangeString
import Derived.Test.YtphdikcommfnhaaGreatDoorGb27
import Derived.Test.YtphdikcommfnhaaGreatDoorGb26
import Derived.Test.YtphdikcommfnhaaGreatDoorGb20
set_option linter.unusedSimpArgs false
set_option linter.unusedVariables false
set_option maxRecDepth 100000
set_option linter.unusedSectionVars false
set_option maxHeartbeats 0

namespace Go.Gv
open Cod (enc dec)
variable {S S0:Nat->Spc}
def qdB(b:Tbk->Rx->Option (Tbk×Prt))(o:Tbk->Rx×Int->Option (Tbk×Prt))(y:Rx)(mn mx:Int)(q:Tbk×Prt×Bool):Option (Tbk×Prt):=
 if q.2.2=true then some (q.1,Bu)else
  if mx < 0/\mn=0 then(b q.1 y).bind fun r=>(Db r.1 (r.2.last,r.2.first)).map fun l=>(l.1, { r.2 with nul:=true })else
  if mn < mx then(o q.1 (y,mx -mn)).bind fun r=>xF r.1 (q.2.1,r.2)else some (q.1,q.2.1)
set_option maxHeartbeats 2000000 in
theorem Xg(n:Nat)(h1:S aU=vR n)(h2:S bW=Hv n)(h3:S bC=vQ)(h4:S cY=Cw):Fd gM gr S (a1 Rx) (enc (X:=Prt)) (BR (n+1)).r:=by
 rintro b v v' t ⟨op,mn,mx,rs,ks⟩ r hF
 replace hF:X6 (BR n).b (BR n).o t ⟨op,mn,mx,rs,ks⟩=some r:=hF
 unfold X6 at hF
 simp only at hF
 split at hF
 ·cases hF
 rename_i y ks'
 split at hF
 ·cases hF
 rename_i hrng
 obtain⟨q,hq,hF⟩:=qsR.1 hF
 have hF:qdB (BR n).b (BR n).o y mn mx q=some r:=hF
 have hm:mn=(mn.toNat:Int):=by omega
 generalize mn.toNat=m at hm hq
 subst hm
 have hm':(m:Int)<=9223372036854775807:=by omega
 have hpos:(0:Int) < ((y::ks').length:Int):=by simp
 simp[gM,gr,vn,nU,nV,ru,hm', -Bool.forall_bool, -Bool.exists_bool]
 intro b4 b5
 refine ak (X:=Tbk×Prt×Value×Value) [0,3,4,5] [4] m (fun k x=>(qig (BR n).b y mx (m -k) x.1 x.2.1).bind (qdB (BR n).b (BR n).o y m mx)=some r) (fun x=>[]) (fun x=>[(0, .box b [.own 990 x.2.2.1, .v (.int .u64 x.1.fi.val), .v (.int .u64 x.1.la.val), .own 991 x.2.2.2, .v (.bool x.1.nul)]),(990, .row x.2.2.1 dX 1 (x.1.lvs.map enc)),(991, .row x.2.2.2 eW 1 (x.1.fol.map enc)),(5, .box b5 [.v (.int .u64 x.2.1.first.val), .v (.int .u64 x.2.1.last.val), .v (.bool x.2.1.nul)])]) (t,Bu,v,v') (by simp) (by simp) (by omega) (by simp) (by simp) (by simp[hq,hF]) (by simp) (by simp[Bu]) ?_ ?_
 ·rintro k ⟨t,p,w,w'⟩ hk hx
  rw[show m -k=(m - (k+1)) +1 by omega,qig]at hx
  simp only at hx
  split at hx
  ·cases hx
  rename_i hok
  obtain⟨hlv,hfo⟩:=vq hok
  have hlv':(t.lvs.length:Int)<=9223372036854775807:=by omega
  cases hb:(BR n).b t y with
  | none=>rw[hb]at hx;cases hx
  | some c=>
  rw[hb,qtb]at hx
  split at hx
  ·cases hx
  rename_i hok2
  obtain⟨hlq,hfq⟩:=vq hok2
  have hlq':(c.1.lvs.length:Int)<=9223372036854775807:=by omega
  split at hx
  ·rename_i e
   have e':(c.1.lvs.length:Int)=t.lvs.length:=by omega
   simp[hk,h1,hb,hlv',hlq',e,e', -Bool.forall_bool, -Bool.exists_bool]
   have hx:some (c.1,Bu)=some r:=hx
   obtain rfl:=qs8 hx
   exact fun u u'=>vw u u' c.1 Bu rfl rfl rfl rfl rfl
  rename_i e
  have e':¬ (c.1.lvs.length:Int)=t.lvs.length:=by omega
  have hin:InR .i64 ((m:Int) -1):=by simp only[InR];omega
  by_cases hmx:mx < 0
  ·by_cases hkm:m - (k+1)=0
   ·rw[if_pos ⟨hmx,hkm⟩]at hx
    have hkm':(k:Int)=m -1:=by omega
    cases hl:Db c.1 (c.2.last,c.2.first)with
    | none=>rw[hl]at hx;cases hx
    | some l=>
    rw[hl,qtb]at hx
    cases hc:xF l.1 (p,c.2)with
    | none=>rw[hc]at hx;cases hx
    | some d=>
    rw[hc,qtb]at hx
    simp[hk,h1,h3,h4,hb,hl,hc,hlv',hlq',e,e',hin,hmx,hkm', -Bool.forall_bool, -Bool.exists_bool]
    exact fun u u'=>⟨d.1,d.2,hx,u,u', .inl ⟨rfl,rfl,rfl,rfl,rfl⟩, .inl ⟨rfl,rfl⟩, .inl ⟨rfl,rfl⟩, .inl ⟨rfl,rfl,rfl⟩⟩
   ·rw[if_neg (fun h=>hkm h.2)]at hx
    have hkm':¬ (k:Int)=m -1:=by omega
    rw[qtb]at hx
    cases hc:xF c.1 (p,c.2)with
    | none=>rw[hc]at hx;cases hx
    | some d=>
    rw[hc,qtb]at hx
    simp[hk,h1,h3,h4,hb,hc,hlv',hlq',e,e',hin,hmx,hkm', -Bool.forall_bool, -Bool.exists_bool]
    exact fun u u'=>⟨d.1,d.2,hx,u,u', .inl ⟨rfl,rfl,rfl,rfl,rfl⟩, .inl ⟨rfl,rfl⟩, .inl ⟨rfl,rfl⟩, .inl ⟨rfl,rfl,rfl⟩⟩
  ·rw[if_neg (fun h=>hmx h.1)]at hx
   rw[qtb]at hx
   cases hc:xF c.1 (p,c.2)with
   | none=>rw[hc]at hx;cases hx
   | some d=>
   rw[hc,qtb]at hx
   simp[hk,h1,h3,h4,hb,hc,hlv',hlq',e,e',hmx, -Bool.forall_bool, -Bool.exists_bool]
   exact fun u u'=>⟨d.1,d.2,hx,u,u', .inl ⟨rfl,rfl,rfl,rfl,rfl⟩, .inl ⟨rfl,rfl⟩, .inl ⟨rfl,rfl⟩, .inl ⟨rfl,rfl,rfl⟩⟩
 ·rintro⟨t,p,w,w'⟩ hx
  simp only[qui,qig,qtb]at hx
  have hx:(if mx < 0/\(m:Int)=0 then((BR n).b t y).bind fun r=>(Db r.1 (r.2.last,r.2.first)).map fun l=>(l.1, { r.2 with nul:=true })else
   if(m:Int) < mx then((BR n).o t (y,mx -m)).bind fun r=>xF r.1 (p,r.2)else some (t,p))=some r:=hx
  by_cases hA:mx < 0/\(m:Int)=0
  ·rw[if_pos hA]at hx
   obtain⟨hmx,hm0⟩:=hA
   obtain⟨c,hb,hx⟩:=qsR.1 hx
   obtain⟨l,hl,rfl⟩:=qs4.1 hx
   have hm0':m=0:=by omega
   subst hm0'
   simp[h1,h4,hb,hl,hmx, -Bool.forall_bool, -Bool.exists_bool]
   exact fun u u'=>vw u u' l.1 _ rfl rfl rfl rfl ⟨rfl,rfl⟩
  ·rw[if_neg hA]at hx
   by_cases hB:(m:Int) < mx
   ·rw[if_pos hB]at hx
    obtain⟨c,hb,hx⟩:=qsR.1 hx
    have n0:¬mx < 0:=by omega
    have hin:InR .i64 (mx -m):=by simp only[InR];omega
    simp[h2,h3,hb,hx,n0,hB,hin, -Bool.forall_bool, -Bool.exists_bool]
    exact fun u u'=>vw u u' r.1 r.2 rfl rfl rfl rfl rfl
   ·rw[if_neg hB]at hx
    obtain rfl:=qs8 hx
    by_cases hmx:mx < 0
    ·have hm0:¬ (m:Int)=0:=fun h=>hA ⟨hmx,h⟩
     have hm0':¬m=0:=by omega
     simp[hmx,hm0,hm0',hB, -Bool.forall_bool, -Bool.exists_bool]
     exact vw w w' t p rfl rfl rfl rfl ⟨rfl,rfl⟩
    ·simp[hmx,hB, -Bool.forall_bool, -Bool.exists_bool]
     exact vw w w' t p rfl rfl rfl rfl ⟨rfl,rfl⟩
end Go.Gv

namespace Go.Gv
open Cod (enc dec)
def SF(t:Tbk):D:= .cptr [enc t.lvs,enc t.fi,enc t.la,enc t.fol,enc t.nul] 0
theorem ZB{t t':Tbk}(h:SF t=SF t'):t=t':=by
 obtain⟨a1,a2,a3,a4,a5⟩:=t
 obtain⟨b1,b2,b3,b4,b5⟩:=t'
 unfold SF at h
 injection h with h1 h2
 simp only[qti]at h1
 obtain⟨h1,h2,h3,h4,h5,_⟩:=h1
 have h1:=aL h1
 have h2:=aL h2
 have h3:=aL h3
 have h4:=aL h4
 have h5:=aL h5
 subst h1;subst h2;subst h3;subst h4;subst h5
 rfl
open Classical in
noncomputable instance:Cod Tbk where
 wd:=1
 enc:=SF
 dec d:=if h:∃t,d=SF t then some h.choose else none
 kn _:=rfl
 wid _:=rfl
 dec_enc t:=by
  have h:∃t',SF t=SF t':=⟨t,rfl⟩
  rw[dif_pos h]
  exact congrArg some (ZB h.choose_spec).symm
 le d x h:=by
  split at h
  ·rename_i h'
   cases h
   rw[h'.choose_spec.symm]
   exact .same _
  ·cases h
@[simp] theorem qmn(t:Tbk):enc t= .cptr [enc t.lvs,enc t.fi,enc t.la,enc t.fol,enc t.nul] 0:=id rfl
@[simp] theorem qmx(l:List (List Rng))(f a:Int)(fo:List U64)(n:Bool):dec (X:=Tbk) (.cptr [.list 1 (l.map enc), .v (.int .u64 f), .v (.int .u64 a), .list 1 (fo.map enc), .v (.bool n)] 0)=some ⟨l,⟨f⟩,⟨a⟩,fo,n⟩:=Cod.dec_enc (X:=Tbk) ⟨l,⟨f⟩,⟨a⟩,fo,n⟩
end Go.Gv

namespace Go.Gv
open Cod (enc dec)
variable {S S0:Nat->Spc}
def qdl(n:Nat)(x:Rx):Prop:=(qbx n x).isSome=true
def qgx(n:Nat)(x:Rx)(t:Tbk):Prop:=qbx n x=some t
noncomputable abbrev XR(n:Nat):Spc:=bp (a1 Rx) (qdl n) (enc (X:=Tbk)) (qgx n)
theorem qnH(n:Nat)(h1:S aU=vR n):ar xh wl S (a1 Rx) (qdl n) (enc (X:=Tbk)) (qgx n):=by
 rintro x hx
 obtain⟨t,ht⟩:=qtV.1 hx
 obtain⟨q,hq,rfl⟩:=qs4.1 ht
 have hq0:(BR n).b ⟨[],⟨0⟩,⟨0⟩, [],false⟩ x=some q:=hq
 simp[xh,wl, -Bool.forall_bool, -Bool.exists_bool]
 refine jF (X:=Nat) [1] [] [] [] (fun _=>True) (fun b=>[(3, .bptr 6 b 0)]) (fun b=>[(6, .box b [.own 990 (.slice none 0 0), .v (.int .u64 0), .v (.int .u64 0), .own 991 (.slice none 0 0), .v (.bool false)]),(990, .row (.slice none 0 0) dX 1 []),(991, .row (.slice none 0 0) eW 1 [])]) [6,990,991] (fun _=>rfl) (by decide) ?_ ?_
 ·simp
  refine fun b=>⟨b, .same _, .inl ?_,by simp[isNilRow],by simp[isNilRow]⟩
  simp
  exact⟨.nilown 990, .nilown 991⟩
 ·rintro b -
  have e1:(Res.row (.slice none 0 0) dX 1 []:Res)= .row (.slice none 0 0) dX 1 (([]:List (List Rng)).map enc):=rfl
  have e2:(Res.row (.slice none 0 0) eW 1 []:Res)= .row (.slice none 0 0) eW 1 (([]:List U64).map enc):=rfl
  rw[e1,e2]
  simp[h1,hq0, -List.map_nil, -Bool.forall_bool, -Bool.exists_bool]
  simp[hq0, -Bool.forall_bool, -Bool.exists_bool]
  intro w w'
  refine jF (X:=Unit) [] [] [990,991] [] (fun _=>True) (fun _=>[(2, .bptr 6 b 0)]) (fun _=>[(6, .box b [enc q.1.lvs, .v (.int .u64 q.2.first.val), .v (.int .u64 q.2.last.val),enc q.1.fol, .v (.bool q.2.nul)])]) [6] (fun _=>rfl) (by decide) ?_ ?_
  ·simp
   exact .inl ⟨iX (l:=q.1.lvs) dX rfl,iX (l:=q.1.fol) eW rfl⟩
  ·rintro - -
   simp
   refine cV ⟨q.1.lvs,q.2.first,q.2.last,q.1.fol,q.2.nul⟩ ?_ ht
   exact .box rfl
def qaN(x:Tbk×U64×Bool):Prop:=x.1.fol.length<=100000
def qaE(x:Tbk×U64×Bool)(y:U64):Prop:=y=za x.1 x.2.1 x.2.2
noncomputable abbrev Rz:Spc:=bp (a3 Tbk U64 Bool) qaN (enc (X:=U64)) qaE
theorem qbn:ar fC fh S (a3 Tbk U64 Bool) qaN (enc (X:=U64)) qaE:=by
 rintro⟨⟨lv,fi,la,fo,nu⟩,set,beg⟩ hlen
 have hlen:fo.length<=100000:=hlen
 have hl:(fo.length:Int)<=9223372036854775807:=by omega
 cases beg
 ·simp[fC,fh,hl, -Bool.forall_bool, -Bool.exists_bool]
  refine ak (X:=U64) [1,18] [] fo.length (fun k m=>qdH set k (fo.drop k) m=qdH set 0 fo ⟨0⟩) (fun m=>[(7,enc m)]) (fun x=>[]) ⟨0⟩ (by simp) (by simp) (by omega) (by simp) (by simp) (by simp) (by simp) (by simp) ?_ ?_
  ·rintro k m hk hm
   obtain⟨f,hf⟩:∃f,fo[k]? =some f:=⟨_,qsU hk⟩
   obtain⟨_,hgf⟩:=qsT.1 hf
   rw[Yx hf]at hm
   simp[hk,hf,hgf, -Bool.forall_bool, -Bool.exists_bool]
   exact⟨fun hb=>⟨qbR m f,by simpa [hb]using hm,rfl⟩,fun hb=>⟨m,by simpa [hb]using hm,rfl⟩⟩
  ·rintro m hm
   rw[qtR,qdH]at hm
   subst hm
   simp[-Bool.forall_bool, -Bool.exists_bool]
   exact cV _ (.same _) rfl
 ·simp[fC,fh,hl, -Bool.forall_bool, -Bool.exists_bool]
  exact cV _ (.same _) rfl
end Go.Gv

namespace Go.Gv
open Cod (enc dec)
def Nq(l:List Rng)(c:Int):Bool:=l.any fun r=>decide (r.fr.val<=c) && decide (c<=r.to.val)
def qg6(next:U64)(c:I32):Nat->List (List Rng)->U64->U64
 | _, [],m=>m
 | i,l::ls,m=>qg6 next c (i+1) ls (if WM next i && Nq l c.val then⟨qis .u64 m.val (OE .u64 1 i)⟩else m)
def qbr(next:U64)(lvs:List (List Rng)):List I32->U64->U64
 | [],m=>m
 | v::vs,m=>qbr next lvs vs (qg6 next v 0 lvs m)
def qiE(t:Tbk)(vf:I32->List I32):List I32->U64->Bool->Bool
 | [],set,beg=>(beg && t.nul)||decide (SX .u64 set.val t.la.val≠0)
 | c::l,set,beg=>if(qbr (za t set beg) t.lvs (vf c) ⟨0⟩).val=0 then false else qiE t vf l (qbr (za t set beg) t.lvs (vf c) ⟨0⟩) false
def low(c:Int):Int:=if 65<=c/\c<=90 then c+32 else c
def IM(c:I32):List I32:=([⟨low c.val⟩,⟨low c.val -32⟩,⟨low c.val -80⟩]:List I32).filter fun v=>decide (0<=v.val/\low v.val=low c.val)
def QX(f:Bool)(c:I32):List I32:=if f=true then IM c else[c]
def qc1(l:List UInt8):List I32:=l.map fun c=>⟨(c.toNat:Int)⟩
def Bv(x:Rx)(s:B)(f:Bool):Option Bool:=if AP 50 x=true/\uO s=true/\s.size<=1000 then(qbx 50 x).bind fun t=>if MW t=true then some (qiE t (QX f) (qc1 s.data.toList) ⟨0⟩ true)else none else none
end Go.Gv

namespace Go.Gv
open Go.Proofs
def sJ:CC:=by refine(fun(_:G.ap (G.gn Tryz.prog Tryz.f303 [3] {})=?c)=>?c) ?h;case h=>conv=>lhs; (conv=>arg 1;reduce);dsimp only[G.ap]
def rV:List aj:=[.tmp 6]
theorem H5:aq Tryz.prog hU [3] sJ rV 88:=ai mixed (by kernel_rfl)
def sL:CC:=by refine(fun(_:G.ap (G.gn Tryz.prog Tryz.f286 [2] {})=?c)=>?c) ?h;case h=>conv=>lhs; (conv=>arg 1;reduce);dsimp only[G.ap]
def rX:List aj:=[.tmp 4]
theorem H7:aq Tryz.prog pq [2] sL rX 8:=ai mixed (by kernel_rfl)
def oL:CC:=by refine(fun(_:G.ap (G.gn Tryz.prog Tryz.f305 [] {})=?c)=>?c) ?h;case h=>conv=>lhs; (conv=>arg 1;reduce);dsimp only[G.ap]
def nZ:List aj:=[.tmp 2]
theorem Ek:aq Tryz.prog cJ [] oL nZ 5:=ai mixed (by kernel_rfl)
def lG:CC:=by refine(fun(_:G.ap (G.gn Tryz.prog Tryz.f285 [2] {})=?c)=>?c) ?h;case h=>conv=>lhs; (conv=>arg 1;reduce);dsimp only[G.ap]
def ll:List aj:=[.tmp 4]
theorem A5:aq Tryz.prog iI [2] lG ll 8:=ai mixed (by kernel_rfl)
def nr:CC:=by refine(fun(_:G.ap (G.gn Tryz.prog Tryz.f304 [] {})=?c)=>?c) ?h;case h=>conv=>lhs; (conv=>arg 1;reduce);dsimp only[G.ap]
def my:List aj:=[.tmp 2]
theorem CG:aq Tryz.prog ck [] nr my 43:=ai mixed (by kernel_rfl)
end Go.Gv

namespace Go.Gv
open Cod (enc dec)
variable {S S0:Nat->Spc}
def aMt:dc (Rx×B×Bool):=⟨fun ds=>match ds with
 | [a,b, .clo f []]=>if f=cJ then(dec a).bind fun x=>(dec b).map fun s=>(x,s,false)else if f=ck then(dec a).bind fun x=>(dec b).map fun s=>(x,s,true)else none
 | _=>none,fun x=>[enc x.1,enc x.2.1, .clo (if x.2.2=true then ck else cJ) []],fun ds x h=>by
 split at h
 ·rename_i a b f
  split at h
  ·rename_i e
   simp only[qsR,qs4]at h
   obtain⟨x,hx,s,hs,rfl⟩:=h
   subst e
   exact .cons (Cod.le _ _ hx) (.cons (Cod.le _ _ hs) (.cons (.same _) .nil))
  ·split at h
   ·rename_i e
    simp only[qsR,qs4]at h
    obtain⟨x,hx,s,hs,rfl⟩:=h
    subst e
    exact .cons (Cod.le _ _ hx) (.cons (Cod.le _ _ hs) (.cons (.same _) .nil))
   ·cases h
 ·cases h⟩
@[simp] theorem qj1(x:Rx)(s:B)(f:Bool):aMt.view (x,s,f)=[enc x,enc s, .clo (if f=true then ck else cJ) []]:=id rfl
@[simp] theorem qj3(a b:D):aMt.dec [a,b, .clo cJ []]=(dec a).bind fun x=>(dec b).map fun s=>(x,s,false):=id rfl
@[simp] theorem qj2(a b:D):aMt.dec [a,b, .clo ck []]=(dec a).bind fun x=>(dec b).map fun s=>(x,s,true):=id rfl
abbrev KO:Spc:=bp (a1 Rx) (fun x=>AP 50 x=true) (enc (X:=Int)) fun x y=>y=0
abbrev OI:Spc:=bp (a2 (List Rng) I32) (fun _=>True) (enc (X:=Bool)) fun x y=>y=Nq x.1 x.2.val
abbrev s_cpVal:Spc:=bp (a1 B) (fun s=>uO s=true/\s.size<=1000) (enc (X:=Bool)) fun _ y=>y=true
abbrev XW:Spc:=bp (a1 I32) (fun c=>0<=c.val/\c.val < 128) (enc (X:=List I32)) fun c y=>y=QX false c
abbrev XQ:Spc:=bp (a1 I32) (fun c=>0<=c.val/\c.val < 128) (enc (X:=List I32)) fun c y=>y=QX true c
def qdj(x:Rx×B×Bool):Prop:=∃y,Bv x.1 x.2.1 x.2.2=some y
def qgu(x:Rx×B×Bool)(y:Bool):Prop:=Bv x.1 x.2.1 x.2.2=some y
abbrev OJ:Spc:=bp aMt qdj (enc (X:=Bool)) qgu
theorem Fb{s:B}(h:uO s=true){p:Nat}(hp:p < s.size):∃c:UInt8,s.data.toList[p]? =some c/\c.toNat < 128/\Utf8.decode s p=(c.toNat,1):=by
 have hl:p < s.data.toList.length:=by rw[qtj];exact hp
 refine⟨s.data.toList[p],qsU hl,?_,?_⟩
 ·have:=qsX.1 h _ (qud hl)
  simpa using this
 ·have h1:(s[p]'hp).toNat < 128:=by
   have:=qsX.1 h _ (qud hl)
   have h2:s.data[p].toNat < 128:=by simpa using this
   exact h2
  have:=Go.decode_ascii s p hp h1
  rw[this]
  have:s[p]=s.data.toList[p]:=by
   rw[Array.getElem_toList]
   rfl
  rw[this]
set_option maxHeartbeats 2000000 in
theorem JG(h1:S eq=KO)(h2:S fy=s_cpVal)(h3:S tV=XR 50)(h4:S fP=Rz)(h5:S jL=OI)(h6:S cJ=XW)(h7:S ck=XQ):
 ar sJ rV S aMt qdj (enc (X:=Bool)) qgu:=by
 rintro⟨x,s,f⟩ ⟨y,hy⟩
 have hy0:Bv x s f=some y:=hy
 unfold Bv at hy0
 split at hy0
 rotate_left
 ·cases hy0
 rename_i hc
 obtain⟨hv,ha,hsz⟩:=hc
 obtain⟨t,ht,hy1⟩:=qsR.1 hy0
 split at hy1
 rotate_left
 ·cases hy1
 rename_i hok
 have hres:qiE t (QX f) (qc1 s.data.toList) ⟨0⟩ true=y:=qs8 hy1
 obtain⟨hlv,hfo⟩:=vq (t:=t) (by rw[hok];simp)
 have hOf:qgx 50 x t:=ht
 have hPOf:qdl 50 x:=by unfold qdl;rw[ht];rfl
 simp[sJ,rV,h1,h2,h3,hv,ha,hsz,hPOf, -Bool.forall_bool, -Bool.exists_bool]
 intro t' ht' b
 obtain rfl:t=t':=by
  have h:qbx 50 x=some t':=ht'
  rw[ht]at h
  exact qs8 h
 refine av (X:=U64×Bool×Nat) [2,7,28] [] (fun z=>qiE t (QX f) (qc1 (s.data.toList.drop z.2.2)) z.1 z.2.1=y/\z.2.2<=s.size) (fun z=>[(8,enc z.1),(9,enc z.2.1)]) (fun z=>[(28, .iter b s z.2.2)]) (fun z=>s.size -z.2.2) (⟨0⟩,true,0) ⟨by simpa using hres,qtl _⟩ (by simp) (by simp) ?_
 rintro⟨set,beg,pos⟩ ⟨hm,hp⟩
 simp only at hm hp
 by_cases hlt:pos < s.size
 ·obtain⟨c,hc,hc128,hdec⟩:=Fb ha hlt
  rw[sG hc]at hm
  have hm:(if(qbr (za t set beg) t.lvs (QX f ⟨(c.toNat:Int)⟩) ⟨0⟩).val=0 then false else qiE t (QX f) (qc1 (s.data.toList.drop (pos+1))) (qbr (za t set beg) t.lvs (QX f ⟨(c.toNat:Int)⟩) ⟨0⟩) false)=y:=hm
  have hN:qaN (t,set,beg):=by show t.fol.length<=100000;omega
  have hq:qaE (t,set,beg) (za t set beg):=rfl
  have c0:(0:Int)<=(c.toNat:Int):=by omega
  have c1:(c.toNat:Int) < 128:=by omega
  have hvl:((QX f ⟨(c.toNat:Int)⟩).length:Int)<=9223372036854775807:=by
   have:(QX f ⟨(c.toNat:Int)⟩).length<=3:=by
    unfold QX
    split
    ·unfold IM
     exact qtF (List.length_filter_le _ _) (by simp)
    ·simp
   omega
  have h8:S (if f=true then ck else cJ)=bp (a1 I32) (fun c=>0<=c.val/\c.val < 128) (enc (X:=List I32)) fun c y=>y=QX f c:=by
   cases f
   ·exact h6
   ·exact h7
  simp[hlt,hdec,h4,hN,h8,c0,c1,hvl, -Bool.forall_bool, -Bool.exists_bool]
  intro nx hnx
  obtain rfl:nx=za t set beg:=hnx
  generalize za t set beg=nx at hm
  generalize QX f ⟨(c.toNat:Int)⟩=vs at hm hvl
  refine ak (X:=U64) [2,7,9,12,28,38] [28] vs.length (fun k m=>qbr nx t.lvs (vs.drop k) m=qbr nx t.lvs vs ⟨0⟩) (fun m=>[(8,enc m)]) (fun _=>[]) ⟨0⟩ (by simp) (by simp) (by omega) (by simp) (by simp) (by simp) (by simp) (by simp) ?_ ?_
  ·rintro k m hk hm2
   obtain⟨v,hvk⟩:=NF hk
   obtain⟨_,hgv⟩:=qsT.1 hvk
   rw[sG hvk,qbr]at hm2
   have hlv':(t.lvs.length:Int)<=9223372036854775807:=by omega
   simp[hk,hvk,hgv,hlv', -Bool.forall_bool, -Bool.exists_bool]
   refine ak (X:=U64) [2,7,9,12,14,28,38,39,40,47] [28] t.lvs.length (fun k m'=>qg6 nx v k (t.lvs.drop k) m'=qg6 nx v 0 t.lvs m) (fun m=>[(8,enc m)]) (fun _=>[]) m (by simp) (by simp) (by omega) (by simp) (by simp) (by simp) (by simp) (by simp) ?_ ?_
   ·rintro j m' hj hm3
    obtain⟨lf,hlf⟩:=NF hj
    obtain⟨_,hgl⟩:=qsT.1 hlf
    rw[sG hlf,qg6]at hm3
    simp[hj,hlf,hgl,h5, -Bool.forall_bool, -Bool.exists_bool]
    refine⟨fun hb=>⟨fun hc=>⟨_,by rw[if_pos (by simp[hb,hc])]at hm3;exact hm3,rfl⟩,fun hc=>⟨m',by rw[if_neg (by simp[hc])]at hm3;exact hm3,rfl⟩⟩,fun hb=>⟨m',by rw[if_neg (by simp[hb])]at hm3;exact hm3,rfl⟩⟩
   ·rintro m' hm3
    rw[qtR,qg6]at hm3
    subst hm3
    simp[-Bool.forall_bool, -Bool.exists_bool]
    exact⟨_,hm2,rfl⟩
  ·rintro m hm2
   rw[qtR,qbr]at hm2
   subst hm2
   simp[-Bool.forall_bool, -Bool.exists_bool]
   refine⟨fun h0=>?_,fun h0=>?_⟩
   ·rw[if_pos h0]at hm
    subst hm
    exact hy
   ·rw[if_neg h0]at hm
    exact⟨_,false,pos+1,⟨hm,by omega⟩,⟨⟨rfl,rfl⟩, .inl rfl⟩,by omega⟩
 ·have hpe:pos=s.size:=by omega
  subst hpe
  rw[qtQ (by rw[qtj];exact qs2 _)]at hm
  have hm:((beg && t.nul)||decide (SX .u64 set.val t.la.val≠0))=y:=hm
  simp[-Bool.forall_bool, -Bool.exists_bool]
  have hQ:∀w,w=y->qgu (x,s,f) w:=fun w e=>by subst e;exact hy
  refine⟨fun hb=>⟨fun hn=>hQ _ ?_,fun hn=>hQ _ ?_⟩,fun hb=>hQ _ ?_⟩
  all_goals
   subst hb
   first|subst hn|skip
   rw[<-hm]
   simp[*]
theorem FI:ar oL nZ S (a1 I32) (fun c=>0<=c.val/\c.val < 128) (enc (X:=List I32)) fun c y=>y=QX false c:=by
 rintro⟨c⟩ ⟨c0,c1⟩
 simp[oL,nZ, -Bool.forall_bool, -Bool.exists_bool]
 exact cV [⟨c⟩] (by simp) rfl
def QE(f:Bool)(x:Rx×B):Prop:=∃y,Bv x.1 x.2 f=some y
def qaF(f:Bool)(x:Rx×B)(y:Bool):Prop:=Bv x.1 x.2 f=some y
abbrev KP(f:Bool):Spc:=bp (a2 Rx B) (QE f) (enc (X:=Bool)) (qaF f)
theorem JJ(h1:S hU=OJ):ar sL rX S (a2 Rx B) (QE false) (enc (X:=Bool)) (qaF false):=by
 rintro⟨x,s⟩ hp
 have hp':qdj (x,s,false):=hp
 simp[sL,rX,h1,hp', -Bool.forall_bool, -Bool.exists_bool]
 exact fun y hy=>hy
theorem BX(h1:S hU=OJ):ar lG ll S (a2 Rx B) (QE true) (enc (X:=Bool)) (qaF true):=by
 rintro⟨x,s⟩ hp
 have hp':qdj (x,s,true):=hp
 simp[lG,ll,h1,hp', -Bool.forall_bool, -Bool.exists_bool]
 exact fun y hy=>hy
end Go.Gv

namespace Go.Gv
open Cod (enc dec)
variable {S S0:Nat->Spc}
def jI(c:Int):B:=⟨#[c.toNat.toUInt8]⟩
abbrev s_cpFold1:Spc:=bp (a1 B) (fun s=>∃c:Int,0<=c/\c < 128/\s=jI c) (enc (X:=B)) fun s y=>∀c:Int,0<=c->c < 128->s=jI c->y=jI (low c)
theorem Nl{c:Int}(h0:0<=c)(h1:c < 128):Utf8.encode c=jI c:=by
 unfold Utf8.encode jI
 have e:c.toNat < 128:=by omega
 have h:Utf8.valid c=true:=by
  unfold Utf8.valid
  have:c < 55296:=by omega
  simp[h0,this]
 simp[e,h]
theorem M2{c:Int}(h0:0<=c)(h1:c < 128):0<=low c/\low c < 128:=by unfold low;split <;> omega
theorem Tz{c d:Int}(hc:0<=c)(hc':c < 128)(hd:0<=d)(hd':d < 128)(h:jI c=jI d):c=d:=by
 have:c.toNat.toUInt8=d.toNat.toUInt8:=by
  have:=congrArg (fun b:B=>b.data.toList.head?) h
  simpa [jI]using this
 have:=congrArg UInt8.toNat this
 have e1:c.toNat.toUInt8.toNat=c.toNat % 256:=qux ..
 have e2:d.toNat.toUInt8.toNat=d.toNat % 256:=qux ..
 omega
theorem qfc{c d:Int}(hc:0<=c)(hc':c < 128)(hd:0<=d)(hd':d < 128):(jI c=jI d)=(c=d):=propext ⟨Tz hc hc' hd hd',fun h=>by rw[h]⟩
theorem QO(h1:S jW=s_cpFold1):ar nr my S (a1 I32) (fun c=>0<=c.val/\c.val < 128) (enc (X:=List I32)) fun c y=>y=QX true c:=by
 rintro⟨c⟩ ⟨c0,c1⟩
 have c0:0<=c:=c0
 have c1:c < 128:=c1
 obtain⟨l0,l1⟩:=M2 c0 c1
 have hP:∃d:Int,0<=d/\d < 128/\jI c=jI d:=⟨c,c0,c1,rfl⟩
 simp[nr,my,h1,Nl c0 c1,hP, -Bool.forall_bool, -Bool.exists_bool]
 intro y hy b
 obtain rfl:=hy c c0 c1 rfl
 clear hy
 obtain⟨r,hr⟩:∃r,r=low c:=⟨_,rfl⟩
 rw[<-hr]at l0 l1 ⊢
 have hsz:(jI r).size=1:=rfl
 have hdec:Utf8.decode (jI r) 0=(r.toNat,1):=by
  have h0:0 < (jI r).size:=by rw[hsz];omega
  have e1:((jI r)[0]'h0).toNat=r.toNat % 256:=qux ..
  have e2:((jI r)[0]'h0).toNat=r.toNat:=by omega
  rw[Go.decode_ascii (jI r) 0 h0 (by omega),e2]
 refine av (X:=Nat×Value×List I32) [4,13] [] (fun z=>z.1=0/\z.2.1= .slice none 0 0/\z.2.2=[]\/z.1=1/\z.2.2=IM ⟨c⟩) (fun z=>[(3, .own 40 z.2.1)]) (fun z=>[(13, .iter b (jI r) z.1),(40, .row z.2.1 G5 1 (z.2.2.map enc))]) (fun z=>1 -z.1) (0, .slice none 0 0, []) (.inl ⟨rfl,rfl,rfl⟩) (by simp) (by simp[isNilRow]) ?_
 rintro⟨pos,v,l⟩ hz
 simp only at hz
 rcases hz with⟨rfl,rfl,rfl⟩|⟨rfl,rfl⟩
 ·have hrn:((r.toNat:Nat):Int)=r:=by omega
  have i1:InR .i32 (r -32):=by simp only[InR];omega
  have i2:InR .i32 (r -80):=by simp only[InR];omega
  simp[hsz,hdec,hrn,i1,i2, -Bool.forall_bool, -Bool.exists_bool]
  have hfo:∀l:List I32,l=([⟨r⟩,⟨r -32⟩,⟨r -80⟩]:List I32).filter (fun v=>decide (0<=v.val/\low v.val=r))->l=IM ⟨c⟩:=fun l hl=>by
   rw[hl,IM]
   simp only[<-hr]
  refine ak (X:=Value×List I32) [4,13,22] [13] 3 (fun k z=>z.2=(([⟨r⟩,⟨r -32⟩,⟨r -80⟩]:List I32).take k).filter (fun v=>decide (0<=v.val/\low v.val=r))/\z.2.length<=k) (fun z=>[(3, .own 40 z.1)]) (fun z=>[(40, .row z.1 G5 1 (z.2.map enc))]) (.slice none 0 0, []) (by simp) (by simp) (by omega) (by simp) (by simp) ⟨rfl,by simp⟩ (by simp) (by simp[isNilRow]) ?_ ?_
  ·rintro k ⟨v,l⟩ hk ⟨hl,hlen⟩
   simp only at hl hlen
   obtain⟨e,he,hee⟩:∃e:Int,e < 128/\([⟨r⟩,⟨r -32⟩,⟨r -80⟩]:List I32)[k]? =some ⟨e⟩/\([.v (.int .i32 r), .v (.int .i32 (r -32)), .v (.int .i32 (r -80))]:List D)[k]? =some (.v (.int .i32 e)):=by
    rcases(by omega:k=0\/k=1\/k=2)with rfl|rfl|rfl
    ·exact⟨r,by omega,rfl,rfl⟩
    ·exact⟨r -32,by omega,rfl,rfl⟩
    ·exact⟨r -80,by omega,rfl,rfl⟩
   obtain⟨he1,he2⟩:=hee
   have he3:∀h,([.v (.int .i32 r), .v (.int .i32 (r -32)), .v (.int .i32 (r -80))]:List D)[k]'h= .v (.int .i32 e):=fun h=>by
    obtain⟨_,h2⟩:=qsT.1 he2
    exact h2
   have hki:(k:Int) < 3:=by omega
   have hstep:(([⟨r⟩,⟨r -32⟩,⟨r -80⟩]:List I32).take (k+1)).filter (fun v=>decide (0<=v.val/\low v.val=r))=l++ ([⟨e⟩]:List I32).filter (fun v=>decide (0<=v.val/\low v.val=r)):=by
    rw[quB,he1,quj,<-hl]
    rfl
   by_cases h0:0<=e
   ·obtain⟨q0,q1⟩:=M2 h0 he
    have hPe:∃d:Int,0<=d/\d < 128/\jI e=jI d:=⟨e,h0,he,rfl⟩
    simp[hk,hki,he2,he3,h0,h1,Nl h0 he,hPe, -Bool.forall_bool, -Bool.exists_bool]
    intro y hy
    obtain rfl:=hy e h0 he rfl
    rw[qfc q0 q1 l0 l1]
    refine⟨fun hh=>⟨by omega,by omega,fun v=>⟨v,l++ [⟨e⟩],⟨?_,by simp;omega⟩,rfl, .inl ⟨rfl,by simp⟩⟩⟩,fun hh=>⟨v,l,⟨?_,by omega⟩,rfl, .inl ⟨rfl,rfl⟩⟩⟩
    ·simpa [h0,hh]using hstep.symm
    ·simpa [h0,hh]using hstep.symm
   ·simp[hk,hki,he2,he3,h0, -Bool.forall_bool, -Bool.exists_bool]
    refine⟨v,l,⟨?_,by omega⟩,rfl, .inl ⟨rfl,rfl⟩⟩
    simpa [h0]using hstep.symm
  ·rintro⟨v,l⟩ ⟨hl,hlen⟩
   simp only at hl hlen
   have hl:=hfo l hl
   simp[-Bool.forall_bool, -Bool.exists_bool]
   exact⟨1,v,l, .inr ⟨rfl,hl⟩,⟨rfl, .inl rfl, .inl ⟨rfl,rfl⟩⟩,rfl⟩
 ·simp[hsz, -Bool.forall_bool, -Bool.exists_bool]
  exact cV (IM ⟨c⟩) (iX (l:=IM ⟨c⟩) G5 rfl) rfl
end Go.Gv

namespace Go.Gv
open Go.Proofs
def dK:CC:=by refine(fun(_:G.ap (G.gn Tryz.prog Tryz.f221 [] {})=?c)=>?c) ?h;case h=>conv=>lhs; (conv=>arg 1;reduce);dsimp only[G.ap]
def dE:List aj:=[.tmp 4]
theorem pT:aq Tryz.prog cI [] dK dE 19:=ai mixed (by kernel_rfl)
def ek:CC:=by refine(fun(_:G.ap (G.gn Tryz.prog Tryz.f266 [] {})=?c)=>?c) ?h;case h=>conv=>lhs; (conv=>arg 1;reduce);dsimp only[G.ap]
def eh:List aj:=[.tmp 4]
theorem rb:aq Tryz.prog cX [] ek eh 9:=ai mixed (by kernel_rfl)
def fJ:CC:=by refine(fun(_:G.ap (G.gn Tryz.prog Tryz.f291 [] {})=?c)=>?c) ?h;case h=>conv=>lhs; (conv=>arg 1;reduce);dsimp only[G.ap]
def fF:List aj:=[.tmp 4]
theorem uv:aq Tryz.prog dQ [] fJ fF 19:=ai mixed (by kernel_rfl)
def dL:CC:=by refine(fun(_:G.ap (G.gn Tryz.prog Tryz.f181 [] {})=?c)=>?c) ?h;case h=>conv=>lhs; (conv=>arg 1;reduce);dsimp only[G.ap]
def dF:List aj:=[.tmp 4]
theorem ge:aq Tryz.prog aO [] dL dF 9:=ai mixed (by kernel_rfl)
def eJ:CC:=by refine(fun(_:G.ap (G.gn Tryz.prog Tryz.f228 [] {})=?c)=>?c) ?h;case h=>conv=>lhs; (conv=>arg 1;reduce);dsimp only[G.ap]
def eC:List aj:=[.tmp 4]
theorem jo:aq Tryz.prog bI [] eJ eC 19:=ai mixed (by kernel_rfl)
def fY:CC:=by refine(fun(_:G.ap (G.gn Tryz.prog Tryz.f290 [3] {})=?c)=>?c) ?h;case h=>conv=>lhs; (conv=>arg 1;reduce);dsimp only[G.ap]
def fT:List aj:=[.tmp 4]
theorem vo:aq Tryz.prog ei [3] fY fT 9:=ai mixed (by kernel_rfl)
def jt:CC:=by refine(fun(_:G.ap (G.gn Tryz.prog Tryz.f306 [3] {})=?c)=>?c) ?h;case h=>conv=>lhs; (conv=>arg 1;reduce);dsimp only[G.ap]
def ja:List aj:=[.tmp 4]
theorem yK:aq Tryz.prog fL [3] jt ja 19:=ai mixed (by kernel_rfl)
def gH:CC:=by refine(fun(_:G.ap (G.gn Tryz.prog Tryz.f168 [] {})=?c)=>?c) ?h;case h=>conv=>lhs; (conv=>arg 1;reduce);dsimp only[G.ap]
def gk:List aj:=[.tmp 4]
theorem wq:aq Tryz.prog aM [] gH gk 19:=ai mixed (by kernel_rfl)
def cq:CC:=by refine(fun(_:G.ap (G.gn Tryz.prog Tryz.f119 [] {})=?c)=>?c) ?h;case h=>conv=>lhs; (conv=>arg 1;reduce);dsimp only[G.ap]
def cp:List aj:=[.tmp 4]
theorem kj:aq Tryz.prog aF [] cq cp 9:=ai mixed (by kernel_rfl)
def jA:CC:=by refine(fun(_:G.ap (G.gn Tryz.prog Tryz.f121 [3] {})=?c)=>?c) ?h;case h=>conv=>lhs; (conv=>arg 1;reduce);dsimp only[G.ap]
def jj:List aj:=[.tmp 6, .tmp 7]
theorem yU:aq Tryz.prog cv [3] jA jj 40:=ai mixed (by kernel_rfl)
def nP:CC:=by refine(fun(_:G.ap (G.gn Tryz.prog Tryz.f122 [2] {})=?c)=>?c) ?h;case h=>conv=>lhs; (conv=>arg 1;reduce);dsimp only[G.ap]
def mS:List aj:=[.tmp 4]
theorem C3:aq Tryz.prog dw [2] nP mS 29:=ai mixed (by kernel_rfl)
def bz:CC:=by refine(fun(_:G.ap (G.gn Tryz.prog Tryz.f170 [1,2034005,2033005,2043005,2042005,2041005,2052005,2051005,2050005] {})=?c)=>?c) ?h;case h=>conv=>lhs; (conv=>arg 1;reduce);dsimp only[G.ap]
def bw:List aj:=[.tmp 2]
theorem Bj:aq Tryz.prog iS [1,2034005,2033005,2043005,2042005,2041005,2052005,2051005,2050005] bz bw 108:=ai mixed (by kernel_rfl)
def gP:CC:=by refine(fun(_:G.ap (G.gn Tryz.prog Tryz.f173 [3] {})=?c)=>?c) ?h;case h=>conv=>lhs; (conv=>arg 1;reduce);dsimp only[G.ap]
def gx:List aj:=[.tmp 4]
theorem wx:aq Tryz.prog aN [3] gP gx 8:=ai mixed (by kernel_rfl)
def fK:CC:=by refine(fun(_:G.ap (G.gn Tryz.prog Tryz.f222 [2] {})=?c)=>?c) ?h;case h=>conv=>lhs; (conv=>arg 1;reduce);dsimp only[G.ap]
def fG:List aj:=[.tmp 3]
theorem ux:aq Tryz.prog bb [2] fK fG 8:=ai mixed (by kernel_rfl)
def gO:CC:=by refine(fun(_:G.ap (G.gn Tryz.prog Tryz.f219 [] {})=?c)=>?c) ?h;case h=>conv=>lhs; (conv=>arg 1;reduce);dsimp only[G.ap]
def gw:List aj:=[.tmp 4]
theorem Bm:aq Tryz.prog dT [] gO gw 14:=ai mixed (by kernel_rfl)
def cg:CC:=by refine(fun(_:G.ap (G.gn Tryz.prog Tryz.f171 [2] {})=?c)=>?c) ?h;case h=>conv=>lhs; (conv=>arg 1;reduce);dsimp only[G.ap]
def bY:List aj:=[.tmp 4]
theorem Bk:aq Tryz.prog iT [2] cg bY 50:=ai mixed (by kernel_rfl)
def cM:CC:=by refine(fun(_:G.ap (G.gn Tryz.prog Tryz.f124 [3] {})=?c)=>?c) ?h;case h=>conv=>lhs; (conv=>arg 1;reduce);dsimp only[G.ap]
def cL:List aj:=[.tmp 6]
theorem Bn:aq Tryz.prog iU [3] cM cL 59:=ai mixed (by kernel_rfl)
def iD:CC:=by refine(fun(_:G.ap (G.gn Tryz.prog Tryz.f74 [5,4,3] {})=?c)=>?c) ?h;case h=>conv=>lhs; (conv=>arg 1;reduce);dsimp only[G.ap]
def iw:List aj:=[.tmp 6]
theorem xW:aq Tryz.prog fw [5,4,3] iD iw 23:=ai mixed (by kernel_rfl)
def fZ:CC:=by refine(fun(_:G.ap (G.gn Tryz.prog Tryz.f123 [3] {})=?c)=>?c) ?h;case h=>conv=>lhs; (conv=>arg 1;reduce);dsimp only[G.ap]
def fU:List aj:=[.tmp 4]
theorem vp:aq Tryz.prog bK [3] fZ fU 9:=ai mixed (by kernel_rfl)
def ci:CC:=by refine(fun(_:G.ap (G.gn Tryz.prog Tryz.f263 [3] {})=?c)=>?c) ?h;case h=>conv=>lhs; (conv=>arg 1;reduce);dsimp only[G.ap]
def bZ:List aj:=[.tmp 6]
theorem Bo:aq Tryz.prog iV [3] ci bZ 38:=ai mixed (by kernel_rfl)
def kM:CC:=by refine(fun(_:G.ap (G.gn Tryz.prog Tryz.f265 [5,4,3] {})=?c)=>?c) ?h;case h=>conv=>lhs; (conv=>arg 1;reduce);dsimp only[G.ap]
def kD:List aj:=[.tmp 6]
theorem Am:aq Tryz.prog gD [5,4,3] kM kD 11:=ai mixed (by kernel_rfl)
def bS:CC:=by refine(fun(_:G.ap (G.gn Tryz.prog Tryz.f289 [3] {})=?c)=>?c) ?h;case h=>conv=>lhs; (conv=>arg 1;reduce);dsimp only[G.ap]
def bP:List aj:=[.tmp 4]
theorem xV:aq Tryz.prog aV [3] bS bP 37:=ai mixed (by kernel_rfl)
end Go.Gv
