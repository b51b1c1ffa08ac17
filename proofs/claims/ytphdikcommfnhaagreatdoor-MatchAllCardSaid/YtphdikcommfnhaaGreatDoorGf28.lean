/- A part of the framework and of the walks: W143 T34 W144 V54 C56 W145 W146 C57 W150. -/
import Derived.Laws.RangeString
import Derived.Test.YtphdikcommfnhaaGreatDoorGf27
import Derived.Test.YtphdikcommfnhaaGreatDoorGf26
import Derived.Test.YtphdikcommfnhaaGreatDoorGf20
import Derived.Test.YtphdikcommfnhaaGreatDoorGf21
import Derived.Test.YtphdikcommfnhaaGreatDoorGf19
set_option linter.unusedSimpArgs false
set_option linter.unusedVariables false
set_option linter.unusedSectionVars false
set_option maxRecDepth 100000
set_option maxHeartbeats 0

namespace Go.Gv
open Cod (enc dec)
variable {S S0:Nat->Spc}
def qg1(b:Tbk->Rx->Option (Tbk×Prt))(o:Tbk->Rx×Int->Option (Tbk×Prt))(y:Rx)(mn mx:Int)(q:Tbk×Prt×Bool):Option (Tbk×Prt):=
 if q.2.2=true then some (q.1,CB)else
  if mx < 0/\mn=0 then(b q.1 y).bind fun r=>(El r.1 (r.2.last,r.2.first)).map fun l=>(l.1, { r.2 with nul:=true })else
  if mn < mx then(o q.1 (y,mx -mn)).bind fun r=>yH r.1 (q.2.1,r.2)else some (q.1,q.2.1)
set_option maxHeartbeats 2000000 in
theorem ZB(n:Nat)(h1:S cM=IX n)(h2:S ee=TM n)(h3:S dq=HX)(h4:S fL=NZ):Gl gS gB S (a1 Rx) (enc (X:=Prt)) (C7 (n+1)).r:=by
 rintro b v v' t ⟨op,mn,mx,rs,ks⟩ r hF
 replace hF:qaX (C7 n).b (C7 n).o t ⟨op,mn,mx,rs,ks⟩=some r:=hF
 unfold qaX at hF
 simp only at hF
 split at hF
 ·cases hF
 rename_i y ks'
 split at hF
 ·cases hF
 rename_i hrng
 obtain⟨q,hq,hF⟩:=qwN.1 hF
 have hF:qg1 (C7 n).b (C7 n).o y mn mx q=some r:=hF
 have hm:mn=(mn.toNat:Int):=by omega
 generalize mn.toNat=m at hm hq
 subst hm
 have hm':(m:Int)<=9223372036854775807:=by omega
 have hpos:(0:Int) < ((y::ks').length:Int):=by simp
 simp[gS,gB,wj,oL,oO,se,hm', -Bool.forall_bool, -Bool.exists_bool]
 intro b4 b5
 refine ai (X:=Tbk×Prt×Value×Value) [0,3,4,5] [4] m (fun k x=>(ql4 (C7 n).b y mx (m -k) x.1 x.2.1).bind (qg1 (C7 n).b (C7 n).o y m mx)=some r) (fun x=>[]) (fun x=>[(0, .box b [.own 990 x.2.2.1, .v (.int .u64 x.1.fi.val), .v (.int .u64 x.1.la.val), .own 991 x.2.2.2, .v (.bool x.1.nul)]),(990, .row x.2.2.1 ej 1 (x.1.lvs.map enc)),(991, .row x.2.2.2 eY 1 (x.1.fol.map enc)),(5, .box b5 [.v (.int .u64 x.2.1.first.val), .v (.int .u64 x.2.1.last.val), .v (.bool x.2.1.nul)])]) (t,CB,v,v') (by simp) (by simp) (by omega) (by simp) (by simp) (by simp[hq,hF]) (by simp) (by simp[CB]) ?_ ?_
 ·rintro k ⟨t,p,w,w'⟩ hk hx
  rw[show m -k=(m - (k+1)) +1 by omega,ql4]at hx
  simp only at hx
  split at hx
  ·cases hx
  rename_i hok
  obtain⟨hlv,hfo⟩:=wo hok
  have hlv':(t.lvs.length:Int)<=9223372036854775807:=by omega
  cases hb:(C7 n).b t y with
  | none=>rw[hb]at hx;cases hx
  | some c=>
  rw[hb,qw7]at hx
  split at hx
  ·cases hx
  rename_i hok2
  obtain⟨hlq,hfq⟩:=wo hok2
  have hlq':(c.1.lvs.length:Int)<=9223372036854775807:=by omega
  split at hx
  ·rename_i e
   have e':(c.1.lvs.length:Int)=t.lvs.length:=by omega
   simp[hk,h1,hb,hlv',hlq',e,e', -Bool.forall_bool, -Bool.exists_bool]
   have hx:some (c.1,CB)=some r:=hx
   obtain rfl:=qw4 hx
   exact fun u u'=>wu u u' c.1 CB rfl rfl rfl rfl rfl
  rename_i e
  have e':¬ (c.1.lvs.length:Int)=t.lvs.length:=by omega
  have hin:InR .i64 ((m:Int) -1):=by simp only[InR];omega
  by_cases hmx:mx < 0
  ·by_cases hkm:m - (k+1)=0
   ·rw[if_pos ⟨hmx,hkm⟩]at hx
    have hkm':(k:Int)=m -1:=by omega
    cases hl:El c.1 (c.2.last,c.2.first)with
    | none=>rw[hl]at hx;cases hx
    | some l=>
    rw[hl,qw7]at hx
    cases hc:yH l.1 (p,c.2)with
    | none=>rw[hc]at hx;cases hx
    | some d=>
    rw[hc,qw7]at hx
    simp[hk,h1,h3,h4,hb,hl,hc,hlv',hlq',e,e',hin,hmx,hkm', -Bool.forall_bool, -Bool.exists_bool]
    exact fun u u'=>⟨d.1,d.2,hx,u,u', .inl ⟨rfl,rfl,rfl,rfl,rfl⟩, .inl ⟨rfl,rfl⟩, .inl ⟨rfl,rfl⟩, .inl ⟨rfl,rfl,rfl⟩⟩
   ·rw[if_neg (fun h=>hkm h.2)]at hx
    have hkm':¬ (k:Int)=m -1:=by omega
    rw[qw7]at hx
    cases hc:yH c.1 (p,c.2)with
    | none=>rw[hc]at hx;cases hx
    | some d=>
    rw[hc,qw7]at hx
    simp[hk,h1,h3,h4,hb,hc,hlv',hlq',e,e',hin,hmx,hkm', -Bool.forall_bool, -Bool.exists_bool]
    exact fun u u'=>⟨d.1,d.2,hx,u,u', .inl ⟨rfl,rfl,rfl,rfl,rfl⟩, .inl ⟨rfl,rfl⟩, .inl ⟨rfl,rfl⟩, .inl ⟨rfl,rfl,rfl⟩⟩
  ·rw[if_neg (fun h=>hmx h.1)]at hx
   rw[qw7]at hx
   cases hc:yH c.1 (p,c.2)with
   | none=>rw[hc]at hx;cases hx
   | some d=>
   rw[hc,qw7]at hx
   simp[hk,h1,h3,h4,hb,hc,hlv',hlq',e,e',hmx, -Bool.forall_bool, -Bool.exists_bool]
   exact fun u u'=>⟨d.1,d.2,hx,u,u', .inl ⟨rfl,rfl,rfl,rfl,rfl⟩, .inl ⟨rfl,rfl⟩, .inl ⟨rfl,rfl⟩, .inl ⟨rfl,rfl,rfl⟩⟩
 ·rintro⟨t,p,w,w'⟩ hx
  simp only[qyq,ql4,qw7]at hx
  have hx:(if mx < 0/\(m:Int)=0 then((C7 n).b t y).bind fun r=>(El r.1 (r.2.last,r.2.first)).map fun l=>(l.1, { r.2 with nul:=true })else
   if(m:Int) < mx then((C7 n).o t (y,mx -m)).bind fun r=>yH r.1 (p,r.2)else some (t,p))=some r:=hx
  by_cases hA:mx < 0/\(m:Int)=0
  ·rw[if_pos hA]at hx
   obtain⟨hmx,hm0⟩:=hA
   obtain⟨c,hb,hx⟩:=qwN.1 hx
   obtain⟨l,hl,rfl⟩:=qw0.1 hx
   have hm0':m=0:=by omega
   subst hm0'
   simp[h1,h4,hb,hl,hmx, -Bool.forall_bool, -Bool.exists_bool]
   exact fun u u'=>wu u u' l.1 _ rfl rfl rfl rfl ⟨rfl,rfl⟩
  ·rw[if_neg hA]at hx
   by_cases hB:(m:Int) < mx
   ·rw[if_pos hB]at hx
    obtain⟨c,hb,hx⟩:=qwN.1 hx
    have n0:¬mx < 0:=by omega
    have hin:InR .i64 (mx -m):=by simp only[InR];omega
    simp[h2,h3,hb,hx,n0,hB,hin, -Bool.forall_bool, -Bool.exists_bool]
    exact fun u u'=>wu u u' r.1 r.2 rfl rfl rfl rfl rfl
   ·rw[if_neg hB]at hx
    obtain rfl:=qw4 hx
    by_cases hmx:mx < 0
    ·have hm0:¬ (m:Int)=0:=fun h=>hA ⟨hmx,h⟩
     have hm0':¬m=0:=by omega
     simp[hmx,hm0,hm0',hB, -Bool.forall_bool, -Bool.exists_bool]
     exact wu w w' t p rfl rfl rfl rfl ⟨rfl,rfl⟩
    ·simp[hmx,hB, -Bool.forall_bool, -Bool.exists_bool]
     exact wu w w' t p rfl rfl rfl rfl ⟨rfl,rfl⟩
end Go.Gv

namespace Go.Gv
open Cod (enc dec)
def UH(t:Tbk):D:= .cptr [enc t.lvs,enc t.fi,enc t.la,enc t.fol,enc t.nul] 0
theorem qcx{t t':Tbk}(h:UH t=UH t'):t=t':=by
 obtain⟨a1,a2,a3,a4,a5⟩:=t
 obtain⟨b1,b2,b3,b4,b5⟩:=t'
 unfold UH at h
 injection h with h1 h2
 simp only[qxg]at h1
 obtain⟨h1,h2,h3,h4,h5,_⟩:=h1
 have h1:=aK h1
 have h2:=aK h2
 have h3:=aK h3
 have h4:=aK h4
 have h5:=aK h5
 subst h1;subst h2;subst h3;subst h4;subst h5
 rfl
open Classical in
noncomputable instance:Cod Tbk where
 wd:=1
 enc:=UH
 dec d:=if h:∃t,d=UH t then some h.choose else none
 kn _:=rfl
 wid _:=rfl
 dec_enc t:=by
  have h:∃t',UH t=UH t':=⟨t,rfl⟩
  rw[dif_pos h]
  exact congrArg some (qcx h.choose_spec).symm
 le d x h:=by
  split at h
  ·rename_i h'
   cases h
   rw[h'.choose_spec.symm]
   exact .same _
  ·cases h
@[simp] theorem qqd(t:Tbk):enc t= .cptr [enc t.lvs,enc t.fi,enc t.la,enc t.fol,enc t.nul] 0:=id rfl
@[simp] theorem qqn(l:List (List Rng))(f a:Int)(fo:List U64)(n:Bool):dec (X:=Tbk) (.cptr [.list 1 (l.map enc), .v (.int .u64 f), .v (.int .u64 a), .list 1 (fo.map enc), .v (.bool n)] 0)=some ⟨l,⟨f⟩,⟨a⟩,fo,n⟩:=Cod.dec_enc (X:=Tbk) ⟨l,⟨f⟩,⟨a⟩,fo,n⟩
end Go.Gv

namespace Go.Gv
open Cod (enc dec)
variable {S S0:Nat->Spc}
def qgC(n:Nat)(x:Rx):Prop:=(qeC n x).isSome=true
def qkf(n:Nat)(x:Rx)(t:Tbk):Prop:=qeC n x=some t
noncomputable abbrev qgU(n:Nat):Spc:=aJ (a1 Rx) (qgC n) (enc (X:=Tbk)) (qkf n)
theorem qrz(n:Nat)(h1:S cM=IX n):aq yl xg S (a1 Rx) (qgC n) (enc (X:=Tbk)) (qkf n):=by
 rintro x hx
 obtain⟨t,ht⟩:=qxL.1 hx
 obtain⟨q,hq,rfl⟩:=qw0.1 ht
 have hq0:(C7 n).b ⟨[],⟨0⟩,⟨0⟩, [],false⟩ x=some q:=hq
 simp[yl,xg, -Bool.forall_bool, -Bool.exists_bool]
 refine gp (X:=Nat) [1] [] [] [] (fun _=>True) (fun b=>[(3, .bptr 6 b 0)]) (fun b=>[(6, .box b [.own 990 (.slice none 0 0), .v (.int .u64 0), .v (.int .u64 0), .own 991 (.slice none 0 0), .v (.bool false)]),(990, .row (.slice none 0 0) ej 1 []),(991, .row (.slice none 0 0) eY 1 [])]) [6,990,991] (fun _=>rfl) (by decide) ?_ ?_
 ·simp
  refine fun b=>⟨b, .same _, .inl ?_,by simp[isNilRow],by simp[isNilRow]⟩
  simp
  exact⟨.nilown 990, .nilown 991⟩
 ·rintro b -
  have e1:(Res.row (.slice none 0 0) ej 1 []:Res)= .row (.slice none 0 0) ej 1 (([]:List (List Rng)).map enc):=rfl
  have e2:(Res.row (.slice none 0 0) eY 1 []:Res)= .row (.slice none 0 0) eY 1 (([]:List U64).map enc):=rfl
  rw[e1,e2]
  simp[h1,hq0, -List.map_nil, -Bool.forall_bool, -Bool.exists_bool]
  simp[hq0, -Bool.forall_bool, -Bool.exists_bool]
  intro w w'
  refine gp (X:=Unit) [] [] [990,991] [] (fun _=>True) (fun _=>[(2, .bptr 6 b 0)]) (fun _=>[(6, .box b [enc q.1.lvs, .v (.int .u64 q.2.first.val), .v (.int .u64 q.2.last.val),enc q.1.fol, .v (.bool q.2.nul)])]) [6] (fun _=>rfl) (by decide) ?_ ?_
  ·simp
   exact .inl ⟨gh (l:=q.1.lvs) ej rfl,gh (l:=q.1.fol) eY rfl⟩
  ·rintro - -
   simp
   refine cm ⟨q.1.lvs,q.2.first,q.2.last,q.1.fol,q.2.nul⟩ ?_ ht
   exact .box rfl
def qdL(x:Tbk×U64×Bool):Prop:=x.1.fol.length<=100000
def qdA(x:Tbk×U64×Bool)(y:U64):Prop:=y=Ad x.1 x.2.1 x.2.2
noncomputable abbrev qak:Spc:=aJ (a3 Tbk U64 Bool) qdL (enc (X:=U64)) qdA
theorem qeq:aq fC fl S (a3 Tbk U64 Bool) qdL (enc (X:=U64)) qdA:=by
 rintro⟨⟨lv,fi,la,fo,nu⟩,set,beg⟩ hlen
 have hlen:fo.length<=100000:=hlen
 have hl:(fo.length:Int)<=9223372036854775807:=by omega
 cases beg
 ·simp[fC,fl,hl, -Bool.forall_bool, -Bool.exists_bool]
  refine ai (X:=U64) [1,18] [] fo.length (fun k m=>qg8 set k (fo.drop k) m=qg8 set 0 fo ⟨0⟩) (fun m=>[(7,enc m)]) (fun x=>[]) ⟨0⟩ (by simp) (by simp) (by omega) (by simp) (by simp) (by simp) (by simp) (by simp) ?_ ?_
  ·rintro k m hk hm
   obtain⟨f,hf⟩:∃f,fo[k]? =some f:=⟨_,qwQ hk⟩
   obtain⟨_,hgf⟩:=qwP.1 hf
   rw[qbp hf]at hm
   simp[hk,hf,hgf, -Bool.forall_bool, -Bool.exists_bool]
   exact⟨fun hb=>⟨qe4 m f,by simpa [hb]using hm,rfl⟩,fun hb=>⟨m,by simpa [hb]using hm,rfl⟩⟩
  ·rintro m hm
   rw[qxP,qg8]at hm
   subst hm
   simp[-Bool.forall_bool, -Bool.exists_bool]
   exact cm _ (.same _) rfl
 ·simp[fC,fl,hl, -Bool.forall_bool, -Bool.exists_bool]
  exact cm _ (.same _) rfl
end Go.Gv

namespace Go.Gv
open Cod (enc dec)
def O9(l:List Rng)(c:Int):Bool:=l.any fun r=>decide (r.fr.val<=c) && decide (c<=r.to.val)
def qkS(next:U64)(c:I32):Nat->List (List Rng)->U64->U64
 | _, [],m=>m
 | i,l::ls,m=>qkS next c (i+1) ls (if Zh next i && O9 l c.val then⟨qmf .u64 m.val (Qt .u64 1 i)⟩else m)
def qew(next:U64)(lvs:List (List Rng)):List I32->U64->U64
 | [],m=>m
 | v::vs,m=>qew next lvs vs (qkS next v 0 lvs m)
def qmq(t:Tbk)(vf:I32->List I32):List I32->U64->Bool->Bool
 | [],set,beg=>(beg && t.nul)||decide (UX .u64 set.val t.la.val≠0)
 | c::l,set,beg=>if(qew (Ad t set beg) t.lvs (vf c) ⟨0⟩).val=0 then false else qmq t vf l (qew (Ad t set beg) t.lvs (vf c) ⟨0⟩) false
def low(c:Int):Int:=if 65<=c/\c<=90 then c+32 else c
def J7(c:I32):List I32:=([⟨low c.val⟩,⟨low c.val -32⟩,⟨low c.val -80⟩]:List I32).filter fun v=>decide (0<=v.val/\low v.val=low c.val)
def Tn(f:Bool)(c:I32):List I32:=if f=true then J7 c else[c]
def qgf(l:List UInt8):List I32:=l.map fun c=>⟨(c.toNat:Int)⟩
def CD(x:Rx)(s:B)(f:Bool):Option Bool:=if BZ 50 x=true/\vM s=true/\s.size<=1000 then(qeC 50 x).bind fun t=>if OC t=true then some (qmq t (Tn f) (qgf s.data.toList) ⟨0⟩ true)else none else none
end Go.Gv

namespace Go.Gv
open Go.Proofs
def tB:CC:=gq Tryz.f303 [3] {} _
def sH:List aj:=[.tmp 6]
theorem Jq:ak Tryz.prog qq [3] tB sH 88:=fo
def tD:CC:=gq Tryz.f286 [2] {} _
def sJ:List aj:=[.tmp 4]
theorem Js:ak Tryz.prog vk [2] tD sJ 8:=fo
def pM:CC:=gq Tryz.f305 [] {} _
def oU:List aj:=[.tmp 2]
theorem Fp:ak Tryz.prog db [] pM oU 5:=fo
def lR:CC:=gq Tryz.f285 [2] {} _
def lA:List aj:=[.tmp 4]
theorem Cf:ak Tryz.prog nA [2] lR lA 8:=fo
def nQ:CC:=gq Tryz.f304 [] {} _
def mN:List aj:=[.tmp 2]
theorem DW:ak Tryz.prog cJ [] nQ mN 43:=fo
end Go.Gv

namespace Go.Gv
open Cod (enc dec)
variable {S S0:Nat->Spc}
def aMt:de (Rx×B×Bool):=⟨fun ds=>match ds with
 | [a,b, .clo f []]=>if f=db then(dec a).bind fun x=>(dec b).map fun s=>(x,s,false)else if f=cJ then(dec a).bind fun x=>(dec b).map fun s=>(x,s,true)else none
 | _=>none,fun x=>[enc x.1,enc x.2.1, .clo (if x.2.2=true then cJ else db) []],fun ds x h=>by
 split at h
 ·rename_i a b f
  split at h
  ·rename_i e
   simp only[qwN,qw0]at h
   obtain⟨x,hx,s,hs,rfl⟩:=h
   subst e
   exact .cons (Cod.le _ _ hx) (.cons (Cod.le _ _ hs) (.cons (.same _) .nil))
  ·split at h
   ·rename_i e
    simp only[qwN,qw0]at h
    obtain⟨x,hx,s,hs,rfl⟩:=h
    subst e
    exact .cons (Cod.le _ _ hx) (.cons (Cod.le _ _ hs) (.cons (.same _) .nil))
   ·cases h
 ·cases h⟩
@[simp] theorem qnO(x:Rx)(s:B)(f:Bool):aMt.view (x,s,f)=[enc x,enc s, .clo (if f=true then cJ else db) []]:=id rfl
@[simp] theorem qnQ(a b:D):aMt.dec [a,b, .clo db []]=(dec a).bind fun x=>(dec b).map fun s=>(x,s,false):=id rfl
@[simp] theorem qnP(a b:D):aMt.dec [a,b, .clo cJ []]=(dec a).bind fun x=>(dec b).map fun s=>(x,s,true):=id rfl
abbrev XV:Spc:=aJ (a1 Rx) (fun x=>BZ 50 x=true) (enc (X:=Int)) fun x y=>y=0
abbrev qao:Spc:=aJ (a2 (List Rng) I32) (fun _=>True) (enc (X:=Bool)) fun x y=>y=O9 x.1 x.2.val
abbrev s_cpVal:Spc:=aJ (a1 B) (fun s=>vM s=true/\s.size<=1000) (enc (X:=Bool)) fun _ y=>y=true
abbrev qgY:Spc:=aJ (a1 I32) (fun c=>0<=c.val/\c.val < 128) (enc (X:=List I32)) fun c y=>y=Tn false c
abbrev qgT:Spc:=aJ (a1 I32) (fun c=>0<=c.val/\c.val < 128) (enc (X:=List I32)) fun c y=>y=Tn true c
def qgA(x:Rx×B×Bool):Prop:=∃y,CD x.1 x.2.1 x.2.2=some y
def qkd(x:Rx×B×Bool)(y:Bool):Prop:=CD x.1 x.2.1 x.2.2=some y
abbrev qap:Spc:=aJ aMt qgA (enc (X:=Bool)) qkd
theorem Gj{s:B}(h:vM s=true){p:Nat}(hp:p < s.size):∃c:UInt8,s.data.toList[p]? =some c/\c.toNat < 128/\Utf8.decode s p=(c.toNat,1):=by
 have hl:p < s.data.toList.length:=by rw[qxh];exact hp
 refine⟨s.data.toList[p],qwQ hl,?_,?_⟩
 ·have:=qwV.1 h _ (qyb hl)
  simpa using this
 ·have h1:(s[p]'hp).toNat < 128:=by
   have:=qwV.1 h _ (qyb hl)
   have h2:s.data[p].toNat < 128:=by simpa using this
   exact h2
  have:=Go.decode_ascii s p hp h1
  rw[this]
  have:s[p]=s.data.toList[p]:=by
   rw[Array.getElem_toList]
   rfl
  rw[this]
set_option maxHeartbeats 2000000 in
theorem Lb(h1:S jX=XV)(h2:S nP=s_cpVal)(h3:S Aw=qgU 50)(h4:S kN=qak)(h5:S pA=qao)(h6:S db=qgY)(h7:S cJ=qgT):
 aq tB sH S aMt qgA (enc (X:=Bool)) qkd:=by
 rintro⟨x,s,f⟩ ⟨y,hy⟩
 have hy0:CD x s f=some y:=hy
 unfold CD at hy0
 split at hy0
 rotate_left
 ·cases hy0
 rename_i hc
 obtain⟨hv,ha,hsz⟩:=hc
 obtain⟨t,ht,hy1⟩:=qwN.1 hy0
 split at hy1
 rotate_left
 ·cases hy1
 rename_i hok
 have hres:qmq t (Tn f) (qgf s.data.toList) ⟨0⟩ true=y:=qw4 hy1
 obtain⟨hlv,hfo⟩:=wo (t:=t) (by rw[hok];simp)
 have hOf:qkf 50 x t:=ht
 have hPOf:qgC 50 x:=by unfold qgC;rw[ht];rfl
 simp[tB,sH,h1,h2,h3,hv,ha,hsz,hPOf, -Bool.forall_bool, -Bool.exists_bool]
 intro t' ht' b
 obtain rfl:t=t':=by
  have h:qeC 50 x=some t':=ht'
  rw[ht]at h
  exact qw4 h
 refine av (X:=U64×Bool×Nat) [2,7,28] [] (fun z=>qmq t (Tn f) (qgf (s.data.toList.drop z.2.2)) z.1 z.2.1=y/\z.2.2<=s.size) (fun z=>[(8,enc z.1),(9,enc z.2.1)]) (fun z=>[(28, .iter b s z.2.2)]) (fun z=>s.size -z.2.2) (⟨0⟩,true,0) ⟨by simpa using hres,qxi _⟩ (by simp) (by simp) ?_
 rintro⟨set,beg,pos⟩ ⟨hm,hp⟩
 simp only at hm hp
 by_cases hlt:pos < s.size
 ·obtain⟨c,hc,hc128,hdec⟩:=Gj ha hlt
  rw[tz hc]at hm
  have hm:(if(qew (Ad t set beg) t.lvs (Tn f ⟨(c.toNat:Int)⟩) ⟨0⟩).val=0 then false else qmq t (Tn f) (qgf (s.data.toList.drop (pos+1))) (qew (Ad t set beg) t.lvs (Tn f ⟨(c.toNat:Int)⟩) ⟨0⟩) false)=y:=hm
  have hN:qdL (t,set,beg):=by show t.fol.length<=100000;omega
  have hq:qdA (t,set,beg) (Ad t set beg):=rfl
  have c0:(0:Int)<=(c.toNat:Int):=by omega
  have c1:(c.toNat:Int) < 128:=by omega
  have hvl:((Tn f ⟨(c.toNat:Int)⟩).length:Int)<=9223372036854775807:=by
   have:(Tn f ⟨(c.toNat:Int)⟩).length<=3:=by
    unfold Tn
    split
    ·unfold J7
     exact qxF (List.length_filter_le _ _) (by simp)
    ·simp
   omega
  have h8:S (if f=true then cJ else db)=aJ (a1 I32) (fun c=>0<=c.val/\c.val < 128) (enc (X:=List I32)) fun c y=>y=Tn f c:=by
   cases f
   ·exact h6
   ·exact h7
  simp[hlt,hdec,h4,hN,h8,c0,c1,hvl, -Bool.forall_bool, -Bool.exists_bool]
  intro nx hnx
  obtain rfl:nx=Ad t set beg:=hnx
  generalize Ad t set beg=nx at hm
  generalize Tn f ⟨(c.toNat:Int)⟩=vs at hm hvl
  refine ai (X:=U64) [2,7,9,12,28,38] [28] vs.length (fun k m=>qew nx t.lvs (vs.drop k) m=qew nx t.lvs vs ⟨0⟩) (fun m=>[(8,enc m)]) (fun _=>[]) ⟨0⟩ (by simp) (by simp) (by omega) (by simp) (by simp) (by simp) (by simp) (by simp) ?_ ?_
  ·rintro k m hk hm2
   obtain⟨v,hvk⟩:=Pm hk
   obtain⟨_,hgv⟩:=qwP.1 hvk
   rw[tz hvk,qew]at hm2
   have hlv':(t.lvs.length:Int)<=9223372036854775807:=by omega
   simp[hk,hvk,hgv,hlv', -Bool.forall_bool, -Bool.exists_bool]
   refine ai (X:=U64) [2,7,9,12,14,28,38,39,40,47] [28] t.lvs.length (fun k m'=>qkS nx v k (t.lvs.drop k) m'=qkS nx v 0 t.lvs m) (fun m=>[(8,enc m)]) (fun _=>[]) m (by simp) (by simp) (by omega) (by simp) (by simp) (by simp) (by simp) (by simp) ?_ ?_
   ·rintro j m' hj hm3
    obtain⟨lf,hlf⟩:=Pm hj
    obtain⟨_,hgl⟩:=qwP.1 hlf
    rw[tz hlf,qkS]at hm3
    simp[hj,hlf,hgl,h5, -Bool.forall_bool, -Bool.exists_bool]
    refine⟨fun hb=>⟨fun hc=>⟨_,by rw[if_pos (by simp[hb,hc])]at hm3;exact hm3,rfl⟩,fun hc=>⟨m',by rw[if_neg (by simp[hc])]at hm3;exact hm3,rfl⟩⟩,fun hb=>⟨m',by rw[if_neg (by simp[hb])]at hm3;exact hm3,rfl⟩⟩
   ·rintro m' hm3
    rw[qxP,qkS]at hm3
    subst hm3
    simp[-Bool.forall_bool, -Bool.exists_bool]
    exact⟨_,hm2,rfl⟩
  ·rintro m hm2
   rw[qxP,qew]at hm2
   subst hm2
   simp[-Bool.forall_bool, -Bool.exists_bool]
   refine⟨fun h0=>?_,fun h0=>?_⟩
   ·rw[if_pos h0]at hm
    subst hm
    exact hy
   ·rw[if_neg h0]at hm
    exact⟨_,false,pos+1,⟨hm,by omega⟩,⟨⟨rfl,rfl⟩, .inl rfl⟩,by omega⟩
 ·have hpe:pos=s.size:=by omega
  subst hpe
  rw[qxO (by rw[qxh];exact qwY _)]at hm
  have hm:((beg && t.nul)||decide (UX .u64 set.val t.la.val≠0))=y:=hm
  simp[-Bool.forall_bool, -Bool.exists_bool]
  have hQ:∀w,w=y->qkd (x,s,f) w:=fun w e=>by subst e;exact hy
  refine⟨fun hb=>⟨fun hn=>hQ _ ?_,fun hn=>hQ _ ?_⟩,fun hb=>hQ _ ?_⟩
  all_goals
   subst hb
   first|subst hn|skip
   rw[<-hm]
   simp[*]
theorem G3:aq pM oU S (a1 I32) (fun c=>0<=c.val/\c.val < 128) (enc (X:=List I32)) fun c y=>y=Tn false c:=by
 rintro⟨c⟩ ⟨c0,c1⟩
 simp[pM,oU, -Bool.forall_bool, -Bool.exists_bool]
 exact cm [⟨c⟩] (by simp) rfl
def ST(f:Bool)(x:Rx×B):Prop:=∃y,CD x.1 x.2 f=some y
def qdB(f:Bool)(x:Rx×B)(y:Bool):Prop:=CD x.1 x.2 f=some y
abbrev VH(f:Bool):Spc:=aJ (a2 Rx B) (ST f) (enc (X:=Bool)) (qdB f)
theorem Le(h1:S qq=qap):aq tD sJ S (a2 Rx B) (ST false) (enc (X:=Bool)) (qdB false):=by
 rintro⟨x,s⟩ hp
 have hp':qgA (x,s,false):=hp
 simp[tD,sJ,h1,hp', -Bool.forall_bool, -Bool.exists_bool]
 exact fun y hy=>hy
theorem Dd(h1:S qq=qap):aq lR lA S (a2 Rx B) (ST true) (enc (X:=Bool)) (qdB true):=by
 rintro⟨x,s⟩ hp
 have hp':qgA (x,s,true):=hp
 simp[lR,lA,h1,hp', -Bool.forall_bool, -Bool.exists_bool]
 exact fun y hy=>hy
end Go.Gv

namespace Go.Gv
open Cod (enc dec)
variable {S S0:Nat->Spc}
def jU(c:Int):B:=⟨#[c.toNat.toUInt8]⟩
abbrev s_cpFold1:Spc:=aJ (a1 B) (fun s=>∃c:Int,0<=c/\c < 128/\s=jU c) (enc (X:=B)) fun s y=>∀c:Int,0<=c->c < 128->s=jU c->y=jU (low c)
theorem O4{c:Int}(h0:0<=c)(h1:c < 128):Utf8.encode c=jU c:=by
 unfold Utf8.encode jU
 have e:c.toNat < 128:=by omega
 have h:Utf8.valid c=true:=by
  unfold Utf8.valid
  have:c < 55296:=by omega
  simp[h0,this]
 simp[e,h]
theorem OH{c:Int}(h0:0<=c)(h1:c < 128):0<=low c/\low c < 128:=by unfold low;split <;> omega
theorem VP{c d:Int}(hc:0<=c)(hc':c < 128)(hd:0<=d)(hd':d < 128)(h:jU c=jU d):c=d:=by
 have:c.toNat.toUInt8=d.toNat.toUInt8:=by
  have:=congrArg (fun b:B=>b.data.toList.head?) h
  simpa [jU]using this
 have:=congrArg UInt8.toNat this
 have e1:c.toNat.toUInt8.toNat=c.toNat % 256:=qys ..
 have e2:d.toNat.toUInt8.toNat=d.toNat % 256:=qys ..
 omega
theorem qiS{c d:Int}(hc:0<=c)(hc':c < 128)(hd:0<=d)(hd':d < 128):(jU c=jU d)=(c=d):=propext ⟨VP hc hc' hd hd',fun h=>by rw[h]⟩
theorem Td(h1:S pJ=s_cpFold1):aq nQ mN S (a1 I32) (fun c=>0<=c.val/\c.val < 128) (enc (X:=List I32)) fun c y=>y=Tn true c:=by
 rintro⟨c⟩ ⟨c0,c1⟩
 have c0:0<=c:=c0
 have c1:c < 128:=c1
 obtain⟨l0,l1⟩:=OH c0 c1
 have hP:∃d:Int,0<=d/\d < 128/\jU c=jU d:=⟨c,c0,c1,rfl⟩
 simp[nQ,mN,h1,O4 c0 c1,hP, -Bool.forall_bool, -Bool.exists_bool]
 intro y hy b
 obtain rfl:=hy c c0 c1 rfl
 clear hy
 obtain⟨r,hr⟩:∃r,r=low c:=⟨_,rfl⟩
 rw[<-hr]at l0 l1 ⊢
 have hsz:(jU r).size=1:=rfl
 have hdec:Utf8.decode (jU r) 0=(r.toNat,1):=by
  have h0:0 < (jU r).size:=by rw[hsz];omega
  have e1:((jU r)[0]'h0).toNat=r.toNat % 256:=qys ..
  have e2:((jU r)[0]'h0).toNat=r.toNat:=by omega
  rw[Go.decode_ascii (jU r) 0 h0 (by omega),e2]
 refine av (X:=Nat×Value×List I32) [4,13] [] (fun z=>z.1=0/\z.2.1= .slice none 0 0/\z.2.2=[]\/z.1=1/\z.2.2=J7 ⟨c⟩) (fun z=>[(3, .own 40 z.2.1)]) (fun z=>[(13, .iter b (jU r) z.1),(40, .row z.2.1 IC 1 (z.2.2.map enc))]) (fun z=>1 -z.1) (0, .slice none 0 0, []) (.inl ⟨rfl,rfl,rfl⟩) (by simp) (by simp[isNilRow]) ?_
 rintro⟨pos,v,l⟩ hz
 simp only at hz
 rcases hz with⟨rfl,rfl,rfl⟩|⟨rfl,rfl⟩
 ·have hrn:((r.toNat:Nat):Int)=r:=by omega
  have i1:InR .i32 (r -32):=by simp only[InR];omega
  have i2:InR .i32 (r -80):=by simp only[InR];omega
  simp[hsz,hdec,hrn,i1,i2, -Bool.forall_bool, -Bool.exists_bool]
  have hfo:∀l:List I32,l=([⟨r⟩,⟨r -32⟩,⟨r -80⟩]:List I32).filter (fun v=>decide (0<=v.val/\low v.val=r))->l=J7 ⟨c⟩:=fun l hl=>by
   rw[hl,J7]
   simp only[<-hr]
  refine ai (X:=Value×List I32) [4,13,22] [13] 3 (fun k z=>z.2=(([⟨r⟩,⟨r -32⟩,⟨r -80⟩]:List I32).take k).filter (fun v=>decide (0<=v.val/\low v.val=r))/\z.2.length<=k) (fun z=>[(3, .own 40 z.1)]) (fun z=>[(40, .row z.1 IC 1 (z.2.map enc))]) (.slice none 0 0, []) (by simp) (by simp) (by omega) (by simp) (by simp) ⟨rfl,by simp⟩ (by simp) (by simp[isNilRow]) ?_ ?_
  ·rintro k ⟨v,l⟩ hk ⟨hl,hlen⟩
   simp only at hl hlen
   obtain⟨e,he,hee⟩:∃e:Int,e < 128/\([⟨r⟩,⟨r -32⟩,⟨r -80⟩]:List I32)[k]? =some ⟨e⟩/\([.v (.int .i32 r), .v (.int .i32 (r -32)), .v (.int .i32 (r -80))]:List D)[k]? =some (.v (.int .i32 e)):=by
    rcases(by omega:k=0\/k=1\/k=2)with rfl|rfl|rfl
    ·exact⟨r,by omega,rfl,rfl⟩
    ·exact⟨r -32,by omega,rfl,rfl⟩
    ·exact⟨r -80,by omega,rfl,rfl⟩
   obtain⟨he1,he2⟩:=hee
   have he3:∀h,([.v (.int .i32 r), .v (.int .i32 (r -32)), .v (.int .i32 (r -80))]:List D)[k]'h= .v (.int .i32 e):=fun h=>by
    obtain⟨_,h2⟩:=qwP.1 he2
    exact h2
   have hki:(k:Int) < 3:=by omega
   have hstep:(([⟨r⟩,⟨r -32⟩,⟨r -80⟩]:List I32).take (k+1)).filter (fun v=>decide (0<=v.val/\low v.val=r))=l++ ([⟨e⟩]:List I32).filter (fun v=>decide (0<=v.val/\low v.val=r)):=by
    rw[qyk,he1,qyI,<-hl]
    rfl
   by_cases h0:0<=e
   ·obtain⟨q0,q1⟩:=OH h0 he
    have hPe:∃d:Int,0<=d/\d < 128/\jU e=jU d:=⟨e,h0,he,rfl⟩
    simp[hk,hki,he2,he3,h0,h1,O4 h0 he,hPe, -Bool.forall_bool, -Bool.exists_bool]
    intro y hy
    obtain rfl:=hy e h0 he rfl
    rw[qiS q0 q1 l0 l1]
    refine⟨fun hh=>⟨by omega,by omega,fun v=>⟨v,l++ [⟨e⟩],⟨?_,by simp;omega⟩,rfl, .inl ⟨rfl,by simp⟩⟩⟩,fun hh=>⟨v,l,⟨?_,by omega⟩,rfl, .inl ⟨rfl,rfl⟩⟩⟩
    ·simpa [h0,hh]using hstep.symm
    ·simpa [h0,hh]using hstep.symm
   ·simp[hk,hki,he2,he3,h0, -Bool.forall_bool, -Bool.exists_bool]
    refine⟨v,l,⟨?_,by omega⟩,rfl, .inl ⟨rfl,rfl⟩⟩
    simpa [h0]using hstep.symm
  ·rintro⟨v,l⟩ ⟨hl,hlen⟩
   simp only at hl hlen
   have hl:=hfo l hl
   simp[-Bool.forall_bool, -Bool.exists_bool]
   exact⟨1,v,l, .inr ⟨rfl,hl⟩,⟨rfl, .inl rfl, .inl ⟨rfl,rfl⟩⟩,rfl⟩
 ·simp[hsz, -Bool.forall_bool, -Bool.exists_bool]
  exact cm (J7 ⟨c⟩) (gh (l:=J7 ⟨c⟩) IC rfl) rfl
end Go.Gv

namespace Go.Gv
open Go.Proofs
def dX:CC:=gq Tryz.f221 [] {} _
def dO:List aj:=[.tmp 4]
theorem qD:ak Tryz.prog ek [] dX dO 19:=fo
def eD:CC:=gq Tryz.f266 [] {} _
def eB:List aj:=[.tmp 4]
theorem rY:ak Tryz.prog eO [] eD eB 9:=fo
def fI:CC:=gq Tryz.f291 [] {} _
def fE:List aj:=[.tmp 4]
theorem vg:ak Tryz.prog fT [] fI fE 19:=fo
def dZ:CC:=gq Tryz.f181 [] {} _
def dQ:List aj:=[.tmp 4]
theorem gk:ak Tryz.prog bz [] dZ dQ 9:=fo
def eQ:CC:=gq Tryz.f228 [] {} _
def eM:List aj:=[.tmp 4]
theorem js:ak Tryz.prog dg [] eQ eM 19:=fo
def fZ:CC:=gq Tryz.f290 [3] {} _
def fO:List aj:=[.tmp 4]
theorem wk:ak Tryz.prog gI [3] fZ fO 9:=fo
def jE:CC:=gq Tryz.f306 [3] {} _
def jd:List aj:=[.tmp 4]
theorem zM:ak Tryz.prog kJ [3] jE jd 19:=fo
def gN:CC:=gq Tryz.f168 [] {} _
def gw:List aj:=[.tmp 4]
theorem xk:ak Tryz.prog cw [] gN gw 19:=fo
def ci:CC:=gq Tryz.f119 [] {} _
def cb:List aj:=[.tmp 4]
theorem ko:ak Tryz.prog aR [] ci cb 9:=fo
def jM:CC:=gq Tryz.f121 [3] {} _
def jm:List aj:=[.tmp 6, .tmp 7]
theorem zY:ak Tryz.prog ez [3] jM jm 40:=fo
def ou:CC:=gq Tryz.f122 [2] {} _
def ni:List aj:=[.tmp 4]
theorem Ee:ak Tryz.prog fX [2] ou ni 29:=fo
def ba:CC:=gq Tryz.f170 [1,2034005,2033005,2043005,2042005,2041005,2052005,2051005,2050005] {} _
def aZ:List aj:=[.tmp 2]
theorem Cr:ak Tryz.prog nL [1,2034005,2033005,2043005,2042005,2041005,2052005,2051005,2050005] ba aZ 108:=fo
def gV:CC:=gq Tryz.f173 [3] {} _
def gE:List aj:=[.tmp 4]
theorem xr:ak Tryz.prog bE [3] gV gE 8:=fo
def fJ:CC:=gq Tryz.f222 [2] {} _
def fF:List aj:=[.tmp 3]
theorem vi:ak Tryz.prog bK [2] fJ fF 8:=fo
def gU:CC:=gq Tryz.f219 [] {} _
def gD:List aj:=[.tmp 4]
theorem Cu:ak Tryz.prog iW [] gU gD 14:=fo
def bU:CC:=gq Tryz.f171 [2] {} _
def bM:List aj:=[.tmp 4]
theorem Cs:ak Tryz.prog nM [2] bU bM 50:=fo
def cG:CC:=gq Tryz.f124 [3] {} _
def cF:List aj:=[.tmp 6]
theorem Cv:ak Tryz.prog nN [3] cG cF 59:=fo
def iO:CC:=gq Tryz.f74 [5,4,3] {} _
def iE:List aj:=[.tmp 6]
theorem yW:ak Tryz.prog fu [5,4,3] iO iE 23:=fo
def gd:CC:=gq Tryz.f123 [3] {} _
def fR:List aj:=[.tmp 4]
theorem wn:ak Tryz.prog bZ [3] gd fR 9:=fo
def bV:CC:=gq Tryz.f263 [3] {} _
def bN:List aj:=[.tmp 6]
theorem Cw:ak Tryz.prog nO [3] bV bN 38:=fo
def kU:CC:=gq Tryz.f265 [5,4,3] {} _
def kG:List aj:=[.tmp 6]
theorem Bu:ak Tryz.prog lP [5,4,3] kU kG 11:=fo
def bG:CC:=gq Tryz.f289 [3] {} _
def bD:List aj:=[.tmp 4]
theorem yV:ak Tryz.prog bS [3] bG bD 37:=fo
end Go.Gv

namespace Go.Gv
open Cod (enc dec)
variable {S S0:Nat->Spc}
def FunOn{X Y:Type}[Cod X][Cod Y](S:Nat->Spc)(d:D)(l:List X)(p:X->Y):Prop:=
 ∃g caps pc,d= .clo g caps/\S g= .pure pc/\∀x∈l,pc.pre (enc x::caps)/\∀r,pc.post (enc x::caps) r->r=enc (p x)
theorem FunOn.useB{X:Type}[Cod X]{S:Nat->Spc}{d:D}{l:List X}{p:X->Bool}(h:FunOn S d l p){x:X}(hx:x∈l){d':Nat}{H:ab}{K:D->ab->Prop}(hk:∀y:Bool,(∀q:X->Bool,FunOn S d l q->y=q x)->K (.v (.bool y)) H):AJ S d d' [enc x] H K:=by
 obtain⟨g,caps,pc,rfl,h1,h2⟩:=h
 simp only[AJ,h1,Spc.pt]
 refine⟨(h2 x hx).1,fun r hr=>?_⟩
 have e:=(h2 x hx).2 r hr
 rw[e]
 refine hk (p x) fun q hq=>?_
 obtain⟨g',caps',pc',e',k1,k2⟩:=hq
 cases e'
 rw[h1]at k1
 cases k1
 exact aK (e.symm.trans ((k2 x hx).2 r hr))
theorem wt{X Y Z:Type}[Cod X][Cod Y]{S:Nat->Spc}{g:Nat}{caps:List D}{A:de Z}{pre:Z->Prop}{post:Z->Y->Prop}{l:List X}{p:X->Y}{f:X->Z}(h:S g=aJ A pre enc post)(hd:∀x∈l,A.dec (enc x::caps)=some (f x))(hp:∀x∈l,pre (f x))(hq:∀x∈l,∀y,post (f x) y->y=p x):FunOn S (.clo g caps) l p:=by
 refine⟨g,caps,_,rfl,h,fun x hx=>⟨⟨f x,hd x hx,hp x hx⟩,fun r hr=>?_⟩⟩
 obtain⟨y,h1,h2⟩:=hr (f x) (hd x hx) (hp x hx)
 rw[h1,hq x hx y h2]
def U7{X:Type}[Cod X](S0:Nat->Spc)(x:List X×D×Unit):Prop:=∃p:X->Bool,FunOn S0 x.2.1 x.1 p
def qgz{X:Type}[Cod X](S0:Nat->Spc)(x:List X×D×Unit)(y:Int):Prop:=∀p:X->Bool,FunOn S0 x.2.1 x.1 p->y=gF x.1 p
def qkg{X:Type}[Cod X](S0:Nat->Spc)(x:List X×D×Unit)(y:Bool):Prop:=∀p:X->Bool,FunOn S0 x.2.1 x.1 p->y=x.1.any p
abbrev TV(X:Type)[Cod X](S0:Nat->Spc):Spc:=aJ (aE (List X) (aD a0)) (U7 S0) (enc (X:=Int)) (qgz S0)
abbrev XW(X:Type)[Cod X](S0:Nat->Spc):Spc:=aJ (aE (List X) (aD a0)) (U7 S0) (enc (X:=Bool)) (qkg S0)
theorem Iv:aq dX dO S (aE (List Attr) (aD a0)) (U7 S) (enc (X:=Int)) (qgz S):=by
 rintro⟨l,d,⟨⟩⟩ ⟨p,hp⟩
 simp only at hp
 simp[dX,dO, -Bool.forall_bool, -Bool.exists_bool]
 intro _
 refine ai (X:=Unit) [0,1] [] l.length (fun k _=>∀p:Attr->Bool,FunOn S d l p->∀x∈l.take k,p x=false) (fun _=>[]) (fun _=>[]) () (by simp) (by simp) (by omega) (by simp) (by simp) (by simp) (by simp) (by simp) ?_ ?_
 ·intro k _ hk hP
  obtain⟨x,hx⟩:∃x,l[k]? =some x:=⟨_,qwQ hk⟩
  obtain⟨_,hgx⟩:=qwP.1 hx
  simp[hk,hx,hgx, -Bool.forall_bool, -Bool.exists_bool]
  refine hp.useB (x:=x) (qwS hx) fun y hy=>?_
  simp[-Bool.forall_bool, -Bool.exists_bool]
  refine⟨fun h=>?_,fun h p' hp'=>?_⟩
  ·intro p' hp'
   exact(ux hx (by rw[<-hy p' hp',h]) (hP p' hp')).symm
  ·rw[br hx]
   intro z hz
   rcases qwU.1 hz with hz|hz
   ·exact hP p' hp' z hz
   ·simp at hz;subst hz;rw[<-hy p' hp',h]
 ·intro _ hP
  simp[-Bool.forall_bool, -Bool.exists_bool]
  intro p' hp'
  exact(mB (by simpa using hP p' hp')).symm
theorem XD:aq fI fE S (aE (List Cond) (aD a0)) (U7 S) (enc (X:=Int)) (qgz S):=by
 rintro⟨l,d,⟨⟩⟩ ⟨p,hp⟩
 simp only at hp
 simp[fI,fE, -Bool.forall_bool, -Bool.exists_bool]
 intro _
 refine ai (X:=Unit) [0,1] [] l.length (fun k _=>∀p:Cond->Bool,FunOn S d l p->∀x∈l.take k,p x=false) (fun _=>[]) (fun _=>[]) () (by simp) (by simp) (by omega) (by simp) (by simp) (by simp) (by simp) (by simp) ?_ ?_
 ·intro k _ hk hP
  obtain⟨x,hx⟩:∃x,l[k]? =some x:=⟨_,qwQ hk⟩
  obtain⟨_,hgx⟩:=qwP.1 hx
  simp[hk,hx,hgx, -Bool.forall_bool, -Bool.exists_bool]
  have e:D.agg [.v (.int .i64 x.op), .v (.string x.name), .v (.string x.arg), .v (.string x.val), .v (.string x.lab), .v (.bool x.fold), .list 7 (x.kids.map enc)]=enc x:=by simp
  rw[e]
  refine hp.useB (x:=x) (qwS hx) fun y hy=>?_
  simp[-Bool.forall_bool, -Bool.exists_bool]
  refine⟨fun h=>?_,fun h p' hp'=>?_⟩
  ·intro p' hp'
   exact(ux hx (by rw[<-hy p' hp',h]) (hP p' hp')).symm
  ·rw[br hx]
   intro z hz
   rcases qwU.1 hz with hz|hz
   ·exact hP p' hp' z hz
   ·simp at hz;subst hz;rw[<-hy p' hp',h]
 ·intro _ hP
  simp[-Bool.forall_bool, -Bool.exists_bool]
  intro p' hp'
  exact(mB (by simpa using hP p' hp')).symm
theorem XE(h1:S fT=TV Cond S0):aq eD eB S (aE (List Cond) (aD a0)) (U7 S0) (enc (X:=Bool)) (qkg S0):=by
 rintro⟨l,d,⟨⟩⟩ hp
 simp[eD,eB,h1, -Bool.forall_bool, -Bool.exists_bool]
 refine⟨hp,fun y hy p' hp'=>?_⟩
 rw[hy p' hp']
 exact uw p' l
theorem Gq:aq eQ eM S (aE (List Region) (aD a0)) (U7 S) (enc (X:=Int)) (qgz S):=by
 rintro⟨l,d,⟨⟩⟩ ⟨p,hp⟩
 simp only at hp
 simp[eQ,eM, -Bool.forall_bool, -Bool.exists_bool]
 intro _
 refine ai (X:=Unit) [0,1] [] l.length (fun k _=>∀p:Region->Bool,FunOn S d l p->∀x∈l.take k,p x=false) (fun _=>[]) (fun _=>[]) () (by simp) (by simp) (by omega) (by simp) (by simp) (by simp) (by simp) (by simp) ?_ ?_
 ·intro k _ hk hP
  obtain⟨x,hx⟩:∃x,l[k]? =some x:=⟨_,qwQ hk⟩
  obtain⟨_,hgx⟩:=qwP.1 hx
  simp[hk,hx,hgx, -Bool.forall_bool, -Bool.exists_bool]
  refine hp.useB (x:=x) (qwS hx) fun y hy=>?_
  simp[-Bool.forall_bool, -Bool.exists_bool]
  refine⟨fun h=>?_,fun h p' hp'=>?_⟩
  ·intro p' hp'
   exact(ux hx (by rw[<-hy p' hp',h]) (hP p' hp')).symm
  ·rw[br hx]
   intro z hz
   rcases qwU.1 hz with hz|hz
   ·exact hP p' hp' z hz
   ·simp at hz;subst hz;rw[<-hy p' hp',h]
 ·intro _ hP
  simp[-Bool.forall_bool, -Bool.exists_bool]
  intro p' hp'
  exact(mB (by simpa using hP p' hp')).symm
theorem Gr(h1:S dg=TV Region S0):aq dZ dQ S (aE (List Region) (aD a0)) (U7 S0) (enc (X:=Bool)) (qkg S0):=by
 rintro⟨l,d,⟨⟩⟩ hp
 simp[dZ,dQ,h1, -Bool.forall_bool, -Bool.exists_bool]
 refine⟨hp,fun y hy p' hp'=>?_⟩
 rw[hy p' hp']
 exact uw p' l
end Go.Gv
