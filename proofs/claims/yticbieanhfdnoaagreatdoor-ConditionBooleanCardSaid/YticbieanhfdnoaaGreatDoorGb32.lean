/- A part of the framework and of the walks: W142 W143 T34 W144 C56 W145. -/
import Derived.Test.YticbieanhfdnoaaGreatDoorGb31
import Derived.Test.YticbieanhfdnoaaGreatDoorGb18
import Derived.Test.YticbieanhfdnoaaGreatDoorGb26
set_option linter.unusedSimpArgs false
set_option linter.unusedVariables false
set_option maxRecDepth 100000
set_option linter.unusedSectionVars false

namespace Go.Gv
open Cod (enc dec)
variable {S S0:Nat→Spc}
theorem oa {t:Tbk} (h:CU t≠false):t.lvs.length≤1000∧t.fol.length≤1000:=by
 cases hb:CU t with
 | true=> exact of_decide_eq_true hb
 | false=> exact absurd hb h
set_option maxHeartbeats 1000000 in
theorem F1 (n:Nat) (h1:S aw=oV n) (h2:S bg=yI n) (h3:S aG=oU):wS cI cG S (a2 Rx Int) (enc (X:=Prt)) (t8 (n+1)).o:=by
 rintro b v v' t ⟨y,m⟩ r hF
 replace hF:O1 (t8 n).b (t8 n).o t ⟨y,m⟩=some r:=hF
 unfold O1 at hF
 simp only at hF
 split at hF
 ·cases hF
 rename_i hok
 have hok1:=oa fun h=> hok (.inr (.inr h))
 have hm0:0≤m:=by have: ¬m < 0:=fun h=> hok (.inl h);omega
 have hm1:m≤100:=by have: ¬100 < m:=fun h=> hok (.inr (.inl h));omega
 obtain⟨hlv,hfo⟩:=hok1
 have hlv': (t.lvs.length:Int)≤9223372036854775807:=by omega
 split at hF
 ·rename_i e
  subst e
  obtain rfl:=Option.some.inj hF
  simp[cI,cG,nZ,j4,j5,l5, -Bool.forall_bool, -Bool.exists_bool]
  intro b1
  exact om v v' t tq rfl rfl rfl rfl ⟨rfl,rfl⟩
 rename_i e0
 obtain⟨q,hq,hF⟩:=Option.bind_eq_some_iff.1 hF
 split at hF
 ·cases hF
 rename_i hok2
 have hok3:=oa hok2
 obtain⟨hlq,hfq⟩:=hok3
 have hlq': (q.1.lvs.length:Int)≤9223372036854775807:=by omega
 split at hF
 ·rename_i e
  obtain rfl:=Option.some.inj hF
  have e': (q.1.lvs.length:Int)=t.lvs.length:=by omega
  simp[cI,cG,nZ,j4,j5,l5,h1,hq,e0,hlv',hlq',e,e', -Bool.forall_bool, -Bool.exists_bool]
  intro b1 w w'
  exact om w w' q.1 tq rfl rfl rfl rfl ⟨rfl,rfl⟩
 rename_i e
 obtain⟨c,hc,hF⟩:=Option.bind_eq_some_iff.1 hF
 obtain⟨l,hl,hF⟩:=Option.map_eq_some_iff.1 hF
 subst hF
 have e': ¬ (q.1.lvs.length:Int)=t.lvs.length:=by omega
 have hin:InR .i64 (m -1):=by simp only[InR];omega
 simp[cI,cG,nZ,j4,j5,l5,h1,h2,h3,hq,hc,hl,e0,hlv',hlq',e,e',hin, -Bool.forall_bool, -Bool.exists_bool]
 exact fun b1 w w'=> om w w' l.1 _ rfl rfl rfl rfl ⟨rfl,rfl⟩
end Go.Gv

namespace Go.Gv
open Cod (enc dec)
variable {S S0:Nat→Spc}
def N7 (b:Tbk→Rx→Option (Tbk×Prt)) (o:Tbk→Rx×Int→Option (Tbk×Prt)) (y:Rx) (mn mx:Int) (q:Tbk×Prt×Bool):Option (Tbk×Prt):=
 if q.2.2=true then some (q.1,tq) else
  if mx < 0∧mn=0 then(b q.1 y).bind fun r=> (uZ r.1 (r.2.last,r.2.first)).map fun l=> (l.1, { r.2 with nul:=true }) else
  if mn < mx then(o q.1 (y,mx -mn)).bind fun r=> qb r.1 (q.2.1,r.2) else some (q.1,q.2.1)
set_option maxHeartbeats 2000000 in
theorem JP (n:Nat) (h1:S aw=oV n) (h2:S bg=yI n) (h3:S aG=oU) (h4:S bu=uH):wS fM fy S (a1 Rx) (enc (X:=Prt)) (t8 (n+1)).r:=by
 rintro b v v' t ⟨op,mn,mx,rs,ks⟩ r hF
 replace hF:KA (t8 n).b (t8 n).o t ⟨op,mn,mx,rs,ks⟩=some r:=hF
 unfold KA at hF
 simp only at hF
 split at hF
 ·cases hF
 rename_i y ks'
 split at hF
 ·cases hF
 rename_i hrng
 obtain⟨q,hq,hF⟩:=Option.bind_eq_some_iff.1 hF
 have hF:N7 (t8 n).b (t8 n).o y mn mx q=some r:=hF
 have hm:mn=(mn.toNat:Int):=by omega
 generalize mn.toNat=m at hm hq
 subst hm
 have hm': (m:Int)≤9223372036854775807:=by omega
 have hpos: (0:Int) < ((y::ks').length:Int):=by simp
 simp[fM,fy,nZ,j4,j5,l5,hm', -Bool.forall_bool, -Bool.exists_bool]
 intro b4 b5
 refine ar (X:=Tbk×Prt×Value×Value) [0,3,4,5] [4] m (fun k x=> (Rd (t8 n).b y mx (m -k) x.1 x.2.1).bind (N7 (t8 n).b (t8 n).o y m mx)=some r) (fun x=> []) (fun x=> [(0, .box b [.own 990 x.2.2.1, .v (.int .u64 x.1.fi.val), .v (.int .u64 x.1.la.val), .own 991 x.2.2.2, .v (.bool x.1.nul)]),(990, .row x.2.2.1 cP 1 (x.1.lvs.map enc)),(991, .row x.2.2.2 dy 1 (x.1.fol.map enc)),(5, .box b5 [.v (.int .u64 x.2.1.first.val), .v (.int .u64 x.2.1.last.val), .v (.bool x.2.1.nul)])]) (t,tq,v,v') (by simp) (by simp) (by omega) (by simp) (by simp) (by simp[hq,hF]) (by simp) (by simp[tq]) ?_ ?_
 ·rintro k ⟨t,p,w,w'⟩ hk hx
  rw[show m -k=(m - (k+1)) +1 by omega,Rd] at hx
  simp only at hx
  split at hx
  ·cases hx
  rename_i hok
  obtain⟨hlv,hfo⟩:=oa hok
  have hlv': (t.lvs.length:Int)≤9223372036854775807:=by omega
  cases hb: (t8 n).b t y with
  | none=> rw[hb] at hx;cases hx
  | some c=>
  rw[hb,Option.bind_some] at hx
  split at hx
  ·cases hx
  rename_i hok2
  obtain⟨hlq,hfq⟩:=oa hok2
  have hlq': (c.1.lvs.length:Int)≤9223372036854775807:=by omega
  split at hx
  ·rename_i e
   have e': (c.1.lvs.length:Int)=t.lvs.length:=by omega
   simp[hk,h1,hb,hlv',hlq',e,e', -Bool.forall_bool, -Bool.exists_bool]
   have hx:some (c.1,tq)=some r:=hx
   obtain rfl:=Option.some.inj hx
   exact fun u u'=> om u u' c.1 tq rfl rfl rfl rfl rfl
  rename_i e
  have e': ¬ (c.1.lvs.length:Int)=t.lvs.length:=by omega
  have hin:InR .i64 ((m:Int) -1):=by simp only[InR];omega
  by_cases hmx:mx < 0
  ·by_cases hkm:m - (k+1)=0
   ·rw[if_pos ⟨hmx,hkm⟩] at hx
    have hkm': (k:Int)=m -1:=by omega
    cases hl:uZ c.1 (c.2.last,c.2.first) with
    | none=> rw[hl] at hx;cases hx
    | some l=>
    rw[hl,Option.bind_some] at hx
    cases hc:qb l.1 (p,c.2) with
    | none=> rw[hc] at hx;cases hx
    | some d=>
    rw[hc,Option.bind_some] at hx
    simp[hk,h1,h3,h4,hb,hl,hc,hlv',hlq',e,e',hin,hmx,hkm', -Bool.forall_bool, -Bool.exists_bool]
    exact fun u u'=> ⟨d.1,d.2,hx,u,u', .inl ⟨rfl,rfl,rfl,rfl,rfl⟩, .inl ⟨rfl,rfl⟩, .inl ⟨rfl,rfl⟩, .inl ⟨rfl,rfl,rfl⟩⟩
   ·rw[if_neg (fun h=> hkm h.2)] at hx
    have hkm': ¬ (k:Int)=m -1:=by omega
    rw[Option.bind_some] at hx
    cases hc:qb c.1 (p,c.2) with
    | none=> rw[hc] at hx;cases hx
    | some d=>
    rw[hc,Option.bind_some] at hx
    simp[hk,h1,h3,h4,hb,hc,hlv',hlq',e,e',hin,hmx,hkm', -Bool.forall_bool, -Bool.exists_bool]
    exact fun u u'=> ⟨d.1,d.2,hx,u,u', .inl ⟨rfl,rfl,rfl,rfl,rfl⟩, .inl ⟨rfl,rfl⟩, .inl ⟨rfl,rfl⟩, .inl ⟨rfl,rfl,rfl⟩⟩
  ·rw[if_neg (fun h=> hmx h.1)] at hx
   rw[Option.bind_some] at hx
   cases hc:qb c.1 (p,c.2) with
   | none=> rw[hc] at hx;cases hx
   | some d=>
   rw[hc,Option.bind_some] at hx
   simp[hk,h1,h3,h4,hb,hc,hlv',hlq',e,e',hmx, -Bool.forall_bool, -Bool.exists_bool]
   exact fun u u'=> ⟨d.1,d.2,hx,u,u', .inl ⟨rfl,rfl,rfl,rfl,rfl⟩, .inl ⟨rfl,rfl⟩, .inl ⟨rfl,rfl⟩, .inl ⟨rfl,rfl,rfl⟩⟩
 ·rintro⟨t,p,w,w'⟩ hx
  simp only[Nat.sub_self,Rd,Option.bind_some] at hx
  have hx: (if mx < 0∧(m:Int)=0 then((t8 n).b t y).bind fun r=> (uZ r.1 (r.2.last,r.2.first)).map fun l=> (l.1, { r.2 with nul:=true }) else
   if(m:Int) < mx then((t8 n).o t (y,mx -m)).bind fun r=> qb r.1 (p,r.2) else some (t,p))=some r:=hx
  by_cases hA:mx < 0∧(m:Int)=0
  ·rw[if_pos hA] at hx
   obtain⟨hmx,hm0⟩:=hA
   obtain⟨c,hb,hx⟩:=Option.bind_eq_some_iff.1 hx
   obtain⟨l,hl,rfl⟩:=Option.map_eq_some_iff.1 hx
   have hm0':m=0:=by omega
   subst hm0'
   simp[h1,h4,hb,hl,hmx, -Bool.forall_bool, -Bool.exists_bool]
   exact fun u u'=> om u u' l.1 _ rfl rfl rfl rfl ⟨rfl,rfl⟩
  ·rw[if_neg hA] at hx
   by_cases hB: (m:Int) < mx
   ·rw[if_pos hB] at hx
    obtain⟨c,hb,hx⟩:=Option.bind_eq_some_iff.1 hx
    have n0: ¬mx < 0:=by omega
    have hin:InR .i64 (mx -m):=by simp only[InR];omega
    simp[h2,h3,hb,hx,n0,hB,hin, -Bool.forall_bool, -Bool.exists_bool]
    exact fun u u'=> om u u' r.1 r.2 rfl rfl rfl rfl rfl
   ·rw[if_neg hB] at hx
    obtain rfl:=Option.some.inj hx
    by_cases hmx:mx < 0
    ·have hm0: ¬ (m:Int)=0:=fun h=> hA ⟨hmx,h⟩
     have hm0': ¬m=0:=by omega
     simp[hmx,hm0,hm0',hB, -Bool.forall_bool, -Bool.exists_bool]
     exact om w w' t p rfl rfl rfl rfl ⟨rfl,rfl⟩
    ·simp[hmx,hB, -Bool.forall_bool, -Bool.exists_bool]
     exact om w w' t p rfl rfl rfl rfl ⟨rfl,rfl⟩
end Go.Gv

namespace Go.Gv
open Cod (enc dec)
def Hi (t:Tbk):D:= .cptr [enc t.lvs,enc t.fi,enc t.la,enc t.fol,enc t.nul] 0
theorem LC {t t':Tbk} (h:Hi t=Hi t'):t=t':=by
 obtain⟨a1,a2,a3,a4,a5⟩:=t
 obtain⟨b1,b2,b3,b4,b5⟩:=t'
 unfold Hi at h
 injection h with h1 h2
 simp only[List.cons.injEq] at h1
 obtain⟨h1,h2,h3,h4,h5,_⟩:=h1
 have h1:=cm h1
 have h2:=cm h2
 have h3:=cm h3
 have h4:=cm h4
 have h5:=cm h5
 subst h1;subst h2;subst h3;subst h4;subst h5
 rfl
open Classical in
noncomputable instance:Cod Tbk where
 wd:=1
 enc:=Hi
 dec d:=if h: ∃t,d=Hi t then some h.choose else none
 kn _:=rfl
 wid _:=rfl
 dec_enc t:=by
  have h: ∃t',Hi t=Hi t':=⟨t,rfl⟩
  rw[dif_pos h]
  exact congrArg some (LC h.choose_spec).symm
 le d x h:=by
  split at h
  ·rename_i h'
   cases h
   rw[h'.choose_spec.symm]
   exact .same _
  ·cases h
@[simp] theorem UH (t:Tbk):enc t= .cptr [enc t.lvs,enc t.fi,enc t.la,enc t.fol,enc t.nul] 0:=id rfl
@[simp] theorem UO (l:List (List Rng)) (f a:Int) (fo:List U64) (n:Bool):dec (X:=Tbk) (.cptr [.list 1 (l.map enc), .v (.int .u64 f), .v (.int .u64 a), .list 1 (fo.map enc), .v (.bool n)] 0)=some ⟨l,⟨f⟩,⟨a⟩,fo,n⟩:=Cod.dec_enc (X:=Tbk) ⟨l,⟨f⟩,⟨a⟩,fo,n⟩
end Go.Gv

namespace Go.Gv
open Cod (enc dec)
variable {S S0:Nat→Spc}
def NV (n:Nat) (x:Rx):Prop:=(MM n x).isSome=true
def PR (n:Nat) (x:Rx) (t:Tbk):Prop:=MM n x=some t
noncomputable abbrev Kp (n:Nat):Spc:=cz (a1 Rx) (NV n) (enc (X:=Tbk)) (PR n)
theorem VK (n:Nat) (h1:S aw=oV n):aK pR pd S (a1 Rx) (NV n) (enc (X:=Tbk)) (PR n):=by
 rintro x hx
 obtain⟨t,ht⟩:=Option.isSome_iff_exists.1 hx
 obtain⟨q,hq,rfl⟩:=Option.map_eq_some_iff.1 ht
 have hq0: (t8 n).b ⟨[],⟨0⟩,⟨0⟩, [],false⟩ x=some q:=hq
 simp[pR,pd, -Bool.forall_bool, -Bool.exists_bool]
 refine kF (X:=Nat) [1] [] [] [] (fun _=> True) (fun b=> [(3, .bptr 6 b 0)]) (fun b=> [(6, .box b [.own 990 (.slice none 0 0), .v (.int .u64 0), .v (.int .u64 0), .own 991 (.slice none 0 0), .v (.bool false)]),(990, .row (.slice none 0 0) cP 1 []),(991, .row (.slice none 0 0) dy 1 [])]) [6,990,991] (fun _=> rfl) (by decide) ?_ ?_
 ·simp
  refine fun b=> ⟨b, .same _, .inl ?_,by simp[isNilRow],by simp[isNilRow]⟩
  simp
  exact⟨.nilown 990, .nilown 991⟩
 ·rintro b -
  have e1: (Res.row (.slice none 0 0) cP 1 []:Res)= .row (.slice none 0 0) cP 1 (([]:List (List Rng)).map enc):=rfl
  have e2: (Res.row (.slice none 0 0) dy 1 []:Res)= .row (.slice none 0 0) dy 1 (([]:List U64).map enc):=rfl
  rw[e1,e2]
  simp[h1,hq0, -List.map_nil, -Bool.forall_bool, -Bool.exists_bool]
  simp[hq0, -Bool.forall_bool, -Bool.exists_bool]
  intro w w'
  refine kF (X:=Unit) [] [] [990,991] [] (fun _=> True) (fun _=> [(2, .bptr 6 b 0)]) (fun _=> [(6, .box b [enc q.1.lvs, .v (.int .u64 q.2.first.val), .v (.int .u64 q.2.last.val),enc q.1.fol, .v (.bool q.2.nul)])]) [6] (fun _=> rfl) (by decide) ?_ ?_
  ·simp
   exact .inl ⟨jH (l:=q.1.lvs) cP rfl,jH (l:=q.1.fol) dy rfl⟩
  ·rintro - -
   simp
   refine dK ⟨q.1.lvs,q.2.first,q.2.last,q.1.fol,q.2.nul⟩ ?_ ht
   exact .box rfl
def Ml (x:Tbk×U64×Bool):Prop:=x.1.fol.length≤100000
def Mg (x:Tbk×U64×Bool) (y:U64):Prop:=y=rf x.1 x.2.1 x.2.2
noncomputable abbrev Gx:Spc:=cz (a3 Tbk U64 Bool) Ml (enc (X:=U64)) Mg
theorem MD:aK eF en S (a3 Tbk U64 Bool) Ml (enc (X:=U64)) Mg:=by
 rintro⟨⟨lv,fi,la,fo,nu⟩,set,beg⟩ hlen
 have hlen:fo.length≤100000:=hlen
 have hl: (fo.length:Int)≤9223372036854775807:=by omega
 cases beg
 ·simp[eF,en,hl, -Bool.forall_bool, -Bool.exists_bool]
  refine ar (X:=U64) [1,18] [] fo.length (fun k m=> Oa set k (fo.drop k) m=Oa set 0 fo ⟨0⟩) (fun m=> [(7,enc m)]) (fun x=> []) ⟨0⟩ (by simp) (by simp) (by omega) (by simp) (by simp) (by simp) (by simp) (by simp) ?_ ?_
  ·rintro k m hk hm
   obtain⟨f,hf⟩: ∃f,fo[k]?=some f:=⟨_,List.getElem?_eq_getElem hk⟩
   obtain⟨_,hgf⟩:=List.getElem?_eq_some_iff.1 hf
   rw[KV hf] at hm
   simp[hk,hf,hgf, -Bool.forall_bool, -Bool.exists_bool]
   exact⟨fun hb=> ⟨M2 m f,by simpa [hb] using hm,rfl⟩,fun hb=> ⟨m,by simpa [hb] using hm,rfl⟩⟩
  ·rintro m hm
   rw[List.drop_length,Oa] at hm
   subst hm
   simp[-Bool.forall_bool, -Bool.exists_bool]
   exact dK _ (.same _) rfl
 ·simp[eF,en,hl, -Bool.forall_bool, -Bool.exists_bool]
  exact dK _ (.same _) rfl
end Go.Gv

namespace Go.Gv
open Go.Proofs
-- regex_match while id=0: live [2:variants, 7:t, 8:set, 9:beginning, 28:] changed [8, 9] res [28]
-- regex_match range i=40 n=39 c=41 i2=69 id=2: live [2:variants, 7:t, 8:set, 9:beginning, 12:next, 28:, 38:] changed [8] res [28]
-- regex_match range i=49 n=48 c=50 i2=68 id=4: live [2:variants, 7:t, 8:set, 9:beginning, 12:next, 14:v, 28:, 38:, 39:, 40:, 47:] changed [8] res [28]
def mF:CC:=oX [oB 3 (.box aA true (oT 0)),oB 6 (.mv (.const ob))] [1,2,3] [] (.seq (oX [oD 17 5 3,oZ 18 cM [oT 17],oB 19 (.eql true false [.int] (oT 18) (oN 0)),oA 20 19,oI 21 20 (.mv (oT 1)),oI 22 20 (.call cS [oT 21]),oI 23 20 (.not (oT 22)),oB 24 (.pick (oT 20) (.const (.bool true)) (oT 23))] [1,2,3,24] [] (.ite (oT 24) (oX [
 oB 6 (.mv (.const ob))] [6] [] (.ret)) (.skip))) (.keep [1,2,3] [] (oX [oD 25 5 3,oZ 26 lc [oT 25],oA 7 26] [1,2,7] [] (oX [oB 8 (.mv (.const (.int .u64 0))),oB 9 (.mv (.const (.bool true)))] [1,2,7,8,9] [] (.seq (oX [oA 27 1,oB 28 (.srange (oT 27))] [2,7,8,9,28] [28] (.block 0 (.loop 1 (oX [oB 29 (.snext (oT 28)),
 oB 30 (.ext (oT 29) 0)] [2,7,8,9,28,29,30] [28] (.seq (.ite (oT 30) (.skip) (.exit 0)) (.keep [2,7,8,9,28,29] [28] (.block 1 (oX [oB 31 (.ext (oT 29) 2),oA 11 31] [2,7,8,9,11,28] [28] (oX [oA 32 7,oA 33 8,oA 34 9,oZ 35 dG [oT 32,oT 33,oT 34],oA 12 35] [2,7,11,12,28] [28] (oX [oB 8 (.mv (.const (.int .u64 0))),oB 9 (.mv (.const ob))] [2,7,8,9,11,12,28] [28] (.seq (oX [
 oA 36 2,oA 37 11,oB 38 (.callv (oT 36) [oT 37]),oB 39 (.len (oT 38)),oB 40 (.mv (oN 0))] [2,7,8,9,12,28,38,39,40] [28] (ax 2 40 39 41 3 (oX [oB 42 (.iaddr 1 (oT 38) (oT 40)),oC 43 1 42,oA 14 43] [2,7,8,9,12,14,28,38,39,40] [28] (oX [oA 44 7,oG 45 44,oE 46 0 45,oC 47 1 46,oB 48 (.len (oT 47)),
 oB 49 (.mv (oN 0))] [2,7,8,9,12,14,28,38,39,40,47,48,49] [28] (ax 4 49 48 50 5 (oX [oA 51 49,oB 52 (.iaddr 1 (oT 47) (oT 49)),oC 53 1 52,oA 15 51,oA 16 53] [2,7,8,9,12,14,15,16,28,38,39,40,47,48,49] [28] (oX [oA 54 12,oA 55 15,oB 56 (.arith .shr (oT 54) (oT 55)),oB 57 (.arith .and (oT 56) (.const (.int .u64 1))),oB 58 (.eql false false [.int] (oT 57) (.const (.int .u64 1))),
 oA 59 58,oH 60 59 (.mv (oT 16)),oH 61 59 (.mv (oT 14)),oH 62 59 (.call e8 [oT 60,oT 61]),oB 63 (.pick (oT 59) (oT 62) (.const ob))] [2,7,8,9,12,14,15,28,38,39,40,47,48,49,63] [28] (.ite (oT 63) (.reg [oA 64 8,oA 65 15,oB 66 (.arith .shl (.const (.int .u64 1)) (oT 65)),oB 67 (.arith .or (oT 64) (oT 66)),oA 8 67]) (.skip)))) 68))) 69)) (.keep [2,7,8,9,28] [28] (oX [oA 70 8,
 oB 71 (.eql false false [.int] (oT 70) (.const (.int .u64 0)))] [2,7,8,9,28,71] [28] (.ite (oT 71) (oX [oB 6 (.mv (.const ob))] [6] [] (.ret)) (.skip))))))))))))))) (.keep [7,8,9] [] (oX [oA 72 9,oA 73 72,oH 74 73 (.mv (oT 7)),oH 75 73 (.nilck (oT 74)),oH 76 73 (.faddr 4 (oT 75)),oH 77 73 (.load false 1 (oT 76)),oB 78 (.pick (oT 73) (oT 77) (.const ob)),oA 79 78,oI 80 79 (.mv (oT 8)),
 oI 81 79 (.mv (oT 7)),oI 82 79 (.nilck (oT 81)),oI 83 79 (.faddr 2 (oT 82)),oI 84 79 (.load false 1 (oT 83)),oI 85 79 (.arith .and (oT 80) (oT 84)),oI 86 79 (.eql true false [.int] (oT 85) (.const (.int .u64 0))),oB 87 (.pick (oT 79) (.const (.bool true)) (oT 86)),oA 6 87] [6] [] (.ret))))))))
def mg:List au:= [.tmp 6]
def zI:List Nat:= [3]
theorem zi:ay Tryz.prog dP zI mF mg 88:=ap mixed (by kernel_rfl)
def mH:CC:=oX [oB 2 (.box aA true (oT 0)),oB 4 (.mv (.const ob))] [1,2] [] (oX [oD 5 5 2,oA 6 1,oZ 7 dP [oT 5,oT 6,.func cg],oA 4 7] [4] [] (.ret))
def mi:List au:= [.tmp 4]
def zK:List Nat:= [2]
theorem zk:ay Tryz.prog iB zK mH mi 8:=ap mixed (by kernel_rfl)
def kw:CC:=oX [oB 2 (.mv (.const on))] [0] [] (oX [oA 3 0,oB 4 (.bslice mb 1 [oT 3]),oA 2 4] [2] [] (.ret))
def ka:List au:= [.tmp 2]
def wv:List Nat:= []
theorem wj:ay Tryz.prog cg wv kw ka 5:=ap mixed (by kernel_rfl)
def iY:CC:=oX [oB 2 (.box aA true (oT 0)),oB 4 (.mv (.const ob))] [1,2] [] (oX [oD 5 5 2,oA 6 1,oZ 7 dP [oT 5,oT 6,.func bL],oA 4 7] [4] [] (.ret))
def iP:List au:= [.tmp 4]
def tA:List Nat:= [2]
theorem sY:ay Tryz.prog et tA iY iP 8:=ap mixed (by kernel_rfl)
-- regex_variants while id=0: live [3:l, 4:folded, 13:] changed [3] res [13, 40]
-- regex_variants range i=24 n=23 c=25 i2=41 id=2: live [3:l, 4:folded, 13:, 22:] changed [3] res [13, 40]
def jQ:CC:=oX [oB 2 (.mv (.const on))] [0] [] (oX [oB 3 (.mv (.const on))] [0,3] [40] (oX [oA 9 0,oB 10 (.rstr (oT 9)),oZ 11 dR [oT 10],oA 4 11] [3,4] [40] (.seq (oX [oA 12 4,oB 13 (.srange (oT 12))] [3,4,13] [13,40] (.block 0 (.loop 1 (oX [oB 14 (.snext (oT 13)),oB 15 (.ext (oT 14) 0)] [3,4,13,14,15] [13,40] (.seq (.ite (oT 15) (.skip) (.exit 0))
 (.keep [3,4,13,14] [13,40] (.block 1 (oX [oB 16 (.ext (oT 14) 2),oA 6 16] [3,4,6,13] [13,40] (oX [oA 17 6,oA 18 6,oB 19 (.arith .sub (oT 18) (.const (.int .i32 32))),oA 20 6,oB 21 (.arith .sub (oT 20) (.const (.int .i32 80))),oB 22 (.bslice mb 1 [oT 17,oT 19,oT 21]),oB 23 (.len (oT 22)),oB 24 (.mv (oN 0))] [3,4,13,22,23,24] [13,40] (ax 2 24 23 25 3 (oX [
 oB 26 (.iaddr 1 (oT 22) (oT 24)),oC 27 1 26,oA 8 27] [3,4,8,13,22,23,24] [13,40] (oX [oA 28 8,oB 29 (.cmp .geq (oT 28) (.const (.int .i32 0))),oA 30 29,oH 31 30 (.mv (oT 8)),oH 32 30 (.rstr (oT 31)),oH 33 30 (.call dR [oT 32]),oH 34 30 (.mv (oT 4)),oH 35 30 (.eql false false [.str] (oT 33) (oT 34)),
 oB 36 (.pick (oT 30) (oT 35) (.const ob))] [3,4,8,13,22,23,24,36] [13,40] (.ite (oT 36) (.reg [oA 37 3,oA 38 8,oB 39 (.bslice mb 1 [oT 38]),oB 40 (.append none mb 1 4 (oT 37) (oT 39)),oA 3 40]) (.skip)))) 41)))))))))) (.keep [3] [40] (oX [oA 42 3,oA 2 42] [2] [40] (.ret))))))
def jq:List au:= [.tmp 2]
def u1:List Nat:= []
theorem uK:ay Tryz.prog bL u1 jQ jq 43:=ap mixed (by kernel_rfl)
end Go.Gv

namespace Go.Gv
open Cod (enc dec)
variable {S S0:Nat→Spc}
def aMt:gq (Rx×B×Bool):=⟨fun ds=> match ds with
 | [a,b, .clo f []]=> if f=cg then(dec a).bind fun x=> (dec b).map fun s=> (x,s,false) else if f=bL then(dec a).bind fun x=> (dec b).map fun s=> (x,s,true) else none
 | _=> none,fun x=> [enc x.1,enc x.2.1, .clo (if x.2.2=true then bL else cg) []],fun ds x h=> by
 split at h
 ·rename_i a b f
  split at h
  ·rename_i e
   simp only[Option.bind_eq_some_iff,Option.map_eq_some_iff] at h
   obtain⟨x,hx,s,hs,rfl⟩:=h
   subst e
   exact .cons (Cod.le _ _ hx) (.cons (Cod.le _ _ hs) (.cons (.same _) .nil))
  ·split at h
   ·rename_i e
    simp only[Option.bind_eq_some_iff,Option.map_eq_some_iff] at h
    obtain⟨x,hx,s,hs,rfl⟩:=h
    subst e
    exact .cons (Cod.le _ _ hx) (.cons (Cod.le _ _ hs) (.cons (.same _) .nil))
   ·cases h
 ·cases h⟩
@[simp] theorem SE (x:Rx) (s:B) (f:Bool):aMt.view (x,s,f)= [enc x,enc s, .clo (if f=true then bL else cg) []]:=id rfl
@[simp] theorem SG (a b:D):aMt.dec [a,b, .clo cg []]=(dec a).bind fun x=> (dec b).map fun s=> (x,s,false):=id rfl
@[simp] theorem SF (a b:D):aMt.dec [a,b, .clo bL []]=(dec a).bind fun x=> (dec b).map fun s=> (x,s,true):=id rfl
abbrev Bt:Spc:=cz (a1 Rx) (fun x=> sR 50 x=true) (enc (X:=Int)) fun x y=> y=0
abbrev Ep:Spc:=cz (a2 (List Rng) I32) (fun _=> True) (enc (X:=Bool)) fun x y=> y=Dv x.1 x.2.val
abbrev s_cpVal:Spc:=cz (a1 B) (fun s=> pV s=true∧s.size≤1000) (enc (X:=Bool)) fun _ y=> y=true
abbrev Kq:Spc:=cz (a1 I32) (fun c=> 0≤c.val∧c.val < 128) (enc (X:=List I32)) fun c y=> y=F5 false c
abbrev Ko:Spc:=cz (a1 I32) (fun c=> 0≤c.val∧c.val < 128) (enc (X:=List I32)) fun c y=> y=F5 true c
def NT (x:Rx×B×Bool):Prop:= ∃y,tr x.1 x.2.1 x.2.2=some y
def PP (x:Rx×B×Bool) (y:Bool):Prop:=tr x.1 x.2.1 x.2.2=some y
abbrev Er:Spc:=cz aMt NT (enc (X:=Bool)) PP
theorem B3 {s:B} (h:pV s=true) {p:Nat} (hp:p < s.size): ∃c:UInt8,s.data.toList[p]?=some c∧c.toNat < 128∧Utf8.decode s p=(c.toNat,1):=by
 have hl:p < s.data.toList.length:=by rw[Array.length_toList];exact hp
 refine⟨s.data.toList[p],List.getElem?_eq_getElem hl,?_,?_⟩
 ·have:=List.all_eq_true.1 h _ (List.getElem_mem hl)
  simpa using this
 ·have h1: (s[p]'hp).toNat < 128:=by
   have:=List.all_eq_true.1 h _ (List.getElem_mem hl)
   have h2:s.data[p].toNat < 128:=by simpa using this
   exact h2
  have:=Go.decode_ascii s p hp h1
  rw[this]
  have:s[p]=s.data.toList[p]:=by
   rw[Array.getElem_toList]
   rfl
  rw[this]
set_option maxHeartbeats 2000000 in
theorem AB (h1:S cM=Bt) (h2:S cS=s_cpVal) (h3:S lc=Kp 50) (h4:S dG=Gx) (h5:S e8=Ep) (h6:S cg=Kq) (h7:S bL=Ko):
 aK mF mg S aMt NT (enc (X:=Bool)) PP:=by
 rintro⟨x,s,f⟩ ⟨y,hy⟩
 have hy0:tr x s f=some y:=hy
 unfold tr at hy0
 split at hy0
 rotate_left
 ·cases hy0
 rename_i hc
 obtain⟨hv,ha,hsz⟩:=hc
 obtain⟨t,ht,hy1⟩:=Option.bind_eq_some_iff.1 hy0
 split at hy1
 rotate_left
 ·cases hy1
 rename_i hok
 have hres:Rv t (F5 f) (NG s.data.toList) ⟨0⟩ true=y:=Option.some.inj hy1
 obtain⟨hlv,hfo⟩:=oa (t:=t) (by rw[hok];simp)
 have hOf:PR 50 x t:=ht
 have hPOf:NV 50 x:=by unfold NV;rw[ht];rfl
 simp[mF,mg,h1,h2,h3,hv,ha,hsz,hPOf, -Bool.forall_bool, -Bool.exists_bool]
 intro t' ht' b
 obtain rfl:t=t':=by
  have h:MM 50 x=some t':=ht'
  rw[ht] at h
  exact Option.some.inj h
 refine bh (X:=U64×Bool×Nat) [2,7,28] [] (fun z=> Rv t (F5 f) (NG (s.data.toList.drop z.2.2)) z.1 z.2.1=y∧z.2.2≤s.size) (fun z=> [(8,enc z.1),(9,enc z.2.1)]) (fun z=> [(28, .iter b s z.2.2)]) (fun z=> s.size -z.2.2) (⟨0⟩,true,0) ⟨by simpa using hres,Nat.zero_le _⟩ (by simp) (by simp) ?_
 rintro⟨set,beg,pos⟩ ⟨hm,hp⟩
 simp only at hm hp
 by_cases hlt:pos < s.size
 ·obtain⟨c,hc,hc128,hdec⟩:=B3 ha hlt
  rw[mD hc] at hm
  have hm: (if(MH (rf t set beg) t.lvs (F5 f ⟨(c.toNat:Int)⟩) ⟨0⟩).val=0 then false else Rv t (F5 f) (NG (s.data.toList.drop (pos+1))) (MH (rf t set beg) t.lvs (F5 f ⟨(c.toNat:Int)⟩) ⟨0⟩) false)=y:=hm
  have hN:Ml (t,set,beg):=by show t.fol.length≤100000;omega
  have hq:Mg (t,set,beg) (rf t set beg):=rfl
  have c0: (0:Int)≤(c.toNat:Int):=by omega
  have c1: (c.toNat:Int) < 128:=by omega
  have hvl: ((F5 f ⟨(c.toNat:Int)⟩).length:Int)≤9223372036854775807:=by
   have: (F5 f ⟨(c.toNat:Int)⟩).length≤3:=by
    unfold F5
    split
    ·unfold zY
     exact Nat.le_trans (List.length_filter_le _ _) (by simp)
    ·simp
   omega
  have h8:S (if f=true then bL else cg)=cz (a1 I32) (fun c=> 0≤c.val∧c.val < 128) (enc (X:=List I32)) fun c y=> y=F5 f c:=by
   cases f
   ·exact h6
   ·exact h7
  simp[hlt,hdec,h4,hN,h8,c0,c1,hvl, -Bool.forall_bool, -Bool.exists_bool]
  intro nx hnx
  obtain rfl:nx=rf t set beg:=hnx
  generalize rf t set beg=nx at hm
  generalize F5 f ⟨(c.toNat:Int)⟩=vs at hm hvl
  refine ar (X:=U64) [2,7,9,12,28,38] [28] vs.length (fun k m=> MH nx t.lvs (vs.drop k) m=MH nx t.lvs vs ⟨0⟩) (fun m=> [(8,enc m)]) (fun _=> []) ⟨0⟩ (by simp) (by simp) (by omega) (by simp) (by simp) (by simp) (by simp) (by simp) ?_ ?_
  ·rintro k m hk hm2
   obtain⟨v,hvk⟩:=DD hk
   obtain⟨_,hgv⟩:=List.getElem?_eq_some_iff.1 hvk
   rw[mD hvk,MH] at hm2
   have hlv': (t.lvs.length:Int)≤9223372036854775807:=by omega
   simp[hk,hvk,hgv,hlv', -Bool.forall_bool, -Bool.exists_bool]
   refine ar (X:=U64) [2,7,9,12,14,28,38,39,40,47] [28] t.lvs.length (fun k m'=> Qn nx v k (t.lvs.drop k) m'=Qn nx v 0 t.lvs m) (fun m=> [(8,enc m)]) (fun _=> []) m (by simp) (by simp) (by omega) (by simp) (by simp) (by simp) (by simp) (by simp) ?_ ?_
   ·rintro j m' hj hm3
    obtain⟨lf,hlf⟩:=DD hj
    obtain⟨_,hgl⟩:=List.getElem?_eq_some_iff.1 hlf
    rw[mD hlf,Qn] at hm3
    simp[hj,hlf,hgl,h5, -Bool.forall_bool, -Bool.exists_bool]
    refine⟨fun hb=> ⟨fun hc=> ⟨_,by rw[if_pos (by simp[hb,hc])] at hm3;exact hm3,rfl⟩,fun hc=> ⟨m',by rw[if_neg (by simp[hc])] at hm3;exact hm3,rfl⟩⟩,fun hb=> ⟨m',by rw[if_neg (by simp[hb])] at hm3;exact hm3,rfl⟩⟩
   ·rintro m' hm3
    rw[List.drop_length,Qn] at hm3
    subst hm3
    simp[-Bool.forall_bool, -Bool.exists_bool]
    exact⟨_,hm2,rfl⟩
  ·rintro m hm2
   rw[List.drop_length,MH] at hm2
   subst hm2
   simp[-Bool.forall_bool, -Bool.exists_bool]
   refine⟨fun h0=> ?_,fun h0=> ?_⟩
   ·rw[if_pos h0] at hm
    subst hm
    exact hy
   ·rw[if_neg h0] at hm
    exact⟨_,false,pos+1,⟨hm,by omega⟩,⟨⟨rfl,rfl⟩, .inl rfl⟩,by omega⟩
 ·have hpe:pos=s.size:=by omega
  subst hpe
  rw[List.drop_eq_nil_of_le (by rw[Array.length_toList];exact Nat.le_refl _)] at hm
  have hm: ((beg && t.nul) || decide (Hv .u64 set.val t.la.val≠0))=y:=hm
  simp[-Bool.forall_bool, -Bool.exists_bool]
  have hQ: ∀w,w=y→PP (x,s,f) w:=fun w e=> by subst e;exact hy
  refine⟨fun hb=> ⟨fun hn=> hQ _ ?_,fun hn=> hQ _ ?_⟩,fun hb=> hQ _ ?_⟩
  all_goals
   subst hb
   first | subst hn | skip
   rw[←hm]
   simp[*]
theorem xb:aK kw ka S (a1 I32) (fun c=> 0≤c.val∧c.val < 128) (enc (X:=List I32)) fun c y=> y=F5 false c:=by
 rintro⟨c⟩ ⟨c0,c1⟩
 simp[kw,ka, -Bool.forall_bool, -Bool.exists_bool]
 exact dK [⟨c⟩] (by simp) rfl
def FP (f:Bool) (x:Rx×B):Prop:= ∃y,tr x.1 x.2 f=some y
def Mh (f:Bool) (x:Rx×B) (y:Bool):Prop:=tr x.1 x.2 f=some y
abbrev Bu (f:Bool):Spc:=cz (a2 Rx B) (FP f) (enc (X:=Bool)) (Mh f)
theorem AE (h1:S dP=Er):aK mH mi S (a2 Rx B) (FP false) (enc (X:=Bool)) (Mh false):=by
 rintro⟨x,s⟩ hp
 have hp':NT (x,s,false):=hp
 simp[mH,mi,h1,hp', -Bool.forall_bool, -Bool.exists_bool]
 exact fun y hy=> hy
theorem ue (h1:S dP=Er):aK iY iP S (a2 Rx B) (FP true) (enc (X:=Bool)) (Mh true):=by
 rintro⟨x,s⟩ hp
 have hp':NT (x,s,true):=hp
 simp[iY,iP,h1,hp', -Bool.forall_bool, -Bool.exists_bool]
 exact fun y hy=> hy
end Go.Gv
