/- A part of the framework and of the walks: W142 W143 T34 W144 C56 W145. -/
import Derived.Test.YticbieanhfdnoaaGreatDoorGc34
import Derived.Test.YticbieanhfdnoaaGreatDoorGc21
import Derived.Test.YticbieanhfdnoaaGreatDoorGc29
set_option linter.unusedSimpArgs false
set_option linter.unusedVariables false
set_option maxRecDepth 100000
set_option linter.unusedSectionVars false

namespace Go.Gv
open Cod (enc dec)
variable {S S0:Nat→Spc}
theorem pn {t:Tbk} (h:EC t≠false):t.lvs.length≤1000∧t.fol.length≤1000:=by
 cases hb:EC t with
 | true=> exact of_decide_eq_true hb
 | false=> exact absurd hb h
set_option maxHeartbeats 1000000 in
theorem HT (n:Nat) (h1:S ax=pQ n) (h2:S bp=Ab n) (h3:S aJ=pP):yf cL cK S (a2 Rx Int) (enc (X:=Prt)) (ve (n+1)).o:=by
 rintro b v v' t ⟨y,m⟩ r hF
 replace hF:RW (ve n).b (ve n).o t ⟨y,m⟩=some r:=hF
 unfold RW at hF
 simp only at hF
 split at hF
 ·cases hF
 rename_i hok
 have hok1:=pn fun h=> hok (.inr (.inr h))
 have hm0:0≤m:=by have: ¬m < 0:=fun h=> hok (.inl h);omega
 have hm1:m≤100:=by have: ¬100 < m:=fun h=> hok (.inr (.inl h));omega
 obtain⟨hlv,hfo⟩:=hok1
 have hlv': (t.lvs.length:Int)≤9223372036854775807:=by omega
 split at hF
 ·rename_i e
  subst e
  obtain rfl:=Option.some.inj hF
  simp[cL,cK,ph,kP,kQ,mK, -Bool.forall_bool, -Bool.exists_bool]
  intro b1
  exact py v v' t uy rfl rfl rfl rfl ⟨rfl,rfl⟩
 rename_i e0
 obtain⟨q,hq,hF⟩:=Option.bind_eq_some_iff.1 hF
 split at hF
 ·cases hF
 rename_i hok2
 have hok3:=pn hok2
 obtain⟨hlq,hfq⟩:=hok3
 have hlq': (q.1.lvs.length:Int)≤9223372036854775807:=by omega
 split at hF
 ·rename_i e
  obtain rfl:=Option.some.inj hF
  have e': (q.1.lvs.length:Int)=t.lvs.length:=by omega
  simp[cL,cK,ph,kP,kQ,mK,h1,hq,e0,hlv',hlq',e,e', -Bool.forall_bool, -Bool.exists_bool]
  intro b1 w w'
  exact py w w' q.1 uy rfl rfl rfl rfl ⟨rfl,rfl⟩
 rename_i e
 obtain⟨c,hc,hF⟩:=Option.bind_eq_some_iff.1 hF
 obtain⟨l,hl,hF⟩:=Option.map_eq_some_iff.1 hF
 subst hF
 have e': ¬ (q.1.lvs.length:Int)=t.lvs.length:=by omega
 have hin:InR .i64 (m -1):=by simp only[InR];omega
 simp[cL,cK,ph,kP,kQ,mK,h1,h2,h3,hq,hc,hl,e0,hlv',hlq',e,e',hin, -Bool.forall_bool, -Bool.exists_bool]
 exact fun b1 w w'=> py w w' l.1 _ rfl rfl rfl rfl ⟨rfl,rfl⟩
end Go.Gv

namespace Go.Gv
open Cod (enc dec)
variable {S S0:Nat→Spc}
def Q0 (b:Tbk→Rx→Option (Tbk×Prt)) (o:Tbk→Rx×Int→Option (Tbk×Prt)) (y:Rx) (mn mx:Int) (q:Tbk×Prt×Bool):Option (Tbk×Prt):=
 if q.2.2=true then some (q.1,uy) else
  if mx < 0∧mn=0 then(b q.1 y).bind fun r=> (wh r.1 (r.2.last,r.2.first)).map fun l=> (l.1, { r.2 with nul:=true }) else
  if mn < mx then(o q.1 (y,mx -mn)).bind fun r=> qX r.1 (q.2.1,r.2) else some (q.1,q.2.1)
set_option maxHeartbeats 2000000 in
theorem L7 (n:Nat) (h1:S ax=pQ n) (h2:S bp=Ab n) (h3:S aJ=pP) (h4:S bF=vL):yf ga fQ S (a1 Rx) (enc (X:=Prt)) (ve (n+1)).r:=by
 rintro b v v' t ⟨op,mn,mx,rs,ks⟩ r hF
 replace hF:MR (ve n).b (ve n).o t ⟨op,mn,mx,rs,ks⟩=some r:=hF
 unfold MR at hF
 simp only at hF
 split at hF
 ·cases hF
 rename_i y ks'
 split at hF
 ·cases hF
 rename_i hrng
 obtain⟨q,hq,hF⟩:=Option.bind_eq_some_iff.1 hF
 have hF:Q0 (ve n).b (ve n).o y mn mx q=some r:=hF
 have hm:mn=(mn.toNat:Int):=by omega
 generalize mn.toNat=m at hm hq
 subst hm
 have hm': (m:Int)≤9223372036854775807:=by omega
 have hpos: (0:Int) < ((y::ks').length:Int):=by simp
 simp[ga,fQ,ph,kP,kQ,mK,hm', -Bool.forall_bool, -Bool.exists_bool]
 intro b4 b5
 refine aq (X:=Tbk×Prt×Value×Value) [0,3,4,5] [4] m (fun k x=> (UG (ve n).b y mx (m -k) x.1 x.2.1).bind (Q0 (ve n).b (ve n).o y m mx)=some r) (fun x=> []) (fun x=> [(0, .box b [.own 990 x.2.2.1, .v (.int .u64 x.1.fi.val), .v (.int .u64 x.1.la.val), .own 991 x.2.2.2, .v (.bool x.1.nul)]),(990, .row x.2.2.1 cT 1 (x.1.lvs.map enc)),(991, .row x.2.2.2 dL 1 (x.1.fol.map enc)),(5, .box b5 [.v (.int .u64 x.2.1.first.val), .v (.int .u64 x.2.1.last.val), .v (.bool x.2.1.nul)])]) (t,uy,v,v') (by simp) (by simp) (by omega) (by simp) (by simp) (by simp[hq,hF]) (by simp) (by simp[uy]) ?_ ?_
 ·rintro k ⟨t,p,w,w'⟩ hk hx
  rw[show m -k=(m - (k+1)) +1 by omega,UG] at hx
  simp only at hx
  split at hx
  ·cases hx
  rename_i hok
  obtain⟨hlv,hfo⟩:=pn hok
  have hlv': (t.lvs.length:Int)≤9223372036854775807:=by omega
  cases hb: (ve n).b t y with
  | none=> rw[hb] at hx;cases hx
  | some c=>
  rw[hb,Option.bind_some] at hx
  split at hx
  ·cases hx
  rename_i hok2
  obtain⟨hlq,hfq⟩:=pn hok2
  have hlq': (c.1.lvs.length:Int)≤9223372036854775807:=by omega
  split at hx
  ·rename_i e
   have e': (c.1.lvs.length:Int)=t.lvs.length:=by omega
   simp[hk,h1,hb,hlv',hlq',e,e', -Bool.forall_bool, -Bool.exists_bool]
   have hx:some (c.1,uy)=some r:=hx
   obtain rfl:=Option.some.inj hx
   exact fun u u'=> py u u' c.1 uy rfl rfl rfl rfl rfl
  rename_i e
  have e': ¬ (c.1.lvs.length:Int)=t.lvs.length:=by omega
  have hin:InR .i64 ((m:Int) -1):=by simp only[InR];omega
  by_cases hmx:mx < 0
  ·by_cases hkm:m - (k+1)=0
   ·rw[if_pos ⟨hmx,hkm⟩] at hx
    have hkm': (k:Int)=m -1:=by omega
    cases hl:wh c.1 (c.2.last,c.2.first) with
    | none=> rw[hl] at hx;cases hx
    | some l=>
    rw[hl,Option.bind_some] at hx
    cases hc:qX l.1 (p,c.2) with
    | none=> rw[hc] at hx;cases hx
    | some d=>
    rw[hc,Option.bind_some] at hx
    simp[hk,h1,h3,h4,hb,hl,hc,hlv',hlq',e,e',hin,hmx,hkm', -Bool.forall_bool, -Bool.exists_bool]
    exact fun u u'=> ⟨d.1,d.2,hx,u,u', .inl ⟨rfl,rfl,rfl,rfl,rfl⟩, .inl ⟨rfl,rfl⟩, .inl ⟨rfl,rfl⟩, .inl ⟨rfl,rfl,rfl⟩⟩
   ·rw[if_neg (fun h=> hkm h.2)] at hx
    have hkm': ¬ (k:Int)=m -1:=by omega
    rw[Option.bind_some] at hx
    cases hc:qX c.1 (p,c.2) with
    | none=> rw[hc] at hx;cases hx
    | some d=>
    rw[hc,Option.bind_some] at hx
    simp[hk,h1,h3,h4,hb,hc,hlv',hlq',e,e',hin,hmx,hkm', -Bool.forall_bool, -Bool.exists_bool]
    exact fun u u'=> ⟨d.1,d.2,hx,u,u', .inl ⟨rfl,rfl,rfl,rfl,rfl⟩, .inl ⟨rfl,rfl⟩, .inl ⟨rfl,rfl⟩, .inl ⟨rfl,rfl,rfl⟩⟩
  ·rw[if_neg (fun h=> hmx h.1)] at hx
   rw[Option.bind_some] at hx
   cases hc:qX c.1 (p,c.2) with
   | none=> rw[hc] at hx;cases hx
   | some d=>
   rw[hc,Option.bind_some] at hx
   simp[hk,h1,h3,h4,hb,hc,hlv',hlq',e,e',hmx, -Bool.forall_bool, -Bool.exists_bool]
   exact fun u u'=> ⟨d.1,d.2,hx,u,u', .inl ⟨rfl,rfl,rfl,rfl,rfl⟩, .inl ⟨rfl,rfl⟩, .inl ⟨rfl,rfl⟩, .inl ⟨rfl,rfl,rfl⟩⟩
 ·rintro⟨t,p,w,w'⟩ hx
  simp only[Nat.sub_self,UG,Option.bind_some] at hx
  have hx: (if mx < 0∧(m:Int)=0 then((ve n).b t y).bind fun r=> (wh r.1 (r.2.last,r.2.first)).map fun l=> (l.1, { r.2 with nul:=true }) else
   if(m:Int) < mx then((ve n).o t (y,mx -m)).bind fun r=> qX r.1 (p,r.2) else some (t,p))=some r:=hx
  by_cases hA:mx < 0∧(m:Int)=0
  ·rw[if_pos hA] at hx
   obtain⟨hmx,hm0⟩:=hA
   obtain⟨c,hb,hx⟩:=Option.bind_eq_some_iff.1 hx
   obtain⟨l,hl,rfl⟩:=Option.map_eq_some_iff.1 hx
   have hm0':m=0:=by omega
   subst hm0'
   simp[h1,h4,hb,hl,hmx, -Bool.forall_bool, -Bool.exists_bool]
   exact fun u u'=> py u u' l.1 _ rfl rfl rfl rfl ⟨rfl,rfl⟩
  ·rw[if_neg hA] at hx
   by_cases hB: (m:Int) < mx
   ·rw[if_pos hB] at hx
    obtain⟨c,hb,hx⟩:=Option.bind_eq_some_iff.1 hx
    have n0: ¬mx < 0:=by omega
    have hin:InR .i64 (mx -m):=by simp only[InR];omega
    simp[h2,h3,hb,hx,n0,hB,hin, -Bool.forall_bool, -Bool.exists_bool]
    exact fun u u'=> py u u' r.1 r.2 rfl rfl rfl rfl rfl
   ·rw[if_neg hB] at hx
    obtain rfl:=Option.some.inj hx
    by_cases hmx:mx < 0
    ·have hm0: ¬ (m:Int)=0:=fun h=> hA ⟨hmx,h⟩
     have hm0': ¬m=0:=by omega
     simp[hmx,hm0,hm0',hB, -Bool.forall_bool, -Bool.exists_bool]
     exact py w w' t p rfl rfl rfl rfl ⟨rfl,rfl⟩
    ·simp[hmx,hB, -Bool.forall_bool, -Bool.exists_bool]
     exact py w w' t p rfl rfl rfl rfl ⟨rfl,rfl⟩
end Go.Gv

namespace Go.Gv
open Cod (enc dec)
def Jf (t:Tbk):D:= .cptr [enc t.lvs,enc t.fi,enc t.la,enc t.fol,enc t.nul] 0
theorem N5 {t t':Tbk} (h:Jf t=Jf t'):t=t':=by
 obtain⟨a1,a2,a3,a4,a5⟩:=t
 obtain⟨b1,b2,b3,b4,b5⟩:=t'
 unfold Jf at h
 injection h with h1 h2
 simp only[List.cons.injEq] at h1
 obtain⟨h1,h2,h3,h4,h5,_⟩:=h1
 have h1:=bU h1
 have h2:=bU h2
 have h3:=bU h3
 have h4:=bU h4
 have h5:=bU h5
 subst h1;subst h2;subst h3;subst h4;subst h5
 rfl
open Classical in
noncomputable instance:Cod Tbk where
 wd:=1
 enc:=Jf
 dec d:=if h: ∃t,d=Jf t then some h.choose else none
 kn _:=rfl
 wid _:=rfl
 dec_enc t:=by
  have h: ∃t',Jf t=Jf t':=⟨t,rfl⟩
  rw[dif_pos h]
  exact congrArg some (N5 h.choose_spec).symm
 le d x h:=by
  split at h
  ·rename_i h'
   cases h
   rw[h'.choose_spec.symm]
   exact .same _
  ·cases h
@[simp] theorem Yb (t:Tbk):enc t= .cptr [enc t.lvs,enc t.fi,enc t.la,enc t.fol,enc t.nul] 0:=id rfl
@[simp] theorem Yi (l:List (List Rng)) (f a:Int) (fo:List U64) (n:Bool):dec (X:=Tbk) (.cptr [.list 1 (l.map enc), .v (.int .u64 f), .v (.int .u64 a), .list 1 (fo.map enc), .v (.bool n)] 0)=some ⟨l,⟨f⟩,⟨a⟩,fo,n⟩:=Cod.dec_enc (X:=Tbk) ⟨l,⟨f⟩,⟨a⟩,fo,n⟩
end Go.Gv

namespace Go.Gv
open Cod (enc dec)
variable {S S0:Nat→Spc}
def QN (n:Nat) (x:Rx):Prop:=(Pq n x).isSome=true
def SW (n:Nat) (x:Rx) (t:Tbk):Prop:=Pq n x=some t
noncomputable abbrev MI (n:Nat):Spc:=cv (a1 Rx) (QN n) (enc (X:=Tbk)) (SW n)
theorem Zh (n:Nat) (h1:S ax=pQ n):aN qN qd S (a1 Rx) (QN n) (enc (X:=Tbk)) (SW n):=by
 rintro x hx
 obtain⟨t,ht⟩:=Option.isSome_iff_exists.1 hx
 obtain⟨q,hq,rfl⟩:=Option.map_eq_some_iff.1 ht
 have hq0: (ve n).b ⟨[],⟨0⟩,⟨0⟩, [],false⟩ x=some q:=hq
 simp[qN,qd, -Bool.forall_bool, -Bool.exists_bool]
 refine jS (X:=Nat) [1] [] [] [] (fun _=> True) (fun b=> [(3, .bptr 6 b 0)]) (fun b=> [(6, .box b [.own 990 (.slice none 0 0), .v (.int .u64 0), .v (.int .u64 0), .own 991 (.slice none 0 0), .v (.bool false)]),(990, .row (.slice none 0 0) cT 1 []),(991, .row (.slice none 0 0) dL 1 [])]) [6,990,991] (fun _=> rfl) (by decide) ?_ ?_
 ·simp
  refine fun b=> ⟨b, .same _, .inl ?_,by simp[isNilRow],by simp[isNilRow]⟩
  simp
  exact⟨.nilown 990, .nilown 991⟩
 ·rintro b -
  have e1: (Res.row (.slice none 0 0) cT 1 []:Res)= .row (.slice none 0 0) cT 1 (([]:List (List Rng)).map enc):=rfl
  have e2: (Res.row (.slice none 0 0) dL 1 []:Res)= .row (.slice none 0 0) dL 1 (([]:List U64).map enc):=rfl
  rw[e1,e2]
  simp[h1,hq0, -List.map_nil, -Bool.forall_bool, -Bool.exists_bool]
  simp[hq0, -Bool.forall_bool, -Bool.exists_bool]
  intro w w'
  refine jS (X:=Unit) [] [] [990,991] [] (fun _=> True) (fun _=> [(2, .bptr 6 b 0)]) (fun _=> [(6, .box b [enc q.1.lvs, .v (.int .u64 q.2.first.val), .v (.int .u64 q.2.last.val),enc q.1.fol, .v (.bool q.2.nul)])]) [6] (fun _=> rfl) (by decide) ?_ ?_
  ·simp
   exact .inl ⟨jQ (l:=q.1.lvs) cT rfl,jQ (l:=q.1.fol) dL rfl⟩
  ·rintro - -
   simp
   refine dE ⟨q.1.lvs,q.2.first,q.2.last,q.1.fol,q.2.nul⟩ ?_ ht
   exact .box rfl
def OV (x:Tbk×U64×Bool):Prop:=x.1.fol.length≤100000
def OO (x:Tbk×U64×Bool) (y:U64):Prop:=y=sk x.1 x.2.1 x.2.2
noncomputable abbrev Iq:Spc:=cv (a3 Tbk U64 Bool) OV (enc (X:=U64)) OO
theorem Pf:aN eR eE S (a3 Tbk U64 Bool) OV (enc (X:=U64)) OO:=by
 rintro⟨⟨lv,fi,la,fo,nu⟩,set,beg⟩ hlen
 have hlen:fo.length≤100000:=hlen
 have hl: (fo.length:Int)≤9223372036854775807:=by omega
 cases beg
 ·simp[eR,eE,hl, -Bool.forall_bool, -Bool.exists_bool]
  refine aq (X:=U64) [1,18] [] fo.length (fun k m=> Q3 set k (fo.drop k) m=Q3 set 0 fo ⟨0⟩) (fun m=> [(7,enc m)]) (fun x=> []) ⟨0⟩ (by simp) (by simp) (by omega) (by simp) (by simp) (by simp) (by simp) (by simp) ?_ ?_
  ·rintro k m hk hm
   obtain⟨f,hf⟩: ∃f,fo[k]?=some f:=⟨_,List.getElem?_eq_getElem hk⟩
   obtain⟨_,hgf⟩:=List.getElem?_eq_some_iff.1 hf
   rw[Nc hf] at hm
   simp[hk,hf,hgf, -Bool.forall_bool, -Bool.exists_bool]
   exact⟨fun hb=> ⟨PG m f,by simpa [hb] using hm,rfl⟩,fun hb=> ⟨m,by simpa [hb] using hm,rfl⟩⟩
  ·rintro m hm
   rw[List.drop_length,Q3] at hm
   subst hm
   simp[-Bool.forall_bool, -Bool.exists_bool]
   exact dE _ (.same _) rfl
 ·simp[eR,eE,hl, -Bool.forall_bool, -Bool.exists_bool]
  exact dE _ (.same _) rfl
end Go.Gv

namespace Go.Gv
open Go.Proofs
-- regex_match while id=0: live [2:variants, 7:t, 8:set, 9:beginning, 28:] changed [8, 9] res [28]
-- regex_match range i=40 n=39 c=41 i2=69 id=2: live [2:variants, 7:t, 8:set, 9:beginning, 12:next, 28:, 38:] changed [8] res [28]
-- regex_match range i=49 n=48 c=50 i2=68 id=4: live [2:variants, 7:t, 8:set, 9:beginning, 12:next, 14:v, 28:, 38:, 39:, 40:, 47:] changed [8] res [28]
def nt:CC:=oX [oB 3 (.box aA true (oT 0)),oB 6 (.mv (.const ob))] [1,2,3] [] (.seq (oX [oD 17 5 3,oZ 18 cP [oT 17],oB 19 (.eql true false [.int] (oT 18) (oN 0)),oA 20 19,oI 21 20 (.mv (oT 1)),oI 22 20 (.call cX [oT 21]),oI 23 20 (.not (oT 22)),oB 24 (.pick (oT 20) (.const (.bool true)) (oT 23))] [1,2,3,24] [] (.ite (oT 24) (oX [
 oB 6 (.mv (.const ob))] [6] [] (.ret)) (.skip))) (.keep [1,2,3] [] (oX [oD 25 5 3,oZ 26 lR [oT 25],oA 7 26] [1,2,7] [] (oX [oB 8 (.mv (.const (.int .u64 0))),oB 9 (.mv (.const (.bool true)))] [1,2,7,8,9] [] (.seq (oX [oA 27 1,oB 28 (.srange (oT 27))] [2,7,8,9,28] [28] (.block 0 (.loop 1 (oX [oB 29 (.snext (oT 28)),
 oB 30 (.ext (oT 29) 0)] [2,7,8,9,28,29,30] [28] (.seq (.ite (oT 30) (.skip) (.exit 0)) (.keep [2,7,8,9,28,29] [28] (.block 1 (oX [oB 31 (.ext (oT 29) 2),oA 11 31] [2,7,8,9,11,28] [28] (oX [oA 32 7,oA 33 8,oA 34 9,oZ 35 dU [oT 32,oT 33,oT 34],oA 12 35] [2,7,11,12,28] [28] (oX [oB 8 (.mv (.const (.int .u64 0))),oB 9 (.mv (.const ob))] [2,7,8,9,11,12,28] [28] (.seq (oX [
 oA 36 2,oA 37 11,oB 38 (.callv (oT 36) [oT 37]),oB 39 (.len (oT 38)),oB 40 (.mv (oN 0))] [2,7,8,9,12,28,38,39,40] [28] (aw 2 40 39 41 3 (oX [oB 42 (.iaddr 1 (oT 38) (oT 40)),oC 43 1 42,oA 14 43] [2,7,8,9,12,14,28,38,39,40] [28] (oX [oA 44 7,oG 45 44,oE 46 0 45,oC 47 1 46,oB 48 (.len (oT 47)),
 oB 49 (.mv (oN 0))] [2,7,8,9,12,14,28,38,39,40,47,48,49] [28] (aw 4 49 48 50 5 (oX [oA 51 49,oB 52 (.iaddr 1 (oT 47) (oT 49)),oC 53 1 52,oA 15 51,oA 16 53] [2,7,8,9,12,14,15,16,28,38,39,40,47,48,49] [28] (oX [oA 54 12,oA 55 15,oB 56 (.arith .shr (oT 54) (oT 55)),oB 57 (.arith .and (oT 56) (.const (.int .u64 1))),oB 58 (.eql false false [.int] (oT 57) (.const (.int .u64 1))),
 oA 59 58,oH 60 59 (.mv (oT 16)),oH 61 59 (.mv (oT 14)),oH 62 59 (.call fm [oT 60,oT 61]),oB 63 (.pick (oT 59) (oT 62) (.const ob))] [2,7,8,9,12,14,15,28,38,39,40,47,48,49,63] [28] (.ite (oT 63) (.reg [oA 64 8,oA 65 15,oB 66 (.arith .shl (.const (.int .u64 1)) (oT 65)),oB 67 (.arith .or (oT 64) (oT 66)),oA 8 67]) (.skip)))) 68))) 69)) (.keep [2,7,8,9,28] [28] (oX [oA 70 8,
 oB 71 (.eql false false [.int] (oT 70) (.const (.int .u64 0)))] [2,7,8,9,28,71] [28] (.ite (oT 71) (oX [oB 6 (.mv (.const ob))] [6] [] (.ret)) (.skip))))))))))))))) (.keep [7,8,9] [] (oX [oA 72 9,oA 73 72,oH 74 73 (.mv (oT 7)),oH 75 73 (.nilck (oT 74)),oH 76 73 (.faddr 4 (oT 75)),oH 77 73 (.load false 1 (oT 76)),oB 78 (.pick (oT 73) (oT 77) (.const ob)),oA 79 78,oI 80 79 (.mv (oT 8)),
 oI 81 79 (.mv (oT 7)),oI 82 79 (.nilck (oT 81)),oI 83 79 (.faddr 2 (oT 82)),oI 84 79 (.load false 1 (oT 83)),oI 85 79 (.arith .and (oT 80) (oT 84)),oI 86 79 (.eql true false [.int] (oT 85) (.const (.int .u64 0))),oB 87 (.pick (oT 79) (.const (.bool true)) (oT 86)),oA 6 87] [6] [] (.ret))))))))
def mY:List au:= [.tmp 6]
def A4:List Nat:= [3]
theorem AC:ay Tryz.prog d5 A4 nt mY 88:=ap mixed (by kernel_rfl)
def ny:CC:=oX [oB 2 (.box aA true (oT 0)),oB 4 (.mv (.const ob))] [1,2] [] (oX [oD 5 5 2,oA 6 1,oZ 7 d5 [oT 5,oT 6,.func cp],oA 4 7] [4] [] (.ret))
def m0:List au:= [.tmp 4]
def A6:List Nat:= [2]
theorem AE:ay Tryz.prog i9 A6 ny m0 8:=ap mixed (by kernel_rfl)
def li:CC:=oX [oB 2 (.mv (.const on))] [0] [] (oX [oA 3 0,oB 4 (.bslice mT 1 [oT 3]),oA 2 4] [2] [] (.ret))
def kU:List au:= [.tmp 2]
def xI:List Nat:= []
theorem xt:ay Tryz.prog cp xI li kU 5:=ap mixed (by kernel_rfl)
def jz:CC:=oX [oB 2 (.box aA true (oT 0)),oB 4 (.mv (.const ob))] [1,2] [] (oX [oD 5 5 2,oA 6 1,oZ 7 d5 [oT 5,oT 6,.func bW],oA 4 7] [4] [] (.ret))
def jp:List au:= [.tmp 4]
def uH:List Nat:= [2]
theorem ug:ay Tryz.prog eH uH jz jp 8:=ap mixed (by kernel_rfl)
-- regex_variants while id=0: live [3:l, 4:folded, 13:] changed [3] res [13, 40]
-- regex_variants range i=24 n=23 c=25 i2=41 id=2: live [3:l, 4:folded, 13:, 22:] changed [3] res [13, 40]
def kC:CC:=oX [oB 2 (.mv (.const on))] [0] [] (oX [oB 3 (.mv (.const on))] [0,3] [40] (oX [oA 9 0,oB 10 (.rstr (oT 9)),oZ 11 d7 [oT 10],oA 4 11] [3,4] [40] (.seq (oX [oA 12 4,oB 13 (.srange (oT 12))] [3,4,13] [13,40] (.block 0 (.loop 1 (oX [oB 14 (.snext (oT 13)),oB 15 (.ext (oT 14) 0)] [3,4,13,14,15] [13,40] (.seq (.ite (oT 15) (.skip) (.exit 0))
 (.keep [3,4,13,14] [13,40] (.block 1 (oX [oB 16 (.ext (oT 14) 2),oA 6 16] [3,4,6,13] [13,40] (oX [oA 17 6,oA 18 6,oB 19 (.arith .sub (oT 18) (.const (.int .i32 32))),oA 20 6,oB 21 (.arith .sub (oT 20) (.const (.int .i32 80))),oB 22 (.bslice mT 1 [oT 17,oT 19,oT 21]),oB 23 (.len (oT 22)),oB 24 (.mv (oN 0))] [3,4,13,22,23,24] [13,40] (aw 2 24 23 25 3 (oX [
 oB 26 (.iaddr 1 (oT 22) (oT 24)),oC 27 1 26,oA 8 27] [3,4,8,13,22,23,24] [13,40] (oX [oA 28 8,oB 29 (.cmp .geq (oT 28) (.const (.int .i32 0))),oA 30 29,oH 31 30 (.mv (oT 8)),oH 32 30 (.rstr (oT 31)),oH 33 30 (.call d7 [oT 32]),oH 34 30 (.mv (oT 4)),oH 35 30 (.eql false false [.str] (oT 33) (oT 34)),
 oB 36 (.pick (oT 30) (oT 35) (.const ob))] [3,4,8,13,22,23,24,36] [13,40] (.ite (oT 36) (.reg [oA 37 3,oA 38 8,oB 39 (.bslice mT 1 [oT 38]),oB 40 (.append none mT 1 4 (oT 37) (oT 39)),oA 3 40]) (.skip)))) 41)))))))))) (.keep [3] [40] (oX [oA 42 3,oA 2 42] [2] [40] (.ret))))))
def jV:List au:= [.tmp 2]
def wi:List Nat:= []
theorem vQ:ay Tryz.prog bW wi kC jV 43:=ap mixed (by kernel_rfl)
end Go.Gv

namespace Go.Gv
open Cod (enc dec)
variable {S S0:Nat→Spc}
def aMt:gK (Rx×B×Bool):=⟨fun ds=> match ds with
 | [a,b, .clo f []]=> if f=cp then(dec a).bind fun x=> (dec b).map fun s=> (x,s,false) else if f=bW then(dec a).bind fun x=> (dec b).map fun s=> (x,s,true) else none
 | _=> none,fun x=> [enc x.1,enc x.2.1, .clo (if x.2.2=true then bW else cp) []],fun ds x h=> by
 split at h
 ·rename_i a b f
  split at h
  ·rename_i e
   simp only[Option.bind_eq_some_iff,Option.map_eq_some_iff] at h
   obtain⟨x,hx,s,hs,rfl⟩:=h
   subst e
   exact .cons (Cod.le _ _ hx) (.cons (Cod.le _ _ hs) (.cons (.same _) .nil))
  ·split at h
   ·rename_i e
    simp only[Option.bind_eq_some_iff,Option.map_eq_some_iff] at h
    obtain⟨x,hx,s,hs,rfl⟩:=h
    subst e
    exact .cons (Cod.le _ _ hx) (.cons (Cod.le _ _ hs) (.cons (.same _) .nil))
   ·cases h
 ·cases h⟩
@[simp] theorem Wf (x:Rx) (s:B) (f:Bool):aMt.view (x,s,f)= [enc x,enc s, .clo (if f=true then bW else cp) []]:=id rfl
@[simp] theorem Wh (a b:D):aMt.dec [a,b, .clo cp []]=(dec a).bind fun x=> (dec b).map fun s=> (x,s,false):=id rfl
@[simp] theorem Wg (a b:D):aMt.dec [a,b, .clo bW []]=(dec a).bind fun x=> (dec b).map fun s=> (x,s,true):=id rfl
abbrev C1:Spc:=cv (a1 Rx) (fun x=> tY 50 x=true) (enc (X:=Int)) fun x y=> y=0
abbrev Gd:Spc:=cv (a2 (List Rng) I32) (fun _=> True) (enc (X:=Bool)) fun x y=> y=Fd x.1 x.2.val
abbrev s_cpVal:Spc:=cv (a1 B) (fun s=> qR s=true∧s.size≤1000) (enc (X:=Bool)) fun _ y=> y=true
abbrev MJ:Spc:=cv (a1 I32) (fun c=> 0≤c.val∧c.val < 128) (enc (X:=List I32)) fun c y=> y=HY false c
abbrev MH:Spc:=cv (a1 I32) (fun c=> 0≤c.val∧c.val < 128) (enc (X:=List I32)) fun c y=> y=HY true c
def QL (x:Rx×B×Bool):Prop:= ∃y,uz x.1 x.2.1 x.2.2=some y
def SU (x:Rx×B×Bool) (y:Bool):Prop:=uz x.1 x.2.1 x.2.2=some y
abbrev Ge:Spc:=cv aMt QL (enc (X:=Bool)) SU
theorem DJ {s:B} (h:qR s=true) {p:Nat} (hp:p < s.size): ∃c:UInt8,s.data.toList[p]?=some c∧c.toNat < 128∧Utf8.decode s p=(c.toNat,1):=by
 have hl:p < s.data.toList.length:=by rw[Array.length_toList];exact hp
 refine⟨s.data.toList[p],List.getElem?_eq_getElem hl,?_,?_⟩
 ·have:=List.all_eq_true.1 h _ (List.getElem_mem hl)
  simpa using this
 ·have h1: (s[p]'hp).toNat < 128:=by
   have:=List.all_eq_true.1 h _ (List.getElem_mem hl)
   have h2:s.data[p].toNat < 128:=by simpa using this
   exact h2
  have:=Go.decode_ascii s p hp h1
  rw[this]
  have:s[p]=s.data.toList[p]:=by
   rw[Array.getElem_toList]
   rfl
  rw[this]
set_option maxHeartbeats 2000000 in
theorem B3 (h1:S cP=C1) (h2:S cX=s_cpVal) (h3:S lR=MI 50) (h4:S dU=Iq) (h5:S fm=Gd) (h6:S cp=MJ) (h7:S bW=MH):
 aN nt mY S aMt QL (enc (X:=Bool)) SU:=by
 rintro⟨x,s,f⟩ ⟨y,hy⟩
 have hy0:uz x s f=some y:=hy
 unfold uz at hy0
 split at hy0
 rotate_left
 ·cases hy0
 rename_i hc
 obtain⟨hv,ha,hsz⟩:=hc
 obtain⟨t,ht,hy1⟩:=Option.bind_eq_some_iff.1 hy0
 split at hy1
 rotate_left
 ·cases hy1
 rename_i hok
 have hres:UY t (HY f) (Qx s.data.toList) ⟨0⟩ true=y:=Option.some.inj hy1
 obtain⟨hlv,hfo⟩:=pn (t:=t) (by rw[hok];simp)
 have hOf:SW 50 x t:=ht
 have hPOf:QN 50 x:=by unfold QN;rw[ht];rfl
 simp[nt,mY,h1,h2,h3,hv,ha,hsz,hPOf, -Bool.forall_bool, -Bool.exists_bool]
 intro t' ht' b
 obtain rfl:t=t':=by
  have h:Pq 50 x=some t':=ht'
  rw[ht] at h
  exact Option.some.inj h
 refine bq (X:=U64×Bool×Nat) [2,7,28] [] (fun z=> UY t (HY f) (Qx (s.data.toList.drop z.2.2)) z.1 z.2.1=y∧z.2.2≤s.size) (fun z=> [(8,enc z.1),(9,enc z.2.1)]) (fun z=> [(28, .iter b s z.2.2)]) (fun z=> s.size -z.2.2) (⟨0⟩,true,0) ⟨by simpa using hres,Nat.zero_le _⟩ (by simp) (by simp) ?_
 rintro⟨set,beg,pos⟩ ⟨hm,hp⟩
 simp only at hm hp
 by_cases hlt:pos < s.size
 ·obtain⟨c,hc,hc128,hdec⟩:=DJ ha hlt
  rw[nq hc] at hm
  have hm: (if(Pk (sk t set beg) t.lvs (HY f ⟨(c.toNat:Int)⟩) ⟨0⟩).val=0 then false else UY t (HY f) (Qx (s.data.toList.drop (pos+1))) (Pk (sk t set beg) t.lvs (HY f ⟨(c.toNat:Int)⟩) ⟨0⟩) false)=y:=hm
  have hN:OV (t,set,beg):=by show t.fol.length≤100000;omega
  have hq:OO (t,set,beg) (sk t set beg):=rfl
  have c0: (0:Int)≤(c.toNat:Int):=by omega
  have c1: (c.toNat:Int) < 128:=by omega
  have hvl: ((HY f ⟨(c.toNat:Int)⟩).length:Int)≤9223372036854775807:=by
   have: (HY f ⟨(c.toNat:Int)⟩).length≤3:=by
    unfold HY
    split
    ·unfold Bl
     exact Nat.le_trans (List.length_filter_le _ _) (by simp)
    ·simp
   omega
  have h8:S (if f=true then bW else cp)=cv (a1 I32) (fun c=> 0≤c.val∧c.val < 128) (enc (X:=List I32)) fun c y=> y=HY f c:=by
   cases f
   ·exact h6
   ·exact h7
  simp[hlt,hdec,h4,hN,h8,c0,c1,hvl, -Bool.forall_bool, -Bool.exists_bool]
  intro nx hnx
  obtain rfl:nx=sk t set beg:=hnx
  generalize sk t set beg=nx at hm
  generalize HY f ⟨(c.toNat:Int)⟩=vs at hm hvl
  refine aq (X:=U64) [2,7,9,12,28,38] [28] vs.length (fun k m=> Pk nx t.lvs (vs.drop k) m=Pk nx t.lvs vs ⟨0⟩) (fun m=> [(8,enc m)]) (fun _=> []) ⟨0⟩ (by simp) (by simp) (by omega) (by simp) (by simp) (by simp) (by simp) (by simp) ?_ ?_
  ·rintro k m hk hm2
   obtain⟨v,hvk⟩:=Fk hk
   obtain⟨_,hgv⟩:=List.getElem?_eq_some_iff.1 hvk
   rw[nq hvk,Pk] at hm2
   have hlv': (t.lvs.length:Int)≤9223372036854775807:=by omega
   simp[hk,hvk,hgv,hlv', -Bool.forall_bool, -Bool.exists_bool]
   refine aq (X:=U64) [2,7,9,12,14,28,38,39,40,47] [28] t.lvs.length (fun k m'=> TF nx v k (t.lvs.drop k) m'=TF nx v 0 t.lvs m) (fun m=> [(8,enc m)]) (fun _=> []) m (by simp) (by simp) (by omega) (by simp) (by simp) (by simp) (by simp) (by simp) ?_ ?_
   ·rintro j m' hj hm3
    obtain⟨lf,hlf⟩:=Fk hj
    obtain⟨_,hgl⟩:=List.getElem?_eq_some_iff.1 hlf
    rw[nq hlf,TF] at hm3
    simp[hj,hlf,hgl,h5, -Bool.forall_bool, -Bool.exists_bool]
    refine⟨fun hb=> ⟨fun hc=> ⟨_,by rw[if_pos (by simp[hb,hc])] at hm3;exact hm3,rfl⟩,fun hc=> ⟨m',by rw[if_neg (by simp[hc])] at hm3;exact hm3,rfl⟩⟩,fun hb=> ⟨m',by rw[if_neg (by simp[hb])] at hm3;exact hm3,rfl⟩⟩
   ·rintro m' hm3
    rw[List.drop_length,TF] at hm3
    subst hm3
    simp[-Bool.forall_bool, -Bool.exists_bool]
    exact⟨_,hm2,rfl⟩
  ·rintro m hm2
   rw[List.drop_length,Pk] at hm2
   subst hm2
   simp[-Bool.forall_bool, -Bool.exists_bool]
   refine⟨fun h0=> ?_,fun h0=> ?_⟩
   ·rw[if_pos h0] at hm
    subst hm
    exact hy
   ·rw[if_neg h0] at hm
    exact⟨_,false,pos+1,⟨hm,by omega⟩,⟨⟨rfl,rfl⟩, .inl rfl⟩,by omega⟩
 ·have hpe:pos=s.size:=by omega
  subst hpe
  rw[List.drop_eq_nil_of_le (by rw[Array.length_toList];exact Nat.le_refl _)] at hm
  have hm: ((beg && t.nul) || decide (Js .u64 set.val t.la.val≠0))=y:=hm
  simp[-Bool.forall_bool, -Bool.exists_bool]
  have hQ: ∀w,w=y→SU (x,s,f) w:=fun w e=> by subst e;exact hy
  refine⟨fun hb=> ⟨fun hn=> hQ _ ?_,fun hn=> hQ _ ?_⟩,fun hb=> hQ _ ?_⟩
  all_goals
   subst hb
   first | subst hn | skip
   rw[←hm]
   simp[*]
theorem yy:aN li kU S (a1 I32) (fun c=> 0≤c.val∧c.val < 128) (enc (X:=List I32)) fun c y=> y=HY false c:=by
 rintro⟨c⟩ ⟨c0,c1⟩
 simp[li,kU, -Bool.forall_bool, -Bool.exists_bool]
 exact dE [⟨c⟩] (by simp) rfl
def HJ (f:Bool) (x:Rx×B):Prop:= ∃y,uz x.1 x.2 f=some y
def OP (f:Bool) (x:Rx×B) (y:Bool):Prop:=uz x.1 x.2 f=some y
abbrev C3 (f:Bool):Spc:=cv (a2 Rx B) (HJ f) (enc (X:=Bool)) (OP f)
theorem B6 (h1:S d5=Ge):aN ny m0 S (a2 Rx B) (HJ false) (enc (X:=Bool)) (OP false):=by
 rintro⟨x,s⟩ hp
 have hp':QL (x,s,false):=hp
 simp[ny,m0,h1,hp', -Bool.forall_bool, -Bool.exists_bool]
 exact fun y hy=> hy
theorem vk (h1:S d5=Ge):aN jz jp S (a2 Rx B) (HJ true) (enc (X:=Bool)) (OP true):=by
 rintro⟨x,s⟩ hp
 have hp':QL (x,s,true):=hp
 simp[jz,jp,h1,hp', -Bool.forall_bool, -Bool.exists_bool]
 exact fun y hy=> hy
end Go.Gv
