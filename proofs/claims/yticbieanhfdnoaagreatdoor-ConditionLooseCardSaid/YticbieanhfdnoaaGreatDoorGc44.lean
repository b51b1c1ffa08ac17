/- A part of the framework and of the walks: C64 T39 T37 T38 W172. -/
import Derived.Test.YticbieanhfdnoaaGreatDoorGc21
import Derived.Test.YticbieanhfdnoaaGreatDoorGc30
import Derived.Test.YticbieanhfdnoaaGreatDoorGc20
import Derived.Test.YticbieanhfdnoaaGreatDoorGc36
set_option linter.unusedSimpArgs false
set_option linter.unusedVariables false
set_option linter.unusedSectionVars false
set_option maxRecDepth 100000

namespace Go.Gv
open Go.Proofs
def iV:CC:=oX [oB 1 (.box aU true (oT 0)),oB 2 (.mv (.const on))] [1] [3,990] (.seq (oX [oD 4 7 1,oZ 5 bu [oT 4]] [1,5] [3,990] (.ite (oT 5) (oX [oB 2 (.mv (.const on))] [2] [3,990] (.ret)) (.skip))) (.keep [1] [3,990] (eC 9 (.reg [oB 3 (.alloc cZ [on])]) (.keep [1,3] [990,3] (oX [oD 6 7 1,oB 7 (.clo bz [oT 3]),
 oZ 8 aC [oT 6,oT 7]] [3] [990,3] (oX [oC 9 1 3,oA 2 9] [2] [3,990] (.ret)))))))
def iL:List au:= [.tmp 2]
def tD:List Nat:= [1]
theorem tv:ay Tryz.prog dr tD iV iL 10:=ap mixed (by kernel_rfl)
def ep:CC:=oX [oB 2 (.box aU true (oT 0)),oB 3 (.mv (oN 0))] [1,2] [0,990] (.seq (oX [oE 4 0 2,oC 5 1 4,oB 6 (.eql false false [.int] (oT 5) (oN 4)),oA 7 6,oH 8 7 (.load false 1 (oT 1)),oH 9 7 (.faddr 4 (oT 2)),oH 10 7 (.load false 1 (oT 9)),oH 11 7 (.call aL [oT 8,oT 10]),oH 12 7 (.not (oT 11)),
 oB 13 (.pick (oT 7) (oT 12) (.const ob))] [1,2,13] [0,990] (.ite (oT 13) (.reg [oC 14 1 1,oE 15 4 2,oC 16 1 15,oB 17 (.bslice ai 1 [oT 16]),oB 18 (.append none ai 1 16 (oT 14) (oT 17)),oF 1 1 18]) (.skip))) (.keep [] [0,990] (oX [oB 3 (.mv (oN 0))] [3] [0,990] (.ret))))
def eo:List au:= [.tmp 3]
def rv:List Nat:= [2]
theorem rj:ay Tryz.prog bz rv ep eo 19:=ap mixed (by kernel_rfl)
def jF:CC:=oX [oB 1 (.box aU true (oT 0)),oB 2 (.alloc aU [oi,oe,oe,oe,oe,ob,on])] [1,2] [2] (.seq (oX [oD 3 7 1,oZ 4 bu [oT 3]] [1,2,4] [2] (.ite (oT 4) (oX [oB 5 (.build [oi,oe,oe,oe,oe,ob,on] []),oF 7 2 5] [2] [2] (.ret)) (.skip))) (.keep [1,2] [2] (oX [oD 6 7 1,oZ 7 bj [oT 6],oF 7 2 7] [2] [2] (.ret))))
def jv:List au:= [.cell 2 true 7]
def uU:List Nat:= [1]
theorem uv:ay Tryz.prog eO uU jF jv 8:=ap mixed (by kernel_rfl)
-- law22_ConditionLoose range i=34 n=33 c=35 i2=40 id=0: live [5:t, 6:c, 7:x, 10:in, 32:] changed [] res [6, 7, 31]
-- law22_ConditionLoose range i=44 n=43 c=45 i2=77 id=2: live [5:t, 6:c, 7:x, 10:in] changed [] res [6, 7, 31]
def fB:CC:=oX [oB 4 (.mv (.const ob))] [0,1] [] (oX [oA 15 1,oZ 16 tg [oT 15],oA 5 16] [0,5] [] (oX [oA 17 0,oZ 18 tg [oT 17],oZ 19 gj [oT 18,oN 5],oA 20 5,oZ 21 ft [],oZ 22 jc [oT 20,oN 3,oT 21],oB 6 (.alloc aY [on,on,on,on,on,on,on]),oB 7 (.alloc aU [oi,oe,oe,oe,oe,ob,on]),oF 7 6 19,
 oF 7 7 22] [5,6,7] [6,7] (oX [oD 24 7 6,oD 25 7 7,oZ 26 bO [oT 24,oT 25],oA 23 26,oB 27 (.ext (oT 23) 0),oB 28 (.ext (oT 23) 1),oA 8 27,oA 9 28] [5,6,7,8,9] [6,7] (.seq (oX [oA 29 9,oB 30 (.eql true false [.int] (oT 29) (oN 0))] [5,6,7,8,30] [6,7] (.ite (oT 30) (oX [oB 4 (.mv (.const ob))] [4] [] (.ret)) (.skip))) (.keep [5,6,7,8] [6,7] (oX [oB 31 (.m .mk []),
 oA 10 31] [5,6,7,8,10] [6,7,31] (.seq (oX [oA 32 8,oB 33 (.len (oT 32)),oB 34 (.mv (oN 0))] [5,6,7,10,32,33,34] [6,7,31] (aw 0 34 33 35 1 (oX [oB 36 (.iaddr 1 (oT 32) (oT 34)),oC 37 1 36,oA 12 37] [5,6,7,10,12,32,33,34] [6,7,31] (.reg [oA 38 10,oA 39 12,.op none none (.m (.upd false [.int .i64]) [oT 38,oT 39,.const (.bool true)])])) 40)) (.keep [5,6,7,10] [6,7,31] (.seq (oX [
 oE 41 1 6,oC 42 1 41,oB 43 (.len (oT 42)),oB 44 (.mv (oN 0))] [5,6,7,10,43,44] [6,7,31] (aw 2 44 43 45 3 (oX [oA 46 44,oA 13 46] [5,6,7,10,13,43,44] [6,7,31] (.seq (.regd [oD 47 7 6,oD 48 7 7,oA 49 13,oZ 50 ft [],oA 51 5,oD 52 7 6,oZ 53 je [oT 51,oT 52]] [oZ 54 eP [oT 47,oT 48,oT 49,oT 50,oT 53],oA 14 54])
 (.keep [5,6,7,10,13,14,43,44] [6,7,31] (oX [oA 55 14,oA 56 55,oH 57 56 (.mv (oT 10)),oH 58 56 (.mv (oT 13)),oH 59 56 (.m (.look false false false [.int .i64] [ob]) [oT 57,oT 58]),oH 60 56 (.not (oT 59)),oB 61 (.pick (oT 56) (oT 60) (.const ob)),oA 62 61,oI 63 62 (.mv (oT 10)),oI 64 62 (.mv (oT 13)),oI 65 62 (.m (.look false false false [.int .i64] [ob]) [oT 63,oT 64]),
 oI 66 62 (.mv (oT 65)),oH 67 66 (.mv (oT 14)),oH 68 66 (.not (oT 67)),oI 69 62 (.pick (oT 66) (oT 68) (.const ob)),oI 70 62 (.mv (oT 69)),oH 71 70 (.load true 7 (oT 7)),oH 72 70 (.call dr [oT 71]),oH 73 70 (.len (oT 72)),oH 74 70 (.eql false false [.int] (oT 73) (oN 0)),oI 75 62 (.pick (oT 70) (oT 74) (.const ob)),
 oB 76 (.pick (oT 62) (.const (.bool true)) (oT 75))] [5,6,7,10,43,44,76] [6,7,31] (.ite (oT 76) (oX [oB 4 (.mv (.const ob))] [4] [] (.ret)) (.skip)))))) 77)) (.keep [7] [7] (oX [oD 78 7 7,oZ 79 eO [oT 78],oZ 80 dr [oT 79],oB 81 (.len (oT 80)),oB 82 (.eql false false [.int] (oT 81) (oN 0)),oA 83 82,oH 84 83 (.call jd []),
 oB 85 (.pick (oT 83) (oT 84) (.const ob)),oA 4 85] [4] [] (.ret))))))))))))
def fg:List au:= [.tmp 4]
def pw:List Nat:= []
theorem pk:ay Tryz.prog kz pw fB fg 86:=ap mixed (by kernel_rfl)
-- condition_walk range i=18 n=17 c=19 i2=28 id=0: live [1:f, 16:] changed [] res []
def gc:CC:=oX [oB 2 (.box aU true (oT 0)),oB 4 (.mv (oN 0))] [1,2] [0,990] (.seq (oX [oA 9 1,oD 10 7 2,oB 11 (.callv (oT 9) [oT 10]),oA 5 11] [1,2,5] [0,990] (oX [oA 12 5,oB 13 (.eql true false [.int] (oT 12) (oN 0))] [1,2,5,13] [0,990] (.ite (oT 13) (oX [oA 14 5,oA 4 14] [4] [0,990] (.ret)) (.skip)))) (.keep [1,2] [0,990] (.seq (oX [oE 15 6 2,oC 16 1 15,
 oB 17 (.len (oT 16)),oB 18 (.mv (oN 0))] [1,16,17,18] [0,990] (aw 0 18 17 19 1 (oX [oB 20 (.iaddr 7 (oT 16) (oT 18)),oD 21 7 20,oB 7 (.alloc aU [oi,oe,oe,oe,oe,ob,on]),oF 7 7 21] [1,7,16,17,18] [0,990,7] (oX [oD 22 7 7,oA 23 1,oZ 24 aC [oT 22,oT 23],oA 8 24] [1,8,16,17,18] [0,990] (oX [oA 25 8,
 oB 26 (.eql true false [.int] (oT 25) (oN 0))] [1,8,16,17,18,26] [0,990] (.ite (oT 26) (oX [oA 27 8,oA 4 27] [4] [0,990] (.ret)) (.skip))))) 28)) (.keep [] [0,990] (oX [oB 4 (.mv (oN 0))] [4] [0,990] (.ret))))))
def fS:List au:= [.tmp 4]
def uL:List Nat:= [2]
theorem uk:ay Tryz.prog aC uL gc fS 29:=ap mixed (by kernel_rfl)
end Go.Gv

namespace Go.Gv
open Cod (enc dec)
structure JE (Z:Type) where
 dec:Nat→Nat→List D→Option Z
 view:Nat→Z→List D
 le: ∀id b ds z,dec id b ds=some z→LeL ds (view b z)
section
variable {X Y Z:Type}
def V9 (B:vd X) (A:JE Z) (er:Y→D) (pre:X→Z→Prop) (post:X→Z→X→Y→Prop):PT:=fun d ds H K=> ∃id b x z,A.dec id b ds=some z∧H id=some (.box b (B.ce x))∧(∀p∈B.hp x,H p.1=some p.2)∧id∉B.ids∧pre x z∧
 ∀x' y,post x z x' y→K (er y) (aj (eT (B.hp x') H) id (some (.box b (B.ce x'))))
theorem Ov (B:vd X) (A:JE Z) (er:Y→D) (pre:X→Z→Prop) (post:X→Z→X→Y→Prop):sW (V9 B A er pre post):=fun d ds H K K' hk ⟨id,b,x,z,h2,h3,h4,h5,h6,h7⟩=> ⟨id,b,x,z,h2,h3,h4,h5,h6,fun x' y hp=> hk _ _ (h7 x' y hp)⟩
def qdZ (B:vd X) (A:JE Z) (er:Y→D) (pre:X→Z→Prop) (post:X→Z→X→Y→Prop):Spc:= .gen _ (Ov B A er pre post)
def Ju (cc:CC) (rs:List au) (S:Nat→Spc) (B:vd X) (A:JE Z) (er:Y→D) (pre:X→Z→Prop) (post:X→Z→X→Y→Prop):Prop:=
 ∀b x z,pre x z→vc S cc (oJ rs fun r H'=> yx B er b (post x z) r H') (dC (A.view b z)) (aj (eT (B.hp x) df) 0 (some (.box b (B.ce x))))
variable {P:Program} {S:Nat→Spc} {f:Nat} {im:List Nat} {cc:CC} {rs:List au} {N:Nat}
theorem zL {B:vd X} {A:JE Z} {er:Y→D} {pre:X→Z→Prop} {post:X→Z→X→Y→Prop} (h1i:0∉B.ids) (hS: ∀f,Tri P f (S f).pt) (h:ay P f im cc rs N) (hN: ∀b z,(A.view b z).length≤N) (hw:Ju cc rs S B A er pre post):Tri P f (qdZ B A er pre post).pt:=by
 obtain⟨qn,enter,fn,code,h1,h2,h3,h4,h5⟩:=h
 refine mM hS qn h1 h2 enter h3 h4 h5 ?_
 rintro ds H d K ⟨id,b,x,z,hd,hid,hhp,hni,hp,hK⟩
 have hl:=A.le id b ds z hd
 have h0: ∀i r,aj (eT (B.hp x) df) 0 (some (.box b (B.ce x))) i=some r→i=0∧r= .box b (B.ce x)∨i≠0∧(i,r) ∈B.hp x:=by
  intro i r h
  by_cases e:i=0
  ·subst e
   simp only[aj,if_true] at h
   cases h
   exact .inl ⟨rfl,rfl⟩
  ·simp only[aj,e,if_false] at h
   exact .inr ⟨e,BR h⟩
 have hk: ∀ {x:X} {i:Nat} {r:Res},(i,r) ∈B.hp x→i∈B.ids:=by
  intro x i r h
  rw[←B.keys x]
  exact List.mem_map.2 ⟨_,h,rfl⟩
 refine⟨by rw[hl.1];exact hN b z,A.view b z,aj (eT (B.hp x) df) 0 (some (.box b (B.ce x))),fun i=> if i=0 then id else i,hl,fun i r h=> ?_,fun i j r s h h' e=> ?_,_,hw b x z hp,?_⟩
 ·rcases h0 i r h with⟨rfl,rfl⟩ | ⟨e,hm⟩
  ·exact hid
  ·simp only[e,if_false]
   exact hhp _ hm
 ·rcases h0 i r h with⟨rfl,rfl⟩ | ⟨e1,hm⟩
  ·rcases h0 j s h' with⟨rfl,rfl⟩ | ⟨e2,hm2⟩
   ·rfl
   ·simp only[e2,if_true,if_false] at e
    subst e
    exact absurd (hk hm2) hni
  ·rcases h0 j s h' with⟨rfl,rfl⟩ | ⟨e2,hm2⟩
   ·simp only[e1,if_true,if_false] at e
    subst e
    exact absurd (hk hm) hni
   ·simpa only[e1,e2,if_false] using e
 ·rintro r H' ⟨x',y,hfr,hj,hhp',hpost⟩
  refine⟨er y,fun i=> if i=0∨i∈B.ids then none else H' i,aj (eT (B.hp x') H) id (some (.box b (B.ce x'))),fun i=> if i=id then some 0 else if i∈B.ids then some i else none,hfr,fun j q h=> ?_,hK x' y hpost,fun i s hi=> ?_,fun i j' k s q hi hj' e1 e2=> ?_⟩
  ·by_cases e:j=0∨j∈B.ids
   ·simp[e] at h
   ·simp only[e,if_false] at h
    refine⟨h,fun i hh=> e ?_⟩
    by_cases e1:i=id
    ·simp only[e1,if_true] at hh
     cases hh
     exact .inl rfl
    ·simp only[e1,if_false] at hh
     by_cases e2:i∈B.ids
     ·simp only[e2,if_true] at hh
      cases hh
      exact .inr e2
     ·simp[e2] at hh
  ·by_cases e:i=id
   ·subst e
    simp only[aj,if_true] at hi
    cases hi
    simpa using hj
   ·simp only[aj,e,if_false] at hi ⊢
    by_cases e2:i∈B.ids
    ·simp only[e2,if_true]
     exact hhp' _ (BS (by rw[B.keys];exact e2) hi)
    ·simp only[e2,if_false]
     rw[BQ (by rw[B.keys];exact e2)] at hi
     refine⟨hi,fun k q h he=> ?_⟩
     rcases h0 k q h with⟨rfl,rfl⟩ | ⟨e3,hm⟩
     ·simp only[if_true] at he
      exact e he.symm
     ·simp only[e3,if_false] at he
      subst he
      exact e2 (hk hm)
  ·by_cases c1:i=id
   ·by_cases c2:j'=id
    ·exact c1.trans c2.symm
    ·simp only[c1,if_true] at e1
     cases e1
     simp only[c2,if_false] at e2
     by_cases c3:j'∈B.ids
     ·simp only[c3,if_true] at e2
      cases e2
      exact absurd c3 h1i
     ·simp[c3] at e2
   ·simp only[c1,if_false] at e1
    by_cases c3:i∈B.ids
    ·simp only[c3,if_true] at e1
     cases e1
     by_cases c2:j'=id
     ·simp only[c2,if_true] at e2
      cases e2
      exact absurd c3 h1i
     ·simp only[c2,if_false] at e2
      by_cases c4:j'∈B.ids
      ·simp only[c4,if_true] at e2
       cases e2
       rfl
      ·simp[c4] at e2
    ·simp[c3] at e1
end
end Go.Gv

namespace Go.Gv
open Cod (enc dec)
section
variable {S:Nat→Spc} {σ:Sg} {H Hr:aa} {K:D→aa→Prop}
def R7 (dst:Option Nat) (H:aa) (K:D→aa→Prop):Prop:=match dst with
 | some t=> ∀x,K (.own t x) (aj H t (some (.mrow x [])))
 | none=> False
@[simp] theorem ZY (t:Nat) (H:aa) (K:D→aa→Prop):R7 (some t) H K= ∀x,K (.own t x) (aj H t (some (.mrow x []))):=id rfl
def Lj (id:Nat) (x:Value) (ka:Bool) (ks:List KK) (k v:D) (r:Option Res) (H:aa) (K:D→aa→Prop):Prop:=match r with
 | some (.mrow x' es)=> x'=x∧CV ka ks k v es fun es'=> K .undef (aj H id (some (.mrow x' es')))
 | _=> False
@[simp] theorem ZX (id:Nat) (x x':Value) (ka:Bool) (ks:List KK) (k v:D) (es:List D) (H:aa) (K:D→aa→Prop):Lj id x ka ks k v (some (.mrow x' es)) H K=(x'=x∧CV ka ks k v es fun es'=> K .undef (aj H id (some (.mrow x' es')))):=_root_.id rfl
def Ne (ka:Bool) (ks:List KK) (d k v:D) (H:aa) (K:D→aa→Prop):Prop:=match d with
 | .own id x=> Lj id x ka ks k v (H id) H K
 | _=> False
@[simp] theorem ZW (id:Nat) (x:Value) (ka:Bool) (ks:List KK) (k v:D) (H:aa) (K:D→aa→Prop):Ne ka ks (.own id x) k v H K=Lj id x ka ks k v (H id) H K:=_root_.id rfl
def TC (x:Value) (r:Option Res) (K:List D→Prop):Prop:=match r with
 | some (.mrow x' es)=> x'=x∧K es
 | _=> False
@[simp] theorem qeQ (x x':Value) (es:List D) (K:List D→Prop):TC x (some (.mrow x' es)) K=(x'=x∧K es):=id rfl
def TB (d:D) (H:aa) (K:List D→Prop):Prop:=match d with
 | .mp es=> K es
 | .v (.map none)=> K []
 | .own id x=> TC x (H id) K
 | _=> False
@[simp] theorem qeP (i:Nat) (x:Value) (H:aa) (K:List D→Prop):TB (.own i x) H K=TC x (H i) K:=id rfl
theorem R6 (d:D) (H:aa) (K:List D→Prop):sq d H K=TB d H K:=by
 unfold sq TB TC
 cases d <;> rfl
@[congr] theorem Xu {id:Nat} {x:Value} {ka:Bool} {ks:List KK} {k v k' v':D} {r r':Option Res} {H:aa} {K:D→aa→Prop} (h1:k=k') (h2:v=v') (h3:r=r'):Lj id x ka ks k v r H K=Lj id x ka ks k' v' r' H K:=by subst h1;subst h2;subst h3;rfl
@[congr] theorem Xt {ka:Bool} {ks:List KK} {d d' k v k' v':D} {H:aa} {K:D→aa→Prop} (h0:d=d') (h1:k=k') (h2:v=v'):Ne ka ks d k v H K=Ne ka ks d' k' v' H K:=by subst h0;subst h1;subst h2;rfl
@[congr] theorem Um {ka:Bool} {ks:List KK} {k v k' v':D} {es es':List D} {K:List D→Prop} (h1:k=k') (h2:v=v') (h3:es=es'):CV ka ks k v es K=CV ka ks k' v' es' K:=by subst h1;subst h2;subst h3;rfl
@[congr] theorem TE {ok agg ka:Bool} {ks:List KK} {z:List Value} {k k':D} {es es':List D} {K:D→Prop} (h1:k=k') (h3:es=es'):uE ok agg ka ks z k es K=uE ok agg ka ks z k' es' K:=by subst h1;subst h3;rfl
@[congr] theorem ZV {x:Value} {r r':Option Res} {K:List D→Prop} (h:r=r'):TC x r K=TC x r' K:=by subst h;rfl
@[congr] theorem ZU {d d':D} {H:aa} {K:List D→Prop} (h:d=d'):TB d H K=TB d' H K:=by subst h;rfl
@[simp ↓] theorem qgE (dst:Option Nat):aO S (.m .mk []) dst σ H K=R7 dst H K:=by cases dst <;> rfl
@[simp ↓] theorem qeB (dst:Option Nat):aB S (.m .mk []) dst σ Hr H K=R7 dst H K:=by cases dst <;> rfl
@[simp ↓] theorem qdH (dst:Option Nat) (ka:Bool) (ks:List KK) (x k v:Operand):aO S (.m (.upd ka ks) [x,k,v]) dst σ H K=Ne ka ks (ev σ x) (ev σ k) (ev σ v) H K:=by
 show ke (.upd ka ks) [ev σ x,ev σ k,ev σ v] dst H K=_
 unfold Ne Lj
 cases ev σ x <;> rfl
@[simp ↓] theorem YC (dst:Option Nat) (ok agg ka:Bool) (ks:List KK) (z:List Value) (x k:Operand):aO S (.m (.look ok agg ka ks z) [x,k]) dst σ H K=TB (ev σ x) H fun es=> uE ok agg ka ks z (ev σ k) es fun d=> K d H:=by
 rw[←R6];rfl
end
end Go.Gv

namespace Go.Gv
open Cod (enc dec)
theorem AR {a b:D} (ha:wR a=true) (hb:wR b=true) (h:KE a b):a=b:=by
 obtain⟨tp,I,w,x,h1,h2⟩:=h
 have one: ∀d:D,wR d=true→(∃cs,d= .agg cs)∨ ∃v,d= .v v:=fun d hd=> by
  cases d <;> first | exact .inl ⟨_,rfl⟩ | exact .inr ⟨_,rfl⟩ | (simp[wR,D.cells,TG] at hd)
 rcases one a ha with⟨cs,rfl⟩ | ⟨v,rfl⟩ <;> rcases one b hb with⟨cs',rfl⟩ | ⟨v',rfl⟩
 ·obtain⟨xs,rfl,hl,hc⟩:=h1.inv_agg
  obtain⟨ys,he,hl2,hc2⟩:=h2.inv_agg
  have hxy:xs=ys:=by simpa using he
  subst hxy
  have hce:cs=cs':=by
   refine List.ext_getElem (by omega) fun i h3 h4=> ?_
   have hi:i < xs.length:=by omega
   have v1:TG cs[i]=true:=List.all_eq_true.1 ha _ (by simp[D.cells])
   have v2:TG cs'[i]=true:=List.all_eq_true.1 hb _ (by simp[D.cells])
   have r1:=(hc i _ _ (List.getElem?_eq_getElem hi) (List.getElem?_eq_getElem h3)).2
   have r2:=(hc2 i _ _ (List.getElem?_eq_getElem hi) (List.getElem?_eq_getElem h4)).2
   generalize cs[i]=p at*
   generalize cs'[i]=q at*
   cases p <;> first | (cases v1;done) | skip
   cases q <;> first | (cases v2;done) | skip
   rw[←r1.inv_v,←r2.inv_v]
  rw[hce]
 ·obtain⟨xs,rfl,_,_⟩:=h1.inv_agg
  have:=h2.inv_v
  cases h2 with
  | v _ h _=> simp[Value.oneCell'] at h
 ·obtain⟨xs,rfl,_,_⟩:=h2.inv_agg
  cases h1 with
  | v _ h _=> simp[Value.oneCell'] at h
 ·rw[←h1.inv_v,←h2.inv_v]
structure OY (X:Type) [Cod X] (ka:Bool) (ks:List KK):Prop where
 fit: ∀x:X,Jb ka ks (enc x)=true
 pur: ∀x:X,wR (enc x)=true
theorem GK:OY Int false [.int .i64]:=⟨fun _=> rfl,fun _=> rfl⟩
section
variable {X:Type} [Cod X] [DecidableEq X]
def nP (l:List X):List D:=l.map fun x=> .tup [enc x, .v (.bool true)]
def GN (x:X) (l:List X):List X:=if x∈l then l else l++ [x]
@[simp] theorem Nk {x y:X} {l:List X} :y∈GN x l↔y=x∨y∈l:=by
 unfold GN
 split
 ·rename_i h
  exact⟨.inr,fun h2=> h2.elim (fun e=> e ▸h) id⟩
 ·simp[or_comm]
theorem wf {x:X} {v:D} {l:List X} :D.tup [enc x,v] ∈nP l↔x∈l∧v= .v (.bool true):=by
 simp only[nP,List.mem_map,D.tup.injEq,List.cons.injEq,and_true]
 exact⟨fun⟨y,h1,h2,h3⟩=> ⟨bU h2 ▸h1,h3.symm⟩,fun⟨h1,h2⟩=> ⟨x,h1,rfl,h2.symm⟩⟩
theorem F9 {d:D} {l:List X} (h:d∈nP l): ∃x∈l,d= .tup [enc x, .v (.bool true)]:=by
 obtain⟨x,h1,rfl⟩:=List.mem_map.1 h
 exact⟨x,h1,rfl⟩
theorem z8: ∀ {l:List X} {l1 l2:List D} {e:D},nP l=l1++e::l2→ ∃a x b,l=a++x::b∧l1=nP a∧e= .tup [enc x, .v (.bool true)]∧l2=nP b
 | [],l1,l2,e,h=> by
   have:=congrArg List.length h
   simp[nP] at this
 | y::l, [],l2,e,h=> by
   simp only[nP,List.map_cons,List.nil_append,List.cons.injEq] at h
   exact⟨[],y,l,rfl,rfl,h.1.symm,h.2.symm⟩
 | y::l,d::l1,l2,e,h=> by
   simp only[nP,List.map_cons,List.cons_append,List.cons.injEq] at h
   obtain⟨a,x,b,rfl,rfl,h3,h4⟩:=z8 (l:=l) h.2
   exact⟨y::a,x,b,rfl,by simp[nP,h.1],h3,h4⟩
theorem ME (a b:List X):nP (a++b)=nP a++nP b:=by simp[nP]
theorem Ga {ka:Bool} {ks:List KK} (hK:OY X ka ks) (l:List X): (nP l).all (LH ka ks)=true:=by
 rw[List.all_eq_true]
 intro d hd
 obtain⟨x,_,rfl⟩:=F9 hd
 exact hK.fit x
theorem Pm {ka:Bool} {ks:List KK} (hK:OY X ka ks) {x:X} {l:List X} {k:D} {K:List D→Prop} (hk:k=enc x) (h:K (nP (GN x l))):CV ka ks k (.v (.bool true)) (nP l) K:=by
 subst hk
 refine⟨Ga hK l,hK.fit x,fun l1 k' v' l2 e m=> ?_,fun hn=> ?_⟩
 ·obtain⟨a,y,b,rfl,rfl,h3,rfl⟩:=z8 e
  simp only[D.tup.injEq,List.cons.injEq,and_true] at h3
  obtain⟨rfl,rfl⟩:=h3
  have:=bU (AR (hK.pur x) (hK.pur y) m)
  subst this
  rw[←e]
  have:GN x (a++x::b)=a++x::b:=by unfold GN;rw[if_pos (by simp)]
  rw[this] at h
  exact h
 ·have hx:x∉l:=fun hx=> hn (hK.pur x) _ (wf.2 ⟨hx,rfl⟩)
  have:GN x l=l++ [x]:=by unfold GN;rw[if_neg hx]
  rw[this,ME] at h
  exact h
theorem Nm {ok:Bool} {ka:Bool} {ks:List KK} (hK:OY X ka ks) {x:X} {l:List X} {k:D} {K:D→Prop} (hk:k=enc x) (h:K (Q9 ok (.v (.bool (decide (x∈l)))) (decide (x∈l)))):
 uE ok false ka ks [.bool false] k (nP l) K:=by
 subst hk
 refine⟨Ga hK l,hK.fit x,fun k' v hm m=> ?_,fun hn=> ?_⟩
 ·obtain⟨y,hy,e⟩:=F9 hm
  simp only[D.tup.injEq,List.cons.injEq,and_true] at e
  obtain⟨rfl,rfl⟩:=e
  have:=bU (AR (hK.pur x) (hK.pur y) m)
  subst this
  simpa [hy] using h
 ·have hx:x∉l:=fun hx=> hn (hK.pur x) _ (wf.2 ⟨hx,rfl⟩)
  simpa [hx] using h
theorem Gz {ok:Bool} {ka:Bool} {ks:List KK} (hK:OY X ka ks) (x:X) (hM:KE (enc x) (enc x)) (l:List X) (K:D→Prop):uE ok false ka ks [.bool false] (enc x) (nP l) K=K (Q9 ok (.v (.bool (decide (x∈l)))) (decide (x∈l))):=by
 refine propext ⟨fun⟨_,_,h1,h2⟩=> ?_,Nm hK rfl⟩
 by_cases hx:x∈l
 ·have:=h1 (enc x) (.v (.bool true)) (wf.2 ⟨hx,rfl⟩) hM
  simpa [hx] using this
 ·have:=h2 fun _ v hm=> hx (wf.1 hm).1
  simpa [hx,Fx,oV] using this
end
@[simp] theorem U4 (ok:Bool) (k:Int) (l:List Int) (K:D→Prop):uE ok false false [.int .i64] [.bool false] (.v (.int .i64 k)) (nP l) K=K (Q9 ok (.v (.bool (decide (k∈l)))) (decide (k∈l))):=Gz GK k ⟨fun _=> False,fun _=> False,default,_,R.int .i64 k,R.int .i64 k⟩ l K
@[simp] theorem qeS (v:D) (b:Bool):Q9 false v b=v:=id rfl
end Go.Gv

namespace Go.Gv
open Go.Proofs
open Cod (enc dec)
variable {S S0:Nat→Spc}
def dK (l:List B) (x:Cond):List B:=if x.op=4∧nk l x.lab=false then l++ [x.lab] else l
mutual
def mI (l:List B):Cond→List B | .mk op n a v lb f ks=> iF (dK l (.mk op n a v lb f ks)) ks
def iF (l:List B):List Cond→List B | []=> l | k::ks=> iF (mI l k) ks
end
theorem nh: ∀ (ks:List Cond) (l:List B),iF l ks=ks.foldl mI l
 | [],l=> by rw[iF];rfl
 | k::ks,l=> by rw[iF,nh ks];rfl
theorem PX (l:List B) (x:Cond):mI l x=x.kids.foldl mI (dK l x):=by cases x;rw[mI,nh]
structure Rl where
 v:Value
 l:List B
def qdB (v:Value):List D:= [.own 990 v]
def ZB (v:Value) (l:List B):Res:= .row v ai 1 (l.map enc)
def JO:vd Rl:=⟨[990],fun x=> qdB x.v,fun x=> [(990,ZB x.v x.l)],fun _=> rfl⟩
def qee:JE Cond:=⟨fun id b ds=> match ds with
 | [c, .bptr i b' 0]=> if i=id∧b'=b then dec c else none
 | _=> none,fun b x=> [enc x, .bptr 0 b 0],fun id b ds z h=> by
   split at h
   ·split at h
    ·rename_i e
     obtain⟨rfl,rfl⟩:=e
     exact .cons (Cod.le _ _ h) (.cons (.bptr _ _ _ _) .nil)
    ·cases h
   ·cases h⟩
def qed:JE Cond:=⟨fun id b ds=> match ds with
 | [c, .clo f [.bptr i b' 0]]=> if i=id∧b'=b∧f=bz then dec c else none
 | _=> none,fun b x=> [enc x, .clo bz [.bptr 0 b 0]],fun id b ds z h=> by
   split at h
   ·split at h
    ·rename_i e
     obtain⟨rfl,rfl,rfl⟩:=e
     refine .cons (Cod.le _ _ h) (.cons (.clo rfl fun k c c' h1 h2=> ?_) .nil)
     match k with
     | 0=> cases h1;cases h2;exact .bptr _ _ _ _
     | k+1=> simp at h1
    ·cases h
   ·cases h⟩
def OS (x:Rl) (z:Cond):Prop:=x.l.length≤1000
def Jy (x:Rl) (z:Cond) (x':Rl) (y:Int):Prop:=y=0∧x'.l=dK x.l z
noncomputable abbrev s_lab1:Spc:=qdZ JO qee (enc (X:=Int)) OS Jy
def OR (n:Nat) (x:Rl) (z:Cond):Prop:=cA z≤n∧x.l.length+dx z≤1000
def Jw (x:Rl) (z:Cond) (x':Rl) (y:Int):Prop:=y=0∧x'.l=mI x.l z
noncomputable abbrev ua (n:Nat):Spc:=qdZ JO qed (enc (X:=Int)) (OR n) Jw
abbrev b_conS:Spc:=YK (Y:=B) (a1 B) (fun _=> True) (enc (X:=Bool)) (fun x y=> y=nk x.1 x.2) ai 1
theorem tX (h1:S ba=ub):aN dc db S (aE (List B) (a1 B)) (fun _=> True) (enc (X:=Bool)) fun x y=> y=nk x.1 x.2:=by
 rintro⟨l,s⟩ -
 exact nW h1 (l,s) trivial
theorem J8 {b:Nat} {post:Rl→Int→Prop} {H:aa} (y:Int) (v:Value) (l:List B) (h0:H 0=some (.box b [.own 990 v])) (h1:H 990=some (.row v ai 1 (l.map enc))) (hq:post ⟨v,l⟩ y):yx JO (enc (X:=Int)) b post (.v (.int .i64 y)) H:=
 ⟨⟨v,l⟩,y, .same _,h0,fun p hp=> by
  simp only[JO,List.mem_cons,List.not_mem_nil,or_false] at hp
  subst hp
  exact h1,hq⟩
theorem HX (h1:S aL=b_conS):Ju ep eo S JO qee (enc (X:=Int)) OS Jy:=by
 rintro b ⟨v,l⟩ x hl
 have hl:l.length≤1000:=hl
 show vc S ep (oJ eo fun r H'=> yx JO (enc (X:=Int)) b (Jy ⟨v,l⟩ x) r H') (dC [enc x, .bptr 0 b 0]) (aj (aj df 990 (some (.row v ai 1 (l.map enc)))) 0 (some (.box b [.own 990 v])))
 simp[ep,eo,h1, -Bool.forall_bool, -Bool.exists_bool]
 refine⟨fun h4=> ⟨fun hh=> ⟨by omega,by omega,fun v1=> ?_⟩,fun hh=> ?_⟩,fun h4=> ?_⟩
 ·refine J8 0 v1 (l++ [x.lab]) rfl (by simp[aj]) ⟨rfl,?_⟩
  show l++ [x.lab]=dK l x
  unfold dK;rw[if_pos ⟨h4,hh⟩]
 ·refine J8 0 v l rfl (by simp[aj]) ⟨rfl,?_⟩
  show l=dK l x
  unfold dK;rw[if_neg (by simp[hh])]
 ·refine J8 0 v l rfl (by simp[aj]) ⟨rfl,?_⟩
  show l=dK l x
  unfold dK;rw[if_neg (by simp[h4])]
theorem Nt {d i b:Nat} {v:Value} {l:List B} {x:Cond} {c:D} {H:aa} {K:D→aa→Prop} (hc:c=enc x) (hi:i≠990) (h0:H i=some (.box b [.own 990 v])) (h1:H 990=some (.row v ai 1 (l.map enc))) (hl:l.length≤1000)
 (hK: ∀v',K (.v (.int .i64 0)) (aj (aj H 990 (some (.row v' ai 1 ((dK l x).map enc)))) i (some (.box b [.own 990 v'])))):s_lab1.pt d [c, .bptr i b 0] H K:=by
 subst hc
 refine⟨i,b,⟨v,l⟩,x,by simp[qee],h0,fun p hp=> ?_,by simp[JO,hi],hl,?_⟩
 ·simp only[JO,List.mem_cons,List.not_mem_nil,or_false] at hp
  subst hp
  exact h1
 ·rintro⟨v',l'⟩ y ⟨rfl,e⟩
  simp only at e
  subst e
  exact hK v'
theorem GJ {n d i b:Nat} {v:Value} {l:List B} {x:Cond} {c:D} {H:aa} {K:D→aa→Prop} (hc:c=enc x) (hi:i≠990) (h0:H i=some (.box b [.own 990 v])) (h1:H 990=some (.row v ai 1 (l.map enc))) (hd:cA x≤n) (hl:l.length+dx x≤1000)
 (hK: ∀v',K (.v (.int .i64 0)) (aj (aj H 990 (some (.row v' ai 1 ((mI l x).map enc)))) i (some (.box b [.own 990 v'])))): (ua n).pt d [c, .clo bz [.bptr i b 0]] H K:=by
 subst hc
 refine⟨i,b,⟨v,l⟩,x,by simp[qed],h0,fun p hp=> ?_,by simp[JO,hi],⟨hd,hl⟩,?_⟩
 ·simp only[JO,List.mem_cons,List.not_mem_nil,or_false] at hp
  subst hp
  exact h1
 ·rintro⟨v',l'⟩ y ⟨rfl,e⟩
  simp only at e
  subst e
  exact hK v'
theorem BT (l:List B) (x:Cond): (dK l x).length≤l.length+1:=by
 unfold dK
 split <;> simp
mutual
theorem Ns (l:List B): ∀x:Cond,(mI l x).length≤l.length+dx x
 | .mk op n a v lb f ks=> by
   rw[mI,mG]
   have h1:=xF (dK l (.mk op n a v lb f ks)) ks
   have h2:=BT l (.mk op n a v lb f ks)
   have h3: (Cond.mk op n a v lb f ks).kids=ks:=rfl
   rw[h3]
   omega
theorem xF (l:List B): ∀ks:List Cond,(iF l ks).length≤l.length+cU ks
 | []=> by simp[iF]
 | k::ks=> by
   rw[iF,cU]
   have h1:=Ns l k
   have h2:=xF (mI l k) ks
   omega
end
theorem IS (l:List B): ∀ (ks:List Cond) (k:Cond),iF l (ks++ [k])=mI (iF l ks) k:=fun ks k=> by
 rw[nh,nh,List.foldl_append];rfl
theorem O9 (n:Nat) (h1:S bz=s_lab1) (h2:S aC=ua n):Ju gc fS S JO qed (enc (X:=Int)) (OR (n+1)) Jw:=by
 rintro b ⟨v,l⟩ x ⟨hd,hl⟩
 have hl:l.length+dx x≤1000:=hl
 show vc S gc (oJ fS fun r H'=> yx JO (enc (X:=Int)) b (Jw ⟨v,l⟩ x) r H') (dC [enc x, .clo bz [.bptr 0 b 0]]) (aj (aj df 990 (some (.row v ai 1 (l.map enc)))) 0 (some (.box b [.own 990 v])))
 simp[gc,fS,h1, -Bool.forall_bool, -Bool.exists_bool]
 have hn:=mG x
 refine Nt (v:=v) (l:=l) (x:=x) (by simp) (by decide) (by simp[aj]) (by simp[aj]) (by omega) fun v'=> ?_
 simp[-Bool.forall_bool, -Bool.exists_bool]
 intro hkl
 have hal:=BT l x
 refine aq (X:=Value×List B) [1,16] [] x.kids.length (fun k z=> z.2=iF (dK l x) (x.kids.take k)) (fun _=> []) (fun z=> [(0, .box b [.own 990 z.1]),(990, .row z.1 ai 1 (z.2.map enc))]) (v',dK l x) (by simp) (by simp) (by omega) (by simp) (by simp) (by simp[iF]) (by simp) (by simp) ?_ ?_
 ·rintro k ⟨v2,l2⟩ hk hP
  obtain⟨y,hy⟩:=jI hk
  obtain⟨_,hgy⟩:=List.getElem?_eq_some_iff.1 hy
  have hm:=List.mem_of_getElem? hy
  have hP:l2=iF (dK l x) (x.kids.take k):=hP
  simp[h2,hk,hy,hgy, -Bool.forall_bool, -Bool.exists_bool]
  have hdy:cA y≤n:=by
   have h3:=th hm
   have h4:cA x=fD x.kids+1:=by cases x;rw[cA]
   omega
  have hln:l2.length+dx y≤1000:=by
   have h3:=xF (dK l x) (x.kids.take k)
   have h4:cU (x.kids.take k) +dx y≤cU x.kids:=by
    have e:x.kids=x.kids.take k++y::x.kids.drop (k+1):=by
     have h5:=(List.getElem?_eq_some_iff.1 hy).2
     rw[←h5,←List.drop_eq_getElem_cons hk,List.take_append_drop]
    have h6:=congrArg cU e
    rw[pp,cU] at h6
    omega
   rw[←hP] at h3
   omega
  refine fun b7=> GJ (n:=n) (v:=v2) (l:=l2) (x:=y) (by simp) (by decide) (by simp[aj]) (by simp[aj]) hdy hln fun v3=> ?_
  simp[-Bool.forall_bool, -Bool.exists_bool]
  exact .inl (.inl (by rw[hP,dM hy,IS]))
 ·rintro⟨v2,l2⟩ hP
  have hP:l2=iF (dK l x) (x.kids.take x.kids.length):=hP
  rw[List.take_length] at hP
  simp[-Bool.forall_bool, -Bool.exists_bool]
  refine J8 0 v2 l2 rfl (by simp[aj]) ⟨rfl,?_⟩
  show l2=mI l x
  rw[hP,PX,nh]
abbrev s_Labels:Spc:=cv (a1 Cond) (fun x=> dx x≤60∧cA x≤60) (enc (X:=List B)) fun x y=> y=mI [] x
theorem Mc (h1:S bu=mW) (h2:S aC=ua 60):aN iV iL S (a1 Cond) (fun x=> dx x≤60∧cA x≤60) (enc (X:=List B)) fun x y=> y=mI [] x:=by
 rintro x ⟨hn,hd⟩
 simp[iV,iL,h1,hn,hd, -Bool.forall_bool, -Bool.exists_bool]
 refine jS (X:=Nat) [1] [] [] [] (fun _=> True) (fun b=> [(3, .bptr 3 b 0)]) (fun b=> [(3, .box b [.own 990 (.slice none 0 0)]),(990, .row (.slice none 0 0) ai 1 [])]) [3,990] (fun _=> rfl) (by decide) ?_ ?_
 ·simp[-Bool.forall_bool, -Bool.exists_bool]
  refine fun b=> ⟨b, .same _, .inl ?_,by simp[isNilRow]⟩
  simp
  exact .nilown 990
 ·rintro b -
  simp[h2, -Bool.forall_bool, -Bool.exists_bool]
  refine GJ (n:=60) (v:= .slice none 0 0) (l:= []) (x:=x) (by simp) (by decide) (by simp[aj]) (by simp[aj]) hd (by simp;omega) fun v=> ?_
  simp[-Bool.forall_bool, -Bool.exists_bool]
  exact dE (mI [] x) (jQ ai (by simp[aj])) rfl
abbrev s_Loose:Spc:=cv (a1 Cond) (fun x=> dx x≤60∧cA x≤60) (enc (X:=Cond)) fun x y=> y=dX x
theorem Pg (h1:S bu=mW) (h2:S bj=vM):aN jF jv S (a1 Cond) (fun x=> dx x≤60∧cA x≤60) (enc (X:=Cond)) fun x y=> y=dX x:=by
 rintro x ⟨hn,hd⟩
 have hp: ∃n,cA x≤n∧dx x≤60:=⟨60,hd,hn⟩
 simp[jF,jv,h1,h2,hn,hd,hp, -Bool.forall_bool, -Bool.exists_bool]
 exact fun b=> ⟨⟨60,hd⟩,dE (dX x) (by simp) rfl⟩
end Go.Gv
