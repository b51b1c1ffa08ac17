/- A part of the framework and of the walks: T11 T12. -/
import Derived.Test.YtaiffcbkmgfklaaGreatDoorGy10

namespace Go.Gv
set_option linter.unusedSimpArgs false
set_option linter.unusedVariables false
open Cod (enc dec)

@[simp] theorem fz_v (H : HMap) (x y : Value) : FrzTo H (.v x) (.v y) = (x = y) := by
  refine propext ⟨fun h => ?_, fun h => h ▸ .same _⟩
  cases h; rfl
@[simp] theorem fz_same (H : HMap) (d : D) : FrzTo H d d = True := propext ⟨fun _ => trivial, fun _ => .same d⟩
@[simp] theorem fz_nil (H : HMap) (n : Nat) (es : List D) : FrzTo H (.v (.slice none 0 0)) (.list n es) = (es = []) := by
  refine propext ⟨fun h => ?_, fun h => h ▸ .nil n⟩
  cases h; rfl
theorem fz_tup2 {H : HMap} {a b a' b' : D} (h1 : FrzTo H a a') (h2 : FrzTo H b b') : FrzTo H (.tup [a, b]) (.tup [a', b']) :=
  .tup rfl fun k c c' hc hc' => by
    match k with
    | 0 => simp at hc hc'; subst hc; subst hc'; exact h1
    | 1 => simp at hc hc'; subst hc; subst hc'; exact h2
    | k + 2 => simp at hc
theorem fz_tup3 {H : HMap} {a b c a' b' c' : D} (h1 : FrzTo H a a') (h2 : FrzTo H b b') (h3 : FrzTo H c c') : FrzTo H (.tup [a, b, c]) (.tup [a', b', c']) :=
  .tup rfl fun k d d' hc hc' => by
    match k with
    | 0 => simp at hc hc'; subst hc; subst hc'; exact h1
    | 1 => simp at hc hc'; subst hc; subst hc'; exact h2
    | 2 => simp at hc hc'; subst hc; subst hc'; exact h3
    | k + 3 => simp at hc

section
variable {P : Program} {S : Nat → Spc} {f : Nat} {im : List Nat} {cc : CC} {rs : List CRes} {N : Nat}

end
end Go.Gv

namespace Go.Gv
set_option linter.unusedSimpArgs false
set_option linter.unusedVariables false
open Cod (enc dec)

/-! ### Contracts -/
/-- How the arguments of a function are read. -/
structure Arg (X : Type) where
  dec : List D → Option X
  view : X → List D
  le : ∀ ds x, dec ds = some x → LeL ds (view x)

/-- The contract of a pure function: what it asks, how its result is written, what it says of it. -/
def spc {X Y : Type} (A : Arg X) (pre : X → Prop) (er : Y → D) (post : X → Y → Prop) : Spc := pureC A.dec pre fun x r => ∃ y, r = er y ∧ post x y

def optX {X : Type} (o : Option X) (k : X → Prop) : Prop := match o with | some x => k x | none => False
@[congr] theorem optX_cg {X : Type} {o o' : Option X} {k : X → Prop} (h : o = o') : optX o k = optX o' k := by subst h; rfl
@[simp] theorem optX_s {X : Type} (x : X) (k : X → Prop) : optX (some x) k = k x := id rfl
@[simp] theorem optX_n {X : Type} (k : X → Prop) : optX none k = False := id rfl

@[simp] theorem spc_pt {X Y : Type} (A : Arg X) (pre : X → Prop) (er : Y → D) (post : X → Y → Prop) (d : Nat) (ds : List D) (H : HMap) (K : D → HMap → Prop) :
    (spc A pre er post).pt d ds H K = optX (A.dec ds) fun x => pre x ∧ ∀ y, post x y → K (er y) H := by
  refine propext ⟨fun h => ?_, fun h => ?_⟩
  · obtain ⟨⟨x, h1, h2⟩, h3⟩ := h
    rw [h1]
    refine ⟨h2, fun y hy => h3 _ fun x' hx' _ => ?_⟩
    rw [h1] at hx'
    cases hx'
    exact ⟨y, rfl, hy⟩
  · cases hd : A.dec ds with
    | none => rw [hd] at h; exact h.elim
    | some x =>
      rw [hd] at h
      refine use_pure x hd h.1 ?_
      rintro r ⟨y, rfl, hy⟩
      exact h.2 y hy

@[simp] theorem spc_pre {X Y : Type} (A : Arg X) (pre : X → Prop) (er : Y → D) (post : X → Y → Prop) (dst : Option Nat) (ds : List D) (H : HMap) (K : D → HMap → Prop) :
    preX dst (spc A pre er post) ds H K = optX (A.dec ds) fun x => pre x ∧ ∀ y, post x y → K (er y) H := spc_pt A pre er post 0 ds H K

/-- What is given back stands for some y of which q holds. -/
def Fin {Y : Type} (er : Y → D) (q : Y → Prop) (r : D) (H' : HMap) : Prop := ∃ y, FrzTo H' r (er y) ∧ q y
theorem fin_of {Y : Type} {er : Y → D} {q : Y → Prop} {r : D} {H' : HMap} (y : Y) (h : FrzTo H' r (er y)) (hq : q y) : Fin er q r H' := ⟨y, h, hq⟩
@[simp] theorem fin_int (q : Int → Prop) (n : Int) (H' : HMap) : Fin enc q (.v (.int .i64 n)) H' = q n := by
  simp [Fin, enc_int]
@[simp] theorem fin_bool (q : Bool → Prop) (n : Bool) (H' : HMap) : Fin enc q (.v (.bool n)) H' = q n := by
  refine propext ⟨fun ⟨y, h1, h2⟩ => ?_, fun h => ⟨n, .same _, h⟩⟩
  rw [enc_bool, fz_v] at h1
  cases h1
  exact h2
@[simp] theorem fin_str (q : ByteArray → Prop) (n : ByteArray) (H' : HMap) : Fin enc q (.v (.string n)) H' = q n := by
  refine propext ⟨fun ⟨y, h1, h2⟩ => ?_, fun h => ⟨n, .same _, h⟩⟩
  rw [enc_str, fz_v] at h1
  cases h1
  exact h2
@[simp] theorem fin_unit (q : Unit → Prop) (er : Unit → D) (H' : HMap) : Fin er q (er ()) H' = q () := propext ⟨fun ⟨_, _, h⟩ => h, fun h => ⟨(), .same _, h⟩⟩

/-- The condition of a function's text. -/
def Walk {X Y : Type} (cc : CC) (rs : List CRes) (S : Nat → Spc) (A : Arg X) (pre : X → Prop) (er : Y → D) (post : X → Y → Prop) : Prop :=
  ∀ x, pre x → vc S cc (retK rs fun r H' => Fin er (post x) r H') (initS (A.view x)) noH

theorem tri_walk {P : Program} {S : Nat → Spc} {f : Nat} {im : List Nat} {cc : CC} {rs : List CRes} {N : Nat} {X Y : Type} {A : Arg X} {pre : X → Prop} {er : Y → D} {post : X → Y → Prop}
    (hS : ∀ f, Tri P f (S f).pt) (h : FnOk P f im cc rs N) (hN : ∀ x, (A.view x).length ≤ N) (hw : Walk cc rs S A pre er post) : Tri P f (spc A pre er post).pt :=
  tri_pure hS h A.le hN fun x hp => by
    refine vc_mono cc _ _ (fun e σ H h => ?_) (hw x hp)
    cases e with
    | ex i => exact h
    | _ =>
      simp only [retK] at h ⊢
      have key : ∀ (rs : List CRes) (F G : List D → Prop), (∀ ds, F ds → G ds) → resL rs σ H F → resL rs σ H G := by
        intro rs
        induction rs with
        | nil => exact fun F G hFG h => hFG _ h
        | cons r rs ih =>
          intro F G hFG h
          cases r with
          | tmp t => exact ih _ _ (fun ds h => hFG _ h) h
          | cell t agg sz => exact readVC_mono (fun d h => ih _ _ (fun ds h => hFG _ h) h) h
      exact key rs _ _ (fun ds ⟨y, h1, h2⟩ => ⟨_, h1, y, rfl, h2⟩) h

theorem callEnter {P : Program} {f : Nat} {fn : Func} {c : Code} (h : P.funcs[f]? = some fn) (hn : (fn.name == "runtime.NumGoroutine") = false) (hb : fn.body = some c) : CallEnter P f := by
  intro args w
  have hn' : ¬ fn.name = "runtime.NumGoroutine" := by simpa using hn
  unfold callFunc
  simp [h, hn', hb]

theorem fnOk1 {P : Program} {f : Nat} {im : List Nat} {cc : CC} {rs : List CRes} {N : Nat} (mix : P.follows .mixedOrders = true)
    (h : ((P.funcs[f]?).bind fun g => if g.name == "runtime.NumGoroutine" then none else g.body.bind fun c => (compileC P im g.ntmps c).bind fun cc => (g.results.toList.mapM (compileRes P)).bind fun rs => some (g.ntmps, cc, rs)) = some (N, strip cc, rs)) : FnOk P f im cc rs N := by
  cases hf : P.funcs[f]? with
  | none => rw [hf] at h; cases h
  | some fn =>
    rw [hf] at h
    simp only [Option.bind_some] at h
    split at h
    · cases h
    · rename_i hn
      simp only [Option.bind_eq_some_iff, Option.some.injEq, Prod.mk.injEq] at h
      obtain ⟨c, hb, q, hq, r, hr, rfl, rfl, rfl⟩ := h
      exact ⟨mix, callEnter hf (by simpa using hn) hb, fn, c, hf, hb, rfl, hq, hr⟩

/-! ### Arguments -/
def a0 : Arg Unit := ⟨dec0, fun _ => [], le0⟩
def a1 (X : Type) [Cod X] : Arg X := ⟨dec1, fun x => [enc x], le1⟩
def a2 (X Y : Type) [Cod X] [Cod Y] : Arg (X × Y) := ⟨dec2, fun x => [enc x.1, enc x.2], le2⟩
def a3 (X Y Z : Type) [Cod X] [Cod Y] [Cod Z] : Arg (X × Y × Z) := ⟨dec3, fun x => [enc x.1, enc x.2.1, enc x.2.2], le3⟩
def a4 (X Y Z W : Type) [Cod X] [Cod Y] [Cod Z] [Cod W] : Arg (X × Y × Z × W) := ⟨dec4, fun x => [enc x.1, enc x.2.1, enc x.2.2.1, enc x.2.2.2], le4⟩

/-- A tape ahead of the other arguments. -/
def aT {X : Type} (A : Arg X) : Arg (List Int × X) := ⟨fun ds => match ds with | .tape L :: r => (A.dec r).map fun x => (L, x) | _ => none, fun x => .tape x.1 :: A.view x.2, fun ds x h => by
  split at h
  · simp only [Option.map_eq_some_iff] at h
    obtain ⟨y, hy, rfl⟩ := h
    exact .cons (.same _) (A.le _ _ hy)
  · cases h⟩

@[simp] theorem a0_dec : a0.dec [] = some () := id rfl
@[simp] theorem a1_dec {X : Type} [Cod X] (a : D) : (a1 X).dec [a] = dec a := id rfl
@[simp] theorem a2_dec {X Y : Type} [Cod X] [Cod Y] (a b : D) : (a2 X Y).dec [a, b] = (dec a).bind fun x => (dec b).bind fun y => some (x, y) := id rfl
@[simp] theorem a3_dec {X Y Z : Type} [Cod X] [Cod Y] [Cod Z] (a b c : D) : (a3 X Y Z).dec [a, b, c] = (dec a).bind fun x => (dec b).bind fun y => (dec c).bind fun z => some (x, y, z) := id rfl
@[simp] theorem a4_dec {X Y Z W : Type} [Cod X] [Cod Y] [Cod Z] [Cod W] (a b c d : D) : (a4 X Y Z W).dec [a, b, c, d] = (dec a).bind fun x => (dec b).bind fun y => (dec c).bind fun z => (dec d).bind fun w => some (x, y, z, w) := id rfl
@[simp] theorem aT_dec {X : Type} (A : Arg X) (L : List Int) (r : List D) : (aT A).dec (.tape L :: r) = (A.dec r).map fun x => (L, x) := id rfl
@[simp] theorem a0_view (x : Unit) : a0.view x = [] := id rfl
@[simp] theorem a1_view {X : Type} [Cod X] (x : X) : (a1 X).view x = [enc x] := id rfl
@[simp] theorem a2_view {X Y : Type} [Cod X] [Cod Y] (x : X) (y : Y) : (a2 X Y).view (x, y) = [enc x, enc y] := id rfl
@[simp] theorem a3_view {X Y Z : Type} [Cod X] [Cod Y] [Cod Z] (x : X) (y : Y) (z : Z) : (a3 X Y Z).view (x, y, z) = [enc x, enc y, enc z] := id rfl
@[simp] theorem a4_view {X Y Z W : Type} [Cod X] [Cod Y] [Cod Z] [Cod W] (x : X) (y : Y) (z : Z) (w : W) : (a4 X Y Z W).view (x, y, z, w) = [enc x, enc y, enc z, enc w] := id rfl
@[simp] theorem aT_view {X : Type} (A : Arg X) (L : List Int) (x : X) : (aT A).view (L, x) = .tape L :: A.view x := id rfl

attribute [simp] Cod.dec_enc
@[simp] theorem de_int (n : Int) : dec (X := Int) (.v (.int .i64 n)) = some n := id rfl
@[simp] theorem de_bool (n : Bool) : dec (X := Bool) (.v (.bool n)) = some n := id rfl
@[simp] theorem de_str (n : ByteArray) : dec (X := ByteArray) (.v (.string n)) = some n := id rfl
@[simp] theorem de_nil {X : Type} [Cod X] : dec (X := List X) (.v (.slice none 0 0)) = some [] := id rfl
@[simp] theorem de_list {X : Type} [Cod X] (n : Nat) (es : List D) : dec (X := List X) (.list n es) = if n = Cod.wd X then es.mapM (dec (X := X)) else none := id rfl
attribute [simp] mapM_enc
@[simp] theorem mapM_enc' {X : Type} [Cod X] (l : List X) : l.mapM (dec (X := X) ∘ enc) = some l := by
  have := mapM_enc l
  rwa [List.mapM_map] at this
@[simp] theorem mapM_dec_app {X : Type} [Cod X] (a b : List D) : (a ++ b).mapM (dec (X := X)) = (a.mapM (dec (X := X))).bind fun x => (b.mapM (dec (X := X))).bind fun y => some (x ++ y) := mapM_dec_append a b
@[simp] theorem mapM_dec_cons {X : Type} [Cod X] (a : D) (b : List D) : (a :: b).mapM (dec (X := X)) = (dec a).bind fun x => (b.mapM (dec (X := X))).bind fun y => some (x :: y) := by
  rw [List.mapM_cons]; rfl
@[simp] theorem mapM_dec_nil {X : Type} [Cod X] : ([] : List D).mapM (dec (X := X)) = some [] := by simp

/-! ### Results -/
def er2 {Y Z : Type} [Cod Y] [Cod Z] (p : Y × Z) : D := .tup [enc p.1, enc p.2]
def er3 {Y Z W : Type} [Cod Y] [Cod Z] [Cod W] (p : Y × Z × W) : D := .tup [enc p.1, enc p.2.1, enc p.2.2]
def er0 (_ : Unit) : D := .tup []
@[simp] theorem er2_m {Y Z : Type} [Cod Y] [Cod Z] (y : Y) (z : Z) : er2 (y, z) = .tup [enc y, enc z] := id rfl
@[simp] theorem er3_m {Y Z W : Type} [Cod Y] [Cod Z] [Cod W] (y : Y) (z : Z) (w : W) : er3 (y, z, w) = .tup [enc y, enc z, enc w] := id rfl
@[simp] theorem fin_er2 {Y Z : Type} [Cod Y] [Cod Z] (q : Y × Z → Prop) (a b : D) (H' : HMap) : Fin er2 q (.tup [a, b]) H' = ∃ y z, FrzTo H' a (enc y) ∧ FrzTo H' b (enc z) ∧ q (y, z) := by
  refine propext ⟨fun ⟨⟨y, z⟩, h1, h2⟩ => ?_, fun ⟨y, z, h1, h2, h3⟩ => ⟨(y, z), fz_tup2 h1 h2, h3⟩⟩
  cases h1 with
  | same => exact ⟨y, z, .same _, .same _, h2⟩
  | tup hl h => exact ⟨y, z, h 0 _ _ rfl rfl, h 1 _ _ rfl rfl, h2⟩
@[simp] theorem fin_er3 {Y Z W : Type} [Cod Y] [Cod Z] [Cod W] (q : Y × Z × W → Prop) (a b c : D) (H' : HMap) : Fin er3 q (.tup [a, b, c]) H' = ∃ y z w, FrzTo H' a (enc y) ∧ FrzTo H' b (enc z) ∧ FrzTo H' c (enc w) ∧ q (y, z, w) := by
  refine propext ⟨fun ⟨⟨y, z, w⟩, h1, h2⟩ => ?_, fun ⟨y, z, w, h1, h2, h3, h4⟩ => ⟨(y, z, w), fz_tup3 h1 h2 h3, h4⟩⟩
  cases h1 with
  | same => exact ⟨y, z, w, .same _, .same _, .same _, h2⟩
  | tup hl h => exact ⟨y, z, w, h 0 _ _ rfl rfl, h 1 _ _ rfl rfl, h 2 _ _ rfl rfl, h2⟩
@[simp] theorem er0_m (u : Unit) : er0 u = .tup [] := id rfl

/-! ### States -/
def addS : List (Nat × D) → Sg → Sg
  | [], σ => σ
  | (t, d) :: l, σ => upd (addS l σ) t d
def addH : List (Nat × Res) → HMap → HMap
  | [], H => H
  | (i, r) :: l, H => updH (addH l H) i (some r)
theorem addS_n (σ : Sg) : addS [] σ = σ := id rfl
@[simp] theorem addH_n (H : HMap) : addH [] H = H := id rfl
@[simp] theorem addH_c (i : Nat) (r : Res) (l : List (Nat × Res)) (H : HMap) : addH ((i, r) :: l) H = updH (addH l H) i (some r) := id rfl

def KeptS (ks : List Nat) (σ σ' : Sg) : Prop := ∀ t ∈ ks, σ' t = σ t
def KeptH (hk : List Nat) (H H' : HMap) : Prop := ∀ i ∈ hk, H' i = H i
@[simp] theorem kept_n (σ σ' : Sg) : KeptS [] σ σ' = True := by simp [KeptS]
@[simp] theorem kept_c (t : Nat) (ks : List Nat) (σ σ' : Sg) : KeptS (t :: ks) σ σ' = (σ' t = σ t ∧ KeptS ks σ σ') := by simp [KeptS]
@[simp] theorem keptH_n (σ σ' : HMap) : KeptH [] σ σ' = True := by simp [KeptH]
@[simp] theorem keptH_c (t : Nat) (ks : List Nat) (σ σ' : HMap) : KeptH (t :: ks) σ σ' = (σ' t = σ t ∧ KeptH ks σ σ') := by simp [KeptH]

theorem keepS_at (ks : List Nat) (σ : Sg) (t : Nat) : keepS ks σ t = if t ∈ ks then σ t else .any := by
  induction ks with
  | nil => simp [k_nil]
  | cons s ks ih =>
    rw [k_cons]
    simp only [upd, List.mem_cons]
    by_cases h : t = s
    · simp [h]
    · simp [h, ih]
theorem keepH_at (ks : List Nat) (σ : HMap) (t : Nat) : keepH ks σ t = if t ∈ ks then σ t else none := by
  induction ks with
  | nil => simp
  | cons s ks ih =>
    rw [kh_cons]
    simp only [updH, List.mem_cons]
    by_cases h : t = s
    · simp [h]
    · simp [h, ih]

/-- Less is known. -/
theorem wk_of {σ σ' : Sg} {H H' : HMap} (h1 : ∀ t, Sub (σ t) (σ' t)) (h2 : ∀ i r, H' i = some r → H i = some r ∨ isNilRow r) : Wk σ H σ' H' := by
  intro E a w hst
  obtain ⟨hd, hN, tp, hw, hr⟩ := hst
  have hm := hw.sub h2
  exact ⟨hd, hN, tp, hm.1, fun t => Sub_R (h1 t) (hm.2 _ _ (hr t))⟩

theorem sub_refl (d : D) : Sub d d := by simp

theorem wk_match {σ0 σ : Sg} {H0 H : HMap} {ks hk : List Nat} {sl : List (Nat × D)} {hp : List (Nat × Res)} (h1 : MatchS sl σ) (h2 : KeptS ks σ0 σ) (h3 : MatchH hp H) (h4 : KeptH hk H0 H) :
    Wk σ H (addS sl (keepS ks σ0)) (addH hp (keepH hk H0)) := by
  refine wk_of (fun t => ?_) (fun i r => ?_)
  · induction sl with
    | nil =>
      rw [addS_n, keepS_at]
      split
      · rename_i h; rw [← h2 t h]; exact sub_refl _
      · exact trivial
    | cons p sl ih =>
      obtain ⟨s, d⟩ := p
      simp only [addS, upd]
      split
      · rename_i e; subst e; exact h1.1
      · exact ih h1.2
  · induction hp with
    | nil =>
      rw [addH_n, keepH_at]
      split
      · rename_i h; rw [← h4 i h]; exact .inl
      · intro h; cases h
    | cons p hp ih =>
      obtain ⟨s, d⟩ := p
      simp only [addH, updH]
      split
      · rename_i e; subst e; intro h; cases h; exact h3.1
      · exact ih h3.2

/-- What is to be shown at the end of a round. -/
def Back (σ0 : Sg) (H0 : HMap) (ks hk : List Nat) (sl : List (Nat × D)) (hp : List (Nat × Res)) (σ : Sg) (H : HMap) : Prop := MatchS sl σ ∧ KeptS ks σ0 σ ∧ MatchH hp H ∧ KeptH hk H0 H
@[simp] theorem back_eq (σ0 : Sg) (H0 : HMap) (ks hk : List Nat) (sl : List (Nat × D)) (hp : List (Nat × Res)) (σ : Sg) (H : HMap) : Back σ0 H0 ks hk sl hp σ H = (MatchS sl σ ∧ KeptS ks σ0 σ ∧ MatchH hp H ∧ KeptH hk H0 H) := id rfl

def whlK {X : Type} (P : X → Prop) (B : X → Sg → HMap → Prop) (m : X → Nat) (x : X) (K : Ex → Sg → HMap → Prop) : Ex → Sg → HMap → Prop := fun e σ' H' => match e with
  | .norm => ∃ y, P y ∧ B y σ' H' ∧ m y < m x
  | e => K e σ' H'
@[simp ↓] theorem whlK_n {X : Type} (P : X → Prop) (B : X → Sg → HMap → Prop) (m : X → Nat) (x : X) (K : Ex → Sg → HMap → Prop) (σ' : Sg) (H' : HMap) : whlK P B m x K .norm σ' H' = ∃ y, P y ∧ B y σ' H' ∧ m y < m x := id rfl
@[simp ↓] theorem whlK_x {X : Type} (P : X → Prop) (B : X → Sg → HMap → Prop) (m : X → Nat) (x : X) (K : Ex → Sg → HMap → Prop) (i : Nat) (σ' : Sg) (H' : HMap) : whlK P B m x K (.ex i) σ' H' = K (.ex i) σ' H' := id rfl
@[simp ↓] theorem whlK_r {X : Type} (P : X → Prop) (B : X → Sg → HMap → Prop) (m : X → Nat) (x : X) (K : Ex → Sg → HMap → Prop) (σ' : Sg) (H' : HMap) : whlK P B m x K .ret σ' H' = K .ret σ' H' := id rfl

section
variable {S : Nat → Spc} {K : Ex → Sg → HMap → Prop} {σ : Sg} {H : HMap}

/-- A LOOP: what stays (ks, hk), what changes (sl, hp), as data x with P x. -/
theorem vc_while {X : Type} (ks hk : List Nat) (P : X → Prop) (sl : X → List (Nat × D)) (hp : X → List (Nat × Res)) (m : X → Nat) (x0 : X) {k : Nat} {b : CC} (h0 : P x0) (hs : MatchS (sl x0) σ) (hh : MatchH (hp x0) H)
    (hr : ∀ x, P x → vc S b (whlK P (fun y => Back σ H ks hk (sl y) (hp y)) m x K) (addS (sl x) (keepS ks σ)) (addH (hp x) (keepH hk H))) : vc S (.loop k b) K σ H := by
  rw [e_loop]
  refine ⟨⟨X, P, fun x => addS (sl x) (keepS ks σ), fun x => addH (hp x) (keepH hk H), m⟩, ⟨x0, h0, wk_match hs (fun _ _ => rfl) hh (fun _ _ => rfl)⟩, fun x hx => vc_mono b _ _ (fun e σ' H' h => ?_) (hr x hx)⟩
  cases e with
  | norm =>
    obtain ⟨y, h1, h2, h3⟩ := h
    exact ⟨y, h1, wk_match h2.1 h2.2.1 h2.2.2.1 h2.2.2.2, h3⟩
  | ex i => exact h
  | ret => exact h

def midK (Q : Sg → HMap → Prop) (K : Ex → Sg → HMap → Prop) : Ex → Sg → HMap → Prop := fun e σ' H' => match e with
  | .norm => Q σ' H'
  | e => K e σ' H'
@[simp ↓] theorem midK_n (Q : Sg → HMap → Prop) (σ' : Sg) (H' : HMap) : midK Q K .norm σ' H' = Q σ' H' := id rfl
@[simp ↓] theorem midK_x (Q : Sg → HMap → Prop) (i : Nat) (σ' : Sg) (H' : HMap) : midK Q K (.ex i) σ' H' = K (.ex i) σ' H' := id rfl
@[simp ↓] theorem midK_r (Q : Sg → HMap → Prop) (σ' : Sg) (H' : HMap) : midK Q K .ret σ' H' = K .ret σ' H' := id rfl
/-- Two pieces of text, with what holds between them. -/
def seqM (k : Nat) (a b : CC) : CC := .seq a (.cut k b)
theorem vc_mid {X : Type} (ks hk : List Nat) (P : X → Prop) (sl : X → List (Nat × D)) (hp : X → List (Nat × Res)) {k : Nat} {a b : CC}
    (ha : vc S a (midK (fun σ' H' => ∃ x, P x ∧ Back σ H ks hk (sl x) (hp x) σ' H') K) σ H)
    (hb : ∀ x, P x → vc S b K (addS (sl x) (keepS ks σ)) (addH (hp x) (keepH hk H))) : vc S (seqM k a b) K σ H := by
  unfold seqM
  rw [e_seq]
  refine vc_mono a _ _ (fun e σ' H' h => ?_) ha
  cases e with
  | norm =>
    obtain ⟨x, h1, h2⟩ := h
    rw [e_seqn, e_cut]
    exact ⟨_, _, wk_match h2.1 h2.2.1 h2.2.2.1 h2.2.2.2, hb x h1⟩
  | ex i => exact h
  | ret => exact h

/-- 'for i := range n', 'for i, x := range l': slot i counts to what slot n holds. -/
def rangeCC (id i n c id2 : Nat) (body : CC) (i2 : Nat) : CC :=
  .block id (.loop 0 (.seq (.reg [.op (some c) none (.cmp .lss (.tmp i) (.tmp n))]) (.seq (.ite (.tmp c) .skip (.exit id)) (.seq (.block id2 (.cut 0 body)) (.reg [.op (some i2) none (.arith .add (.tmp i) (.const (.int .i64 1))), .op (some i) none (.mv (.tmp i2))])))))

def rngK {X : Type} (id id2 i n : Nat) (len : Nat) (B : X → Sg → HMap → Prop) (P : X → Prop) (k : Nat) (K : Ex → Sg → HMap → Prop) : Ex → Sg → HMap → Prop := fun e σ' H' => match e with
  | .norm => σ' i = .v (.int .i64 k) ∧ σ' n = .v (.int .i64 len) ∧ ∃ y, P y ∧ B y σ' H'
  | .ex j => if j = id2 then σ' i = .v (.int .i64 k) ∧ σ' n = .v (.int .i64 len) ∧ ∃ y, P y ∧ B y σ' H' else if j = id then K .norm σ' H' else K (.ex j) σ' H'
  | .ret => K .ret σ' H'
@[simp ↓] theorem rngK_n {X : Type} (id id2 i n : Nat) (len : Nat) (B : X → Sg → HMap → Prop) (P : X → Prop) (k : Nat) (σ' : Sg) (H' : HMap) : rngK id id2 i n len B P k K .norm σ' H' = (σ' i = .v (.int .i64 k) ∧ σ' n = .v (.int .i64 len) ∧ ∃ y, P y ∧ B y σ' H') := _root_.id rfl
@[simp ↓] theorem rngK_x {X : Type} (id id2 i n : Nat) (len : Nat) (B : X → Sg → HMap → Prop) (P : X → Prop) (k j : Nat) (σ' : Sg) (H' : HMap) : rngK id id2 i n len B P k K (.ex j) σ' H' = (if j = id2 then σ' i = .v (.int .i64 k) ∧ σ' n = .v (.int .i64 len) ∧ ∃ y, P y ∧ B y σ' H' else if j = id then K .norm σ' H' else K (.ex j) σ' H') := _root_.id rfl
@[simp ↓] theorem rngK_r {X : Type} (id id2 i n : Nat) (len : Nat) (B : X → Sg → HMap → Prop) (P : X → Prop) (k : Nat) (σ' : Sg) (H' : HMap) : rngK id id2 i n len B P k K .ret σ' H' = K .ret σ' H' := _root_.id rfl

theorem matchS_upd {t : Nat} {d : D} : ∀ {sl : List (Nat × D)} {σ : Sg}, (∀ p ∈ sl, p.1 ≠ t) → MatchS sl σ → MatchS sl (upd σ t d)
  | [], _, _, _ => trivial
  | (s, e) :: sl, σ, h, hm => by
    refine ⟨?_, matchS_upd (fun p hp => h p (by simp [hp])) hm.2⟩
    have : s ≠ t := h (s, e) (by simp)
    simp only [upd, this, if_false]
    exact hm.1
theorem keptS_upd {t : Nat} {d : D} {ks : List Nat} {σ0 σ : Sg} (h : t ∉ ks) (hk : KeptS ks σ0 σ) : KeptS ks σ0 (upd σ t d) := fun s hs => by
  have : s ≠ t := fun e => h (e ▸ hs)
  simp only [upd, this, if_false]
  exact hk s hs

theorem vc_range {X : Type} (ks hk : List Nat) (len : Nat) (P : Nat → X → Prop) (sl : X → List (Nat × D)) (hp : X → List (Nat × Res)) (x0 : X) {id i n c id2 i2 : Nat} {body : CC}
    (hi : σ i = .v (.int .i64 0)) (hn : σ n = .v (.int .i64 len)) (hlen : (len : Int) ≤ 9223372036854775807) (hd : ([i, n, c, i2] ++ ks).Nodup) (hd2 : ∀ x, ∀ p ∈ sl x, p.1 ∉ [i, n, c, i2])
    (h0 : P 0 x0) (hs : MatchS (sl x0) σ) (hh : MatchH (hp x0) H)
    (hr : ∀ k x, k < len → P k x → vc S body (rngK id id2 i n len (fun y => Back σ H ks hk (sl y) (hp y)) (P (k + 1)) k K) (addS ((i, .v (.int .i64 k)) :: (n, .v (.int .i64 len)) :: sl x) (keepS ks σ)) (addH (hp x) (keepH hk H)))
    (he : ∀ x, P len x → K .norm (upd (addS ((i, .v (.int .i64 len)) :: (n, .v (.int .i64 len)) :: sl x) (keepS ks σ)) c (.v (.bool false))) (addH (hp x) (keepH hk H))) : vc S (rangeCC id i n c id2 body i2) K σ H := by
  have ne : i ≠ n ∧ i ≠ c ∧ i ≠ i2 ∧ n ≠ c ∧ n ≠ i2 ∧ c ≠ i2 ∧ i ∉ ks ∧ n ∉ ks ∧ c ∉ ks ∧ i2 ∉ ks := by
    simp only [List.cons_append, List.nil_append, List.nodup_cons, List.mem_cons, not_or] at hd
    obtain ⟨⟨h1, h2, h3, h4⟩, ⟨h5, h6, h7⟩, ⟨h8, h9⟩, h10, _⟩ := hd
    exact ⟨h1, h2, h3, h5, h6, h8, h4, h7, h9, h10⟩
  obtain ⟨n1, n2, n3, n4, n5, n6, m1, m2, m3, m4⟩ := ne
  have sn : ∀ x t, t ∈ [i, n, c, i2] → ∀ p ∈ sl x, p.1 ≠ t := fun x t ht p hp e => hd2 x p hp (e ▸ ht)
  -- the state at the loop's head
  let st : Nat × X → Sg := fun x => addS ((i, .v (.int .i64 x.1)) :: (n, .v (.int .i64 len)) :: sl x.2) (keepS ks σ)
  let sh : Nat × X → HMap := fun x => addH (hp x.2) (keepH hk H)
  have back : ∀ (k : Nat) (y : X) (σ' : Sg) (H' : HMap), σ' i = .v (.int .i64 k) → σ' n = .v (.int .i64 len) → Back σ H ks hk (sl y) (hp y) σ' H' → Wk σ' H' (st (k, y)) (sh (k, y)) := by
    intro k y σ' H' e1 e2 ⟨b1, b2, b3, b4⟩
    exact wk_match (sl := (i, .v (.int .i64 k)) :: (n, .v (.int .i64 len)) :: sl y) ⟨by rw [e1]; exact sub_refl _, by rw [e2]; exact sub_refl _, b1⟩ b2 b3 b4
  unfold rangeCC
  rw [e_block, e_loop]
  refine ⟨⟨Nat × X, fun x => x.1 ≤ len ∧ P x.1 x.2, st, sh, fun x => len - x.1⟩, ⟨(0, x0), ⟨Nat.zero_le _, h0⟩, back 0 x0 σ H hi hn ⟨hs, fun _ _ => rfl, hh, fun _ _ => rfl⟩⟩, ?_⟩
  rintro ⟨k, x⟩ ⟨hkl, hP⟩
  have si : st (k, x) i = .v (.int .i64 k) := by simp [st, addS, upd]
  have sN : st (k, x) n = .v (.int .i64 len) := by
    have : ¬ n = i := fun e => n1 e.symm
    simp [st, addS, upd, this]
  let inv : Inv := ⟨Nat × X, fun x => x.1 ≤ len ∧ P x.1 x.2, st, sh, fun x => len - x.1⟩
  change vc S _ (lopK inv (k, x) (blkK id K)) (st (k, x)) (sh (k, x))
  rw [e_seq, e_reg, l_op, c_cmp]
  simp only [v_tmp, si, sN, cmpX_i, true_and, cmpB_lss, cmpO_s]
  rw [l_nil, e_seqn, e_seq, e_ite]
  have sc : ev (updO (st (k, x)) (some c) (.v (.bool (decide ((k : Int) < len))))) (.tmp c) = .v (.bool (decide ((k : Int) < len))) := by simp [upd]
  rw [sc, e_itex]
  refine ⟨fun hlt => ?_, fun hge => ?_⟩
  · have hlt' : k < len := by simpa using hlt
    rw [e_skip, e_seqn, e_seq, e_block, e_cut]
    refine ⟨st (k, x), sh (k, x), wk_of (fun t => ?_) (fun _ _ h => .inl h), ?_⟩
    · rw [u_updO, u_upd]
      split
      · rename_i e
        subst e
        have e1 : st (k, x) t = .any := by
          have hsl : ∀ (l : List (Nat × D)), (∀ p ∈ l, p.1 ≠ t) → addS l (keepS ks σ) t = .any := by
            intro l
            induction l with
            | nil => intro _; rw [addS_n, keepS_at, if_neg m3]
            | cons p l ih =>
              obtain ⟨s, d⟩ := p
              intro h
              have : ¬ t = s := fun e => h (s, d) (by simp) e.symm
              simp only [addS, upd, this, if_false]
              exact ih fun p hp => h p (by simp [hp])
          have h1 : ¬ t = i := fun e => n2 e.symm
          have h2 : ¬ t = n := fun e => n4 e.symm
          simp only [st, addS, upd, h1, h2, if_false]
          exact hsl _ (sn x t (by simp))
        rw [e1]
        exact trivial
      · exact sub_refl _
    · refine vc_mono body _ _ (fun e σ' H' h => ?_) (hr k x hlt' hP)
      have fin : ∀ σ' H', (σ' i = .v (.int .i64 k) ∧ σ' n = .v (.int .i64 len) ∧ ∃ y, P (k + 1) y ∧ Back σ H ks hk (sl y) (hp y) σ' H') →
          seqK S (.reg [.op (some i2) none (.arith .add (.tmp i) (.const (.int .i64 1))), .op (some i) none (.mv (.tmp i2))]) (lopK inv (k, x) (blkK id K)) .norm σ' H' := by
        intro σ' H' ⟨e1, e2, y, hy, hb⟩
        rw [e_seqn, e_reg, l_op, c_arith]
        simp only [v_tmp, v_const, v_int, e1, arithX_i, true_and, arith_add, InR]
        refine ⟨by omega, ?_⟩
        rw [l_op, c_mv]
        dsimp only
        rw [l_nil]
        simp only [v_tmp, u_updO]
        rw [e_lopn]
        refine ⟨(k + 1, y), ⟨by show k + 1 ≤ len; omega, hy⟩, back (k + 1) y _ _ ?_ ?_ ?_, by show len - (k + 1) < len - k; omega⟩
        · simp [upd]
        · have h1 : ¬ n = i := fun e => n1 e.symm
          simp [upd, h1, n5, e2]
        · exact ⟨matchS_upd (sn y i (by simp)) (matchS_upd (sn y i2 (by simp)) hb.1), keptS_upd m1 (keptS_upd m4 hb.2.1), hb.2.2.1, hb.2.2.2⟩
      cases e with
      | norm => rw [e_blkn]; exact fin σ' H' h
      | ret =>
        rw [e_blkr, e_seqr, e_lopr, e_blkr]
        exact h
      | ex j =>
        rw [e_blkx]
        have h : if j = id2 then σ' i = .v (.int .i64 k) ∧ σ' n = .v (.int .i64 len) ∧ ∃ y, P (k + 1) y ∧ Back σ H ks hk (sl y) (hp y) σ' H' else if j = id then K .norm σ' H' else K (.ex j) σ' H' := h
        split
        · rename_i e; rw [if_pos e] at h; exact fin σ' H' h
        · rename_i e; rw [if_neg e] at h
          rw [e_seqx, e_lopx, e_blkx]
          exact h
  · have hge' : k = len := by
      have : ¬ ((k : Int) < len) := by simpa using hge
      have : k ≤ len := hkl
      omega
    subst hge'
    rw [e_exit, e_seqx, e_lopx, e_blkx, if_pos rfl]
    have : decide ((k : Int) < k) = false := by simp
    rw [this]
    exact he x hP
end
end Go.Gv
