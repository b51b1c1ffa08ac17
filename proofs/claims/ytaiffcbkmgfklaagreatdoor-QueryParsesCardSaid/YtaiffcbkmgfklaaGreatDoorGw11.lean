/- A part of the framework and of the walks: T12 T13 V1. -/
import Derived.Test.YtaiffcbkmgfklaaGreatDoorGw10
set_option linter.unusedSimpArgs false
set_option linter.unusedVariables false

namespace Go.Gv
open Cod (enc dec)

/-! ### Contracts -/
/-- How the arguments of a function are read. -/
structure Arg (X : Type) where
 dec : List D → Option X
 view : X → List D
 le : ∀ ds x, dec ds = some x → LeL ds (view x)

/-- The contract of a pure function: what it asks, how its result is written, what it says of it. -/
def spc {X Y : Type} (A : Arg X) (pre : X → Prop) (er : Y → D) (post : X → Y → Prop) : Spc := pureC A.dec pre fun x r => ∃ y, r = er y ∧ post x y

def optX {X : Type} (o : Option X) (k : X → Prop) : Prop := match o with | some x => k x | none => False
@[congr] theorem optX_cg {X : Type} {o o' : Option X} {k : X → Prop} (h : o = o') : optX o k = optX o' k := by subst h; rfl
@[simp] theorem optX_s {X : Type} (x : X) (k : X → Prop) : optX (some x) k = k x := id rfl
@[simp] theorem spc_pt {X Y : Type} (A : Arg X) (pre : X → Prop) (er : Y → D) (post : X → Y → Prop) (d : Nat) (ds : List D) (H : HMap) (K : D → HMap → Prop) :
 (spc A pre er post).pt d ds H K = optX (A.dec ds) fun x => pre x ∧ ∀ y, post x y → K (er y) H := by
 refine propext ⟨fun h => ?_, fun h => ?_⟩
 ·obtain ⟨⟨x, h1, h2⟩, h3⟩ := h
  rw [h1]
  refine ⟨h2, fun y hy => h3 _ fun x' hx' _ => ?_⟩
  rw [h1] at hx'
  cases hx'
  exact ⟨y, rfl, hy⟩
 ·cases hd : A.dec ds with
  | none => rw [hd] at h; exact h.elim
  | some x =>
    rw [hd] at h
    refine use_pure x hd h.1 ?_
    rintro r ⟨y, rfl, hy⟩
    exact h.2 y hy

@[simp] theorem spc_pre {X Y : Type} (A : Arg X) (pre : X → Prop) (er : Y → D) (post : X → Y → Prop) (dst : Option Nat) (ds : List D) (H : HMap) (K : D → HMap → Prop) :
 preX dst (spc A pre er post) ds H K = optX (A.dec ds) fun x => pre x ∧ ∀ y, post x y → K (er y) H := spc_pt A pre er post 0 ds H K

/-- What is given back stands for some y of which q holds. -/
def Fin {Y : Type} (er : Y → D) (q : Y → Prop) (r : D) (H' : HMap) : Prop := ∃ y, FrzTo H' r (er y) ∧ q y
theorem fin_of {Y : Type} {er : Y → D} {q : Y → Prop} {r : D} {H' : HMap} (y : Y) (h : FrzTo H' r (er y)) (hq : q y) : Fin er q r H' := ⟨y, h, hq⟩
@[simp] theorem fin_int (q : Int → Prop) (n : Int) (H' : HMap) : Fin enc q (.v (.int .i64 n)) H' = q n := by
 simp [Fin, enc_int]
@[simp] theorem fin_bool (q : Bool → Prop) (n : Bool) (H' : HMap) : Fin enc q (.v (.bool n)) H' = q n := by
 refine propext ⟨fun ⟨y, h1, h2⟩ => ?_, fun h => ⟨n, .same _, h⟩⟩
 rw [enc_bool, fz_v] at h1
 cases h1
 exact h2
@[simp] theorem fin_str (q : ByteArray → Prop) (n : ByteArray) (H' : HMap) : Fin enc q (.v (.string n)) H' = q n := by
 refine propext ⟨fun ⟨y, h1, h2⟩ => ?_, fun h => ⟨n, .same _, h⟩⟩
 rw [enc_str, fz_v] at h1
 cases h1
 exact h2
/-- The condition of a function's text. -/
def Walk {X Y : Type} (cc : CC) (rs : List CRes) (S : Nat → Spc) (A : Arg X) (pre : X → Prop) (er : Y → D) (post : X → Y → Prop) : Prop :=
 ∀ x, pre x → vc S cc (retK rs fun r H' => Fin er (post x) r H') (initS (A.view x)) noH

theorem tri_walk {P : Program} {S : Nat → Spc} {f : Nat} {im : List Nat} {cc : CC} {rs : List CRes} {N : Nat} {X Y : Type} {A : Arg X} {pre : X → Prop} {er : Y → D} {post : X → Y → Prop}
 (hS : ∀ f, Tri P f (S f).pt) (h : FnOk P f im cc rs N) (hN : ∀ x, (A.view x).length ≤ N) (hw : Walk cc rs S A pre er post) : Tri P f (spc A pre er post).pt :=
 tri_pure hS h A.le hN fun x hp => by
  refine vc_mono cc _ _ (fun e σ H h => ?_) (hw x hp)
  cases e with
  | ex i => exact h
  | _ =>
    simp only [retK] at h ⊢
    have key : ∀ (rs : List CRes) (F G : List D → Prop), (∀ ds, F ds → G ds) → resL rs σ H F → resL rs σ H G := by
     intro rs
     induction rs with
     | nil => exact fun F G hFG h => hFG _ h
     | cons r rs ih =>
       intro F G hFG h
       cases r with
       | tmp t => exact ih _ _ (fun ds h => hFG _ h) h
       | cell t agg sz => exact readVC_mono (fun d h => ih _ _ (fun ds h => hFG _ h) h) h
    exact key rs _ _ (fun ds ⟨y, h1, h2⟩ => ⟨_, h1, y, rfl, h2⟩) h

theorem callEnter {P : Program} {f : Nat} {fn : Func} {c : Code} (h : P.funcs[f]? = some fn) (hn : (fn.name == "runtime.NumGoroutine") = false) (hb : fn.body = some c) : CallEnter P f := by
 intro args w
 have hn' : ¬ fn.name = "runtime.NumGoroutine" := by simpa using hn
 unfold callFunc
 simp [h, hn', hb]

theorem fnOk1 {P : Program} {f : Nat} {im : List Nat} {cc : CC} {rs : List CRes} {N : Nat} (mix : P.follows .mixedOrders = true)
 (h : ((P.funcs[f]?).bind fun g => if g.name == "runtime.NumGoroutine" then none else g.body.bind fun c => (compileC P im g.ntmps c).bind fun cc => (g.results.toList.mapM (compileRes P)).bind fun rs => some (g.ntmps, cc, rs)) = some (N, strip cc, rs)) : FnOk P f im cc rs N := by
 cases hf : P.funcs[f]? with
 | none => rw [hf] at h; cases h
 | some fn =>
   rw [hf] at h
   simp only [Option.bind_some] at h
   split at h
   ·cases h
   ·rename_i hn
    simp only [Option.bind_eq_some_iff, Option.some.injEq, Prod.mk.injEq] at h
    obtain ⟨c, hb, q, hq, r, hr, rfl, rfl, rfl⟩ := h
    exact ⟨mix, callEnter hf (by simpa using hn) hb, fn, c, hf, hb, rfl, hq, hr⟩

/-! ### Arguments -/
def a0 : Arg Unit := ⟨dec0, fun _ => [], le0⟩
def a1 (X : Type) [Cod X] : Arg X := ⟨dec1, fun x => [enc x], le1⟩
def a2 (X Y : Type) [Cod X] [Cod Y] : Arg (X × Y) := ⟨dec2, fun x => [enc x.1, enc x.2], le2⟩
def a3 (X Y Z : Type) [Cod X] [Cod Y] [Cod Z] : Arg (X × Y × Z) := ⟨dec3, fun x => [enc x.1, enc x.2.1, enc x.2.2], le3⟩
def a4 (X Y Z W : Type) [Cod X] [Cod Y] [Cod Z] [Cod W] : Arg (X × Y × Z × W) := ⟨dec4, fun x => [enc x.1, enc x.2.1, enc x.2.2.1, enc x.2.2.2], le4⟩

/-- A tape ahead of the other arguments. -/
def aT {X : Type} (A : Arg X) : Arg (List Int × X) := ⟨fun ds => match ds with | .tape L :: r => (A.dec r).map fun x => (L, x) | _ => none, fun x => .tape x.1 :: A.view x.2, fun ds x h => by
 split at h
 ·simp only [Option.map_eq_some_iff] at h
  obtain ⟨y, hy, rfl⟩ := h
  exact .cons (.same _) (A.le _ _ hy)
 ·cases h⟩

@[simp] theorem a0_dec : a0.dec [] = some () := id rfl
@[simp] theorem a1_dec {X : Type} [Cod X] (a : D) : (a1 X).dec [a] = dec a := id rfl
@[simp] theorem a2_dec {X Y : Type} [Cod X] [Cod Y] (a b : D) : (a2 X Y).dec [a, b] = (dec a).bind fun x => (dec b).bind fun y => some (x, y) := id rfl
@[simp] theorem a3_dec {X Y Z : Type} [Cod X] [Cod Y] [Cod Z] (a b c : D) : (a3 X Y Z).dec [a, b, c] = (dec a).bind fun x => (dec b).bind fun y => (dec c).bind fun z => some (x, y, z) := id rfl
@[simp] theorem a4_dec {X Y Z W : Type} [Cod X] [Cod Y] [Cod Z] [Cod W] (a b c d : D) : (a4 X Y Z W).dec [a, b, c, d] = (dec a).bind fun x => (dec b).bind fun y => (dec c).bind fun z => (dec d).bind fun w => some (x, y, z, w) := id rfl
@[simp] theorem aT_dec {X : Type} (A : Arg X) (L : List Int) (r : List D) : (aT A).dec (.tape L :: r) = (A.dec r).map fun x => (L, x) := id rfl
@[simp] theorem a0_view (x : Unit) : a0.view x = [] := id rfl
@[simp] theorem a1_view {X : Type} [Cod X] (x : X) : (a1 X).view x = [enc x] := id rfl
@[simp] theorem a2_view {X Y : Type} [Cod X] [Cod Y] (x : X) (y : Y) : (a2 X Y).view (x, y) = [enc x, enc y] := id rfl
@[simp] theorem a3_view {X Y Z : Type} [Cod X] [Cod Y] [Cod Z] (x : X) (y : Y) (z : Z) : (a3 X Y Z).view (x, y, z) = [enc x, enc y, enc z] := id rfl
@[simp] theorem a4_view {X Y Z W : Type} [Cod X] [Cod Y] [Cod Z] [Cod W] (x : X) (y : Y) (z : Z) (w : W) : (a4 X Y Z W).view (x, y, z, w) = [enc x, enc y, enc z, enc w] := id rfl
attribute [simp] Cod.dec_enc
@[simp] theorem de_int (n : Int) : dec (X := Int) (.v (.int .i64 n)) = some n := id rfl
@[simp] theorem de_bool (n : Bool) : dec (X := Bool) (.v (.bool n)) = some n := id rfl
@[simp] theorem de_str (n : ByteArray) : dec (X := ByteArray) (.v (.string n)) = some n := id rfl
@[simp] theorem de_list {X : Type} [Cod X] (n : Nat) (es : List D) : dec (X := List X) (.list n es) = if n = Cod.wd X then es.mapM (dec (X := X)) else none := id rfl
attribute [simp] mapM_enc
@[simp] theorem mapM_enc' {X : Type} [Cod X] (l : List X) : l.mapM (dec (X := X) ∘ enc) = some l := by
 have := mapM_enc l
 rwa [List.mapM_map] at this
/-! ### Results -/
def er2 {Y Z : Type} [Cod Y] [Cod Z] (p : Y × Z) : D := .tup [enc p.1, enc p.2]
def er3 {Y Z W : Type} [Cod Y] [Cod Z] [Cod W] (p : Y × Z × W) : D := .tup [enc p.1, enc p.2.1, enc p.2.2]
def er0 (_ : Unit) : D := .tup []
@[simp] theorem er2_m {Y Z : Type} [Cod Y] [Cod Z] (y : Y) (z : Z) : er2 (y, z) = .tup [enc y, enc z] := id rfl
@[simp] theorem er3_m {Y Z W : Type} [Cod Y] [Cod Z] [Cod W] (y : Y) (z : Z) (w : W) : er3 (y, z, w) = .tup [enc y, enc z, enc w] := id rfl
@[simp] theorem fin_er2 {Y Z : Type} [Cod Y] [Cod Z] (q : Y × Z → Prop) (a b : D) (H' : HMap) : Fin er2 q (.tup [a, b]) H' = ∃ y z, FrzTo H' a (enc y) ∧ FrzTo H' b (enc z) ∧ q (y, z) := by
 refine propext ⟨fun ⟨⟨y, z⟩, h1, h2⟩ => ?_, fun ⟨y, z, h1, h2, h3⟩ => ⟨(y, z), fz_tup2 h1 h2, h3⟩⟩
 cases h1 with
 | same => exact ⟨y, z, .same _, .same _, h2⟩
 | tup hl h => exact ⟨y, z, h 0 _ _ rfl rfl, h 1 _ _ rfl rfl, h2⟩
@[simp] theorem fin_er3 {Y Z W : Type} [Cod Y] [Cod Z] [Cod W] (q : Y × Z × W → Prop) (a b c : D) (H' : HMap) : Fin er3 q (.tup [a, b, c]) H' = ∃ y z w, FrzTo H' a (enc y) ∧ FrzTo H' b (enc z) ∧ FrzTo H' c (enc w) ∧ q (y, z, w) := by
 refine propext ⟨fun ⟨⟨y, z, w⟩, h1, h2⟩ => ?_, fun ⟨y, z, w, h1, h2, h3, h4⟩ => ⟨(y, z, w), fz_tup3 h1 h2 h3, h4⟩⟩
 cases h1 with
 | same => exact ⟨y, z, w, .same _, .same _, .same _, h2⟩
 | tup hl h => exact ⟨y, z, w, h 0 _ _ rfl rfl, h 1 _ _ rfl rfl, h 2 _ _ rfl rfl, h2⟩
@[simp] theorem er0_m (u : Unit) : er0 u = .tup [] := id rfl

/-! ### States -/
def addS : List (Nat × D) → Sg → Sg
 | [], σ => σ
 | (t, d) :: l, σ => upd (addS l σ) t d
def addH : List (Nat × Res) → HMap → HMap
 | [], H => H
 | (i, r) :: l, H => updH (addH l H) i (some r)
theorem addS_n (σ : Sg) : addS [] σ = σ := id rfl
@[simp] theorem addH_n (H : HMap) : addH [] H = H := id rfl
@[simp] theorem addH_c (i : Nat) (r : Res) (l : List (Nat × Res)) (H : HMap) : addH ((i, r) :: l) H = updH (addH l H) i (some r) := id rfl

def KeptS (ks : List Nat) (σ σ' : Sg) : Prop := ∀ t ∈ ks, σ' t = σ t
def KeptH (hk : List Nat) (H H' : HMap) : Prop := ∀ i ∈ hk, H' i = H i
@[simp] theorem kept_n (σ σ' : Sg) : KeptS [] σ σ' = True := by simp [KeptS]
@[simp] theorem kept_c (t : Nat) (ks : List Nat) (σ σ' : Sg) : KeptS (t :: ks) σ σ' = (σ' t = σ t ∧ KeptS ks σ σ') := by simp [KeptS]
@[simp] theorem keptH_n (σ σ' : HMap) : KeptH [] σ σ' = True := by simp [KeptH]
@[simp] theorem keptH_c (t : Nat) (ks : List Nat) (σ σ' : HMap) : KeptH (t :: ks) σ σ' = (σ' t = σ t ∧ KeptH ks σ σ') := by simp [KeptH]

theorem keepS_at (ks : List Nat) (σ : Sg) (t : Nat) : keepS ks σ t = if t ∈ ks then σ t else .any := by
 induction ks with
 | nil => simp [k_nil]
 | cons s ks ih =>
   rw [k_cons]
   simp only [upd, List.mem_cons]
   by_cases h : t = s
   ·simp [h]
   ·simp [h, ih]
theorem keepH_at (ks : List Nat) (σ : HMap) (t : Nat) : keepH ks σ t = if t ∈ ks then σ t else none := by
 induction ks with
 | nil => simp
 | cons s ks ih =>
   rw [kh_cons]
   simp only [updH, List.mem_cons]
   by_cases h : t = s
   ·simp [h]
   ·simp [h, ih]

/-- Less is known. -/
theorem wk_of {σ σ' : Sg} {H H' : HMap} (h1 : ∀ t, Sub (σ t) (σ' t)) (h2 : ∀ i r, H' i = some r → H i = some r ∨ isNilRow r) : Wk σ H σ' H' := by
 intro E a w hst
 obtain ⟨hd, hN, tp, hw, hr⟩ := hst
 have hm := hw.sub h2
 exact ⟨hd, hN, tp, hm.1, fun t => Sub_R (h1 t) (hm.2 _ _ (hr t))⟩

theorem sub_refl (d : D) : Sub d d := by simp

theorem wk_match {σ0 σ : Sg} {H0 H : HMap} {ks hk : List Nat} {sl : List (Nat × D)} {hp : List (Nat × Res)} (h1 : MatchS sl σ) (h2 : KeptS ks σ0 σ) (h3 : MatchH hp H) (h4 : KeptH hk H0 H) :
 Wk σ H (addS sl (keepS ks σ0)) (addH hp (keepH hk H0)) := by
 refine wk_of (fun t => ?_) (fun i r => ?_)
 ·induction sl with
  | nil =>
    rw [addS_n, keepS_at]
    split
    ·rename_i h; rw [← h2 t h]; exact sub_refl _
    ·exact trivial
  | cons p sl ih =>
    obtain ⟨s, d⟩ := p
    simp only [addS, upd]
    split
    ·rename_i e; subst e; exact h1.1
    ·exact ih h1.2
 ·induction hp with
  | nil =>
    rw [addH_n, keepH_at]
    split
    ·rename_i h; rw [← h4 i h]; exact .inl
    ·intro h; cases h
  | cons p hp ih =>
    obtain ⟨s, d⟩ := p
    simp only [addH, updH]
    split
    ·rename_i e; subst e; intro h; cases h; exact h3.1
    ·exact ih h3.2

/-- What is to be shown at the end of a round. -/
def Back (σ0 : Sg) (H0 : HMap) (ks hk : List Nat) (sl : List (Nat × D)) (hp : List (Nat × Res)) (σ : Sg) (H : HMap) : Prop := MatchS sl σ ∧ KeptS ks σ0 σ ∧ MatchH hp H ∧ KeptH hk H0 H
@[simp] theorem back_eq (σ0 : Sg) (H0 : HMap) (ks hk : List Nat) (sl : List (Nat × D)) (hp : List (Nat × Res)) (σ : Sg) (H : HMap) : Back σ0 H0 ks hk sl hp σ H = (MatchS sl σ ∧ KeptS ks σ0 σ ∧ MatchH hp H ∧ KeptH hk H0 H) := id rfl

def whlK {X : Type} (P : X → Prop) (B : X → Sg → HMap → Prop) (m : X → Nat) (x : X) (K : Ex → Sg → HMap → Prop) : Ex → Sg → HMap → Prop := fun e σ' H' => match e with
 | .norm => ∃ y, P y ∧ B y σ' H' ∧ m y < m x
 | e => K e σ' H'
@[simp ↓] theorem whlK_n {X : Type} (P : X → Prop) (B : X → Sg → HMap → Prop) (m : X → Nat) (x : X) (K : Ex → Sg → HMap → Prop) (σ' : Sg) (H' : HMap) : whlK P B m x K .norm σ' H' = ∃ y, P y ∧ B y σ' H' ∧ m y < m x := id rfl
@[simp ↓] theorem whlK_x {X : Type} (P : X → Prop) (B : X → Sg → HMap → Prop) (m : X → Nat) (x : X) (K : Ex → Sg → HMap → Prop) (i : Nat) (σ' : Sg) (H' : HMap) : whlK P B m x K (.ex i) σ' H' = K (.ex i) σ' H' := id rfl
@[simp ↓] theorem whlK_r {X : Type} (P : X → Prop) (B : X → Sg → HMap → Prop) (m : X → Nat) (x : X) (K : Ex → Sg → HMap → Prop) (σ' : Sg) (H' : HMap) : whlK P B m x K .ret σ' H' = K .ret σ' H' := id rfl

section
variable {S : Nat → Spc} {K : Ex → Sg → HMap → Prop} {σ : Sg} {H : HMap}

/-- A LOOP: what stays (ks, hk), what changes (sl, hp), as data x with P x. -/
theorem vc_while {X : Type} (ks hk : List Nat) (P : X → Prop) (sl : X → List (Nat × D)) (hp : X → List (Nat × Res)) (m : X → Nat) (x0 : X) {k : Nat} {b : CC} (h0 : P x0) (hs : MatchS (sl x0) σ) (hh : MatchH (hp x0) H)
 (hr : ∀ x, P x → vc S b (whlK P (fun y => Back σ H ks hk (sl y) (hp y)) m x K) (addS (sl x) (keepS ks σ)) (addH (hp x) (keepH hk H))) : vc S (.loop k b) K σ H := by
 rw [e_loop]
 refine ⟨⟨X, P, fun x => addS (sl x) (keepS ks σ), fun x => addH (hp x) (keepH hk H), m⟩, ⟨x0, h0, wk_match hs (fun _ _ => rfl) hh (fun _ _ => rfl)⟩, fun x hx => vc_mono b _ _ (fun e σ' H' h => ?_) (hr x hx)⟩
 cases e with
 | norm =>
   obtain ⟨y, h1, h2, h3⟩ := h
   exact ⟨y, h1, wk_match h2.1 h2.2.1 h2.2.2.1 h2.2.2.2, h3⟩
 | ex i => exact h
 | ret => exact h

def midK (Q : Sg → HMap → Prop) (K : Ex → Sg → HMap → Prop) : Ex → Sg → HMap → Prop := fun e σ' H' => match e with
 | .norm => Q σ' H'
 | e => K e σ' H'
@[simp ↓] theorem midK_n (Q : Sg → HMap → Prop) (σ' : Sg) (H' : HMap) : midK Q K .norm σ' H' = Q σ' H' := id rfl
@[simp ↓] theorem midK_r (Q : Sg → HMap → Prop) (σ' : Sg) (H' : HMap) : midK Q K .ret σ' H' = K .ret σ' H' := id rfl
/-- Two pieces of text, with what holds between them. -/
def seqM (k : Nat) (a b : CC) : CC := .seq a (.cut k b)
theorem vc_mid {X : Type} (ks hk : List Nat) (P : X → Prop) (sl : X → List (Nat × D)) (hp : X → List (Nat × Res)) {k : Nat} {a b : CC}
 (ha : vc S a (midK (fun σ' H' => ∃ x, P x ∧ Back σ H ks hk (sl x) (hp x) σ' H') K) σ H)
 (hb : ∀ x, P x → vc S b K (addS (sl x) (keepS ks σ)) (addH (hp x) (keepH hk H))) : vc S (seqM k a b) K σ H := by
 unfold seqM
 rw [e_seq]
 refine vc_mono a _ _ (fun e σ' H' h => ?_) ha
 cases e with
 | norm =>
   obtain ⟨x, h1, h2⟩ := h
   rw [e_seqn, e_cut]
   exact ⟨_, _, wk_match h2.1 h2.2.1 h2.2.2.1 h2.2.2.2, hb x h1⟩
 | ex i => exact h
 | ret => exact h

/-- 'for i := range n', 'for i, x := range l': slot i counts to what slot n holds. -/
def rangeCC (id i n c id2 : Nat) (body : CC) (i2 : Nat) : CC :=
 .block id (.loop 0 (.seq (.reg [.op (some c) none (.cmp .lss (.tmp i) (.tmp n))]) (.seq (.ite (.tmp c) .skip (.exit id)) (.seq (.block id2 (.cut 0 body)) (.reg [.op (some i2) none (.arith .add (.tmp i) (.const (.int .i64 1))), .op (some i) none (.mv (.tmp i2))])))))

def rngK {X : Type} (id id2 i n : Nat) (len : Nat) (B : X → Sg → HMap → Prop) (P : X → Prop) (k : Nat) (K : Ex → Sg → HMap → Prop) : Ex → Sg → HMap → Prop := fun e σ' H' => match e with
 | .norm => σ' i = .v (.int .i64 k) ∧ σ' n = .v (.int .i64 len) ∧ ∃ y, P y ∧ B y σ' H'
 | .ex j => if j = id2 then σ' i = .v (.int .i64 k) ∧ σ' n = .v (.int .i64 len) ∧ ∃ y, P y ∧ B y σ' H' else if j = id then K .norm σ' H' else K (.ex j) σ' H'
 | .ret => K .ret σ' H'
@[simp ↓] theorem rngK_n {X : Type} (id id2 i n : Nat) (len : Nat) (B : X → Sg → HMap → Prop) (P : X → Prop) (k : Nat) (σ' : Sg) (H' : HMap) : rngK id id2 i n len B P k K .norm σ' H' = (σ' i = .v (.int .i64 k) ∧ σ' n = .v (.int .i64 len) ∧ ∃ y, P y ∧ B y σ' H') := _root_.id rfl
@[simp ↓] theorem rngK_x {X : Type} (id id2 i n : Nat) (len : Nat) (B : X → Sg → HMap → Prop) (P : X → Prop) (k j : Nat) (σ' : Sg) (H' : HMap) : rngK id id2 i n len B P k K (.ex j) σ' H' = (if j = id2 then σ' i = .v (.int .i64 k) ∧ σ' n = .v (.int .i64 len) ∧ ∃ y, P y ∧ B y σ' H' else if j = id then K .norm σ' H' else K (.ex j) σ' H') := _root_.id rfl
@[simp ↓] theorem rngK_r {X : Type} (id id2 i n : Nat) (len : Nat) (B : X → Sg → HMap → Prop) (P : X → Prop) (k : Nat) (σ' : Sg) (H' : HMap) : rngK id id2 i n len B P k K .ret σ' H' = K .ret σ' H' := _root_.id rfl

theorem matchS_upd {t : Nat} {d : D} : ∀ {sl : List (Nat × D)} {σ : Sg}, (∀ p ∈ sl, p.1 ≠ t) → MatchS sl σ → MatchS sl (upd σ t d)
 | [], _, _, _ => trivial
 | (s, e) :: sl, σ, h, hm => by
  refine ⟨?_, matchS_upd (fun p hp => h p (by simp [hp])) hm.2⟩
  have : s ≠ t := h (s, e) (by simp)
  simp only [upd, this, if_false]
  exact hm.1
theorem keptS_upd {t : Nat} {d : D} {ks : List Nat} {σ0 σ : Sg} (h : t ∉ ks) (hk : KeptS ks σ0 σ) : KeptS ks σ0 (upd σ t d) := fun s hs => by
 have : s ≠ t := fun e => h (e ▸ hs)
 simp only [upd, this, if_false]
 exact hk s hs

theorem vc_range {X : Type} (ks hk : List Nat) (len : Nat) (P : Nat → X → Prop) (sl : X → List (Nat × D)) (hp : X → List (Nat × Res)) (x0 : X) {id i n c id2 i2 : Nat} {body : CC}
 (hi : σ i = .v (.int .i64 0)) (hn : σ n = .v (.int .i64 len)) (hlen : (len : Int) ≤ 9223372036854775807) (hd : ([i, n, c, i2] ++ ks).Nodup) (hd2 : ∀ x, ∀ p ∈ sl x, p.1 ∉ [i, n, c, i2])
 (h0 : P 0 x0) (hs : MatchS (sl x0) σ) (hh : MatchH (hp x0) H)
 (hr : ∀ k x, k < len → P k x → vc S body (rngK id id2 i n len (fun y => Back σ H ks hk (sl y) (hp y)) (P (k + 1)) k K) (addS ((i, .v (.int .i64 k)) :: (n, .v (.int .i64 len)) :: sl x) (keepS ks σ)) (addH (hp x) (keepH hk H)))
 (he : ∀ x, P len x → K .norm (upd (addS ((i, .v (.int .i64 len)) :: (n, .v (.int .i64 len)) :: sl x) (keepS ks σ)) c (.v (.bool false))) (addH (hp x) (keepH hk H))) : vc S (rangeCC id i n c id2 body i2) K σ H := by
 have ne : i ≠ n ∧ i ≠ c ∧ i ≠ i2 ∧ n ≠ c ∧ n ≠ i2 ∧ c ≠ i2 ∧ i ∉ ks ∧ n ∉ ks ∧ c ∉ ks ∧ i2 ∉ ks := by
  simp only [List.cons_append, List.nil_append, List.nodup_cons, List.mem_cons, not_or] at hd
  obtain ⟨⟨h1, h2, h3, h4⟩, ⟨h5, h6, h7⟩, ⟨h8, h9⟩, h10, _⟩ := hd
  exact ⟨h1, h2, h3, h5, h6, h8, h4, h7, h9, h10⟩
 obtain ⟨n1, n2, n3, n4, n5, n6, m1, m2, m3, m4⟩ := ne
 have sn : ∀ x t, t ∈ [i, n, c, i2] → ∀ p ∈ sl x, p.1 ≠ t := fun x t ht p hp e => hd2 x p hp (e ▸ ht)
 -- the state at the loop's head
 let st : Nat × X → Sg := fun x => addS ((i, .v (.int .i64 x.1)) :: (n, .v (.int .i64 len)) :: sl x.2) (keepS ks σ)
 let sh : Nat × X → HMap := fun x => addH (hp x.2) (keepH hk H)
 have back : ∀ (k : Nat) (y : X) (σ' : Sg) (H' : HMap), σ' i = .v (.int .i64 k) → σ' n = .v (.int .i64 len) → Back σ H ks hk (sl y) (hp y) σ' H' → Wk σ' H' (st (k, y)) (sh (k, y)) := by
  intro k y σ' H' e1 e2 ⟨b1, b2, b3, b4⟩
  exact wk_match (sl := (i, .v (.int .i64 k)) :: (n, .v (.int .i64 len)) :: sl y) ⟨by rw [e1]; exact sub_refl _, by rw [e2]; exact sub_refl _, b1⟩ b2 b3 b4
 unfold rangeCC
 rw [e_block, e_loop]
 refine ⟨⟨Nat × X, fun x => x.1 ≤ len ∧ P x.1 x.2, st, sh, fun x => len - x.1⟩, ⟨(0, x0), ⟨Nat.zero_le _, h0⟩, back 0 x0 σ H hi hn ⟨hs, fun _ _ => rfl, hh, fun _ _ => rfl⟩⟩, ?_⟩
 rintro ⟨k, x⟩ ⟨hkl, hP⟩
 have si : st (k, x) i = .v (.int .i64 k) := by simp [st, addS, upd]
 have sN : st (k, x) n = .v (.int .i64 len) := by
  have : ¬ n = i := fun e => n1 e.symm
  simp [st, addS, upd, this]
 let inv : Inv := ⟨Nat × X, fun x => x.1 ≤ len ∧ P x.1 x.2, st, sh, fun x => len - x.1⟩
 change vc S _ (lopK inv (k, x) (blkK id K)) (st (k, x)) (sh (k, x))
 rw [e_seq, e_reg, l_op, c_cmp]
 simp only [v_tmp, si, sN, cmpX_i, true_and, cmpB_lss, cmpO_s]
 rw [l_nil, e_seqn, e_seq, e_ite]
 have sc : ev (updO (st (k, x)) (some c) (.v (.bool (decide ((k : Int) < len))))) (.tmp c) = .v (.bool (decide ((k : Int) < len))) := by simp [upd]
 rw [sc, e_itex]
 refine ⟨fun hlt => ?_, fun hge => ?_⟩
 ·have hlt' : k < len := by simpa using hlt
  rw [e_skip, e_seqn, e_seq, e_block, e_cut]
  refine ⟨st (k, x), sh (k, x), wk_of (fun t => ?_) (fun _ _ h => .inl h), ?_⟩
  ·rw [u_updO, u_upd]
   split
   ·rename_i e
    subst e
    have e1 : st (k, x) t = .any := by
     have hsl : ∀ (l : List (Nat × D)), (∀ p ∈ l, p.1 ≠ t) → addS l (keepS ks σ) t = .any := by
      intro l
      induction l with
      | nil => intro _; rw [addS_n, keepS_at, if_neg m3]
      | cons p l ih =>
        obtain ⟨s, d⟩ := p
        intro h
        have : ¬ t = s := fun e => h (s, d) (by simp) e.symm
        simp only [addS, upd, this, if_false]
        exact ih fun p hp => h p (by simp [hp])
     have h1 : ¬ t = i := fun e => n2 e.symm
     have h2 : ¬ t = n := fun e => n4 e.symm
     simp only [st, addS, upd, h1, h2, if_false]
     exact hsl _ (sn x t (by simp))
    rw [e1]
    exact trivial
   ·exact sub_refl _
  ·refine vc_mono body _ _ (fun e σ' H' h => ?_) (hr k x hlt' hP)
   have fin : ∀ σ' H', (σ' i = .v (.int .i64 k) ∧ σ' n = .v (.int .i64 len) ∧ ∃ y, P (k + 1) y ∧ Back σ H ks hk (sl y) (hp y) σ' H') →
    seqK S (.reg [.op (some i2) none (.arith .add (.tmp i) (.const (.int .i64 1))), .op (some i) none (.mv (.tmp i2))]) (lopK inv (k, x) (blkK id K)) .norm σ' H' := by
    intro σ' H' ⟨e1, e2, y, hy, hb⟩
    rw [e_seqn, e_reg, l_op, c_arith]
    simp only [v_tmp, v_const, v_int, e1, arithX_i, true_and, arith_add, InR]
    refine ⟨by omega, ?_⟩
    rw [l_op, c_mv]
    dsimp only
    rw [l_nil]
    simp only [v_tmp, u_updO]
    rw [e_lopn]
    refine ⟨(k + 1, y), ⟨by show k + 1 ≤ len; omega, hy⟩, back (k + 1) y _ _ ?_ ?_ ?_, by show len - (k + 1) < len - k; omega⟩
    ·simp [upd]
    ·have h1 : ¬ n = i := fun e => n1 e.symm
     simp [upd, h1, n5, e2]
    ·exact ⟨matchS_upd (sn y i (by simp)) (matchS_upd (sn y i2 (by simp)) hb.1), keptS_upd m1 (keptS_upd m4 hb.2.1), hb.2.2.1, hb.2.2.2⟩
   cases e with
   | norm => rw [e_blkn]; exact fin σ' H' h
   | ret =>
     rw [e_blkr, e_seqr, e_lopr, e_blkr]
     exact h
   | ex j =>
     rw [e_blkx]
     have h : if j = id2 then σ' i = .v (.int .i64 k) ∧ σ' n = .v (.int .i64 len) ∧ ∃ y, P (k + 1) y ∧ Back σ H ks hk (sl y) (hp y) σ' H' else if j = id then K .norm σ' H' else K (.ex j) σ' H' := h
     split
     ·rename_i e; rw [if_pos e] at h; exact fin σ' H' h
     ·rename_i e; rw [if_neg e] at h
      rw [e_seqx, e_lopx, e_blkx]
      exact h
 ·have hge' : k = len := by
   have : ¬ ((k : Int) < len) := by simpa using hge
   have : k ≤ len := hkl
   omega
  subst hge'
  rw [e_exit, e_seqx, e_lopx, e_blkx, if_pos rfl]
  have : decide ((k : Int) < k) = false := by simp
  rw [this]
  exact he x hP
end
end Go.Gv

namespace Go.Gv
open Cod (enc dec)

theorem enc_inj {X : Type} [Cod X] {x y : X} (h : enc x = enc y) : x = y := by
 have := congrArg (dec (X := X)) h
 simpa using this
@[simp] theorem enc_eq {X : Type} [Cod X] (l l' : List X) : (l.map enc = l'.map enc) = (l = l') := by
 refine propext ⟨fun h => ?_, fun h => h ▸ rfl⟩
 induction l generalizing l' with
 | nil => cases l' with
   | nil => rfl
   | cons y l' => simp at h
 | cons x l ih => cases l' with
   | nil => simp at h
   | cons y l' =>
     simp only [List.map_cons, List.cons.injEq] at h
     rw [enc_inj h.1, ih _ h.2]
theorem fz_o {X : Type} [Cod X] {H : HMap} {id n : Nat} {v : Value} {l : List X} (el : Nat) (h : H id = some (.row v el n (l.map enc))) (hn : n = Cod.wd X := by rfl) : FrzTo H (.own id v) (.list n (l.map enc)) := by
 subst hn; exact gives_row h

inductive Ky where
 | e
 | o (k : Ky)
 | i (k : Ky)
deriving DecidableEq
inductive Tr where
 | nil
 | nd (d : D) (l r : Tr)
def Tr.get : Tr → Ky → D
 | .nil, _ => .any
 | .nd d _ _, .e => d
 | .nd _ l _, .o k => l.get k
 | .nd _ _ r, .i k => r.get k
def Tr.set : Tr → Ky → D → Tr
 | .nil, .e, x => .nd x .nil .nil
 | .nil, .o k, x => .nd .any (Tr.set .nil k x) .nil
 | .nil, .i k, x => .nd .any .nil (Tr.set .nil k x)
 | .nd _ l r, .e, x => .nd x l r
 | .nd d l r, .o k, x => .nd d (l.set k x) r
 | .nd d l r, .i k, x => .nd d l (r.set k x)
noncomputable def Tr.frz (id : Nat) (x : Value) (L : D) : Tr → Tr
 | .nil => .nil
 | .nd d l r => .nd (frzD id x L d) (l.frz id x L) (r.frz id x L)
def kyF : Nat → Nat → Ky
 | 0, _ => .e
 | f + 1, n => if n = 0 then .e else if (n - 1) % 2 = 0 then .o (kyF f ((n - 1) / 2)) else .i (kyF f ((n - 1) / 2))
def ky (n : Nat) : Ky := kyF n n
def Ky.val : Ky → Nat
 | .e => 0
 | .o k => 2 * k.val + 1
 | .i k => 2 * k.val + 2

theorem kyF_val : ∀ (f n : Nat), n ≤ f → (kyF f n).val = n
 | 0, n, h => by
   have : n = 0 := by omega
   subst this; rfl
 | f + 1, n, h => by
   unfold kyF
   split
   ·rename_i e; subst e; rfl
   ·split
    ·simp only [Ky.val]
     rw [kyF_val f _ (by omega)]
     omega
    ·simp only [Ky.val]
     rw [kyF_val f _ (by omega)]
     omega
theorem ky_inj {m n : Nat} (h : ky m = ky n) : m = n := by
 have h1 := kyF_val m m (Nat.le_refl _)
 have h2 := kyF_val n n (Nat.le_refl _)
 unfold ky at h
 rw [h] at h1
 exact h1.symm.trans h2

theorem get_set : ∀ (T : Tr) (k j : Ky) (x : D), (T.set k x).get j = if j = k then x else T.get j
 | .nil, .e, j, x => by cases j <;> simp [Tr.set, Tr.get]
 | .nil, .o k, j, x => by
   have ih := fun j => get_set .nil k j x
   cases j <;> simp [Tr.set, Tr.get, ih]
 | .nil, .i k, j, x => by
   have ih := fun j => get_set .nil k j x
   cases j <;> simp [Tr.set, Tr.get, ih]
 | .nd d l r, .e, j, x => by cases j <;> simp [Tr.set, Tr.get]
 | .nd d l r, .o k, j, x => by
   have ih := fun j => get_set l k j x
   cases j <;> simp [Tr.set, Tr.get, ih]
 | .nd d l r, .i k, j, x => by
   have ih := fun j => get_set r k j x
   cases j <;> simp [Tr.set, Tr.get, ih]

def getT (T : Tr) : Sg := fun t => T.get (ky t)
@[simp] theorem getT_at (T : Tr) (t : Nat) : getT T t = T.get (ky t) := id rfl
@[simp] theorem upd_T (T : Tr) (t : Nat) (d : D) : upd (getT T) t d = getT (T.set (ky t) d) := by
 funext s
 simp only [upd, getT, get_set]
 by_cases h : s = t
 ·simp [h]
 ·have : ¬ ky s = ky t := fun e => h (ky_inj e)
  simp [h, this]
theorem getT_nil : getT .nil = fun _ => .any := by
 funext t
 simp [getT, Tr.get]
@[simp] theorem kT_nil (σ : Sg) : keepS [] σ = getT .nil := by rw [getT_nil]; rfl
@[simp] theorem kT_cons (t : Nat) (l : List Nat) (σ : Sg) : keepS (t :: l) σ = upd (keepS l σ) t (σ t) := id rfl
@[simp] theorem aT_nil (σ : Sg) : addS [] σ = σ := id rfl
@[simp] theorem aT_cons (t : Nat) (d : D) (l : List (Nat × D)) (σ : Sg) : addS ((t, d) :: l) σ = upd (addS l σ) t d := id rfl
def initT : Nat → List D → Tr
 | _, [] => .nil
 | n, d :: l => (initT (n + 1) l).set (ky n) d
@[simp] theorem initT_nil (n : Nat) : initT n [] = .nil := id rfl
@[simp] theorem initT_cons (n : Nat) (d : D) (l : List D) : initT n (d :: l) = (initT (n + 1) l).set (ky n) d := id rfl
theorem initT_get : ∀ (l : List D) (n t : Nat), (initT n l).get (ky t) = if n ≤ t then (l[t - n]?).getD .any else .any
 | [], n, t => by simp [initT, Tr.get]
 | d :: l, n, t => by
   rw [initT, get_set, initT_get l (n + 1) t]
   by_cases h : t = n
   ·subst h; simp
   ·have : ¬ ky t = ky n := fun e => h (ky_inj e)
    rw [if_neg this]
    by_cases h2 : n + 1 ≤ t
    ·have h3 : n ≤ t := by omega
     rw [if_pos h2, if_pos h3]
     have : t - n = (t - (n + 1)) + 1 := by omega
     rw [this]; simp
    ·have h3 : ¬ n ≤ t := by omega
     rw [if_neg h2, if_neg h3]
@[simp] theorem init_T (l : List D) : initS l = getT (initT 0 l) := by
 funext t
 simp [initS, getT, initT_get]
@[simp] theorem frz_T (id : Nat) (x : Value) (L : D) (T : Tr) : frzG id x L (getT T) = getT (T.frz id x L) := by
 funext t
 simp only [frzG, getT]
 generalize ky t = k
 induction T generalizing k with
 | nil => simp [Tr.frz, Tr.get, frzD]
 | nd d l r ihl ihr =>
   cases k with
   | e => rfl
   | o k => exact ihl k
   | i k => exact ihr k
@[simp] theorem frzT_nil (id : Nat) (x : Value) (L : D) : Tr.nil.frz id x L = .nil := _root_.id rfl
@[simp] theorem frzT_nd (id : Nat) (x : Value) (L d : D) (l r : Tr) : (Tr.nd d l r).frz id x L = .nd (frzD id x L d) (l.frz id x L) (r.frz id x L) := _root_.id rfl
@[simp] theorem tg_e (d : D) (l r : Tr) : (Tr.nd d l r).get .e = d := id rfl
@[simp] theorem tg_o (d : D) (l r : Tr) (k : Ky) : (Tr.nd d l r).get (.o k) = l.get k := id rfl
@[simp] theorem tg_i (d : D) (l r : Tr) (k : Ky) : (Tr.nd d l r).get (.i k) = r.get k := id rfl
@[simp] theorem ts_ne (x : D) : Tr.nil.set .e x = .nd x .nil .nil := id rfl
@[simp] theorem ts_no (k : Ky) (x : D) : Tr.nil.set (.o k) x = .nd .any (Tr.set .nil k x) .nil := id rfl
@[simp] theorem ts_ni (k : Ky) (x : D) : Tr.nil.set (.i k) x = .nd .any .nil (Tr.set .nil k x) := id rfl
@[simp] theorem ts_e (d : D) (l r : Tr) (x : D) : (Tr.nd d l r).set .e x = .nd x l r := id rfl
@[simp] theorem ts_o (d : D) (l r : Tr) (k : Ky) (x : D) : (Tr.nd d l r).set (.o k) x = .nd d (l.set k x) r := id rfl
@[simp] theorem ts_i (d : D) (l r : Tr) (k : Ky) (x : D) : (Tr.nd d l r).set (.i k) x = .nd d l (r.set k x) := id rfl
@[simp] theorem ky_0 : ky 0 = Ky.e := id rfl
@[simp] theorem ky_1 : ky 1 = Ky.o (Ky.e) := id rfl
@[simp] theorem ky_2 : ky 2 = Ky.i (Ky.e) := id rfl
@[simp] theorem ky_3 : ky 3 = Ky.o (Ky.o (Ky.e)) := id rfl
@[simp] theorem ky_4 : ky 4 = Ky.i (Ky.o (Ky.e)) := id rfl
@[simp] theorem ky_5 : ky 5 = Ky.o (Ky.i (Ky.e)) := id rfl
@[simp] theorem ky_6 : ky 6 = Ky.i (Ky.i (Ky.e)) := id rfl
@[simp] theorem ky_7 : ky 7 = Ky.o (Ky.o (Ky.o (Ky.e))) := id rfl
@[simp] theorem ky_8 : ky 8 = Ky.i (Ky.o (Ky.o (Ky.e))) := id rfl
@[simp] theorem ky_9 : ky 9 = Ky.o (Ky.i (Ky.o (Ky.e))) := id rfl
@[simp] theorem ky_10 : ky 10 = Ky.i (Ky.i (Ky.o (Ky.e))) := id rfl
@[simp] theorem ky_11 : ky 11 = Ky.o (Ky.o (Ky.i (Ky.e))) := id rfl
@[simp] theorem ky_12 : ky 12 = Ky.i (Ky.o (Ky.i (Ky.e))) := id rfl
@[simp] theorem ky_13 : ky 13 = Ky.o (Ky.i (Ky.i (Ky.e))) := id rfl
@[simp] theorem ky_14 : ky 14 = Ky.i (Ky.i (Ky.i (Ky.e))) := id rfl
@[simp] theorem ky_15 : ky 15 = Ky.o (Ky.o (Ky.o (Ky.o (Ky.e)))) := id rfl
@[simp] theorem ky_16 : ky 16 = Ky.i (Ky.o (Ky.o (Ky.o (Ky.e)))) := id rfl
@[simp] theorem ky_17 : ky 17 = Ky.o (Ky.i (Ky.o (Ky.o (Ky.e)))) := id rfl
@[simp] theorem ky_18 : ky 18 = Ky.i (Ky.i (Ky.o (Ky.o (Ky.e)))) := id rfl
@[simp] theorem ky_19 : ky 19 = Ky.o (Ky.o (Ky.i (Ky.o (Ky.e)))) := id rfl
@[simp] theorem ky_20 : ky 20 = Ky.i (Ky.o (Ky.i (Ky.o (Ky.e)))) := id rfl
@[simp] theorem ky_21 : ky 21 = Ky.o (Ky.i (Ky.i (Ky.o (Ky.e)))) := id rfl
@[simp] theorem ky_22 : ky 22 = Ky.i (Ky.i (Ky.i (Ky.o (Ky.e)))) := id rfl
@[simp] theorem ky_23 : ky 23 = Ky.o (Ky.o (Ky.o (Ky.i (Ky.e)))) := id rfl
@[simp] theorem ky_24 : ky 24 = Ky.i (Ky.o (Ky.o (Ky.i (Ky.e)))) := id rfl
@[simp] theorem ky_25 : ky 25 = Ky.o (Ky.i (Ky.o (Ky.i (Ky.e)))) := id rfl
@[simp] theorem ky_26 : ky 26 = Ky.i (Ky.i (Ky.o (Ky.i (Ky.e)))) := id rfl
@[simp] theorem ky_27 : ky 27 = Ky.o (Ky.o (Ky.i (Ky.i (Ky.e)))) := id rfl
@[simp] theorem ky_28 : ky 28 = Ky.i (Ky.o (Ky.i (Ky.i (Ky.e)))) := id rfl
@[simp] theorem ky_29 : ky 29 = Ky.o (Ky.i (Ky.i (Ky.i (Ky.e)))) := id rfl
@[simp] theorem ky_30 : ky 30 = Ky.i (Ky.i (Ky.i (Ky.i (Ky.e)))) := id rfl
@[simp] theorem ky_31 : ky 31 = Ky.o (Ky.o (Ky.o (Ky.o (Ky.o (Ky.e))))) := id rfl
@[simp] theorem ky_32 : ky 32 = Ky.i (Ky.o (Ky.o (Ky.o (Ky.o (Ky.e))))) := id rfl
@[simp] theorem ky_33 : ky 33 = Ky.o (Ky.i (Ky.o (Ky.o (Ky.o (Ky.e))))) := id rfl
@[simp] theorem ky_34 : ky 34 = Ky.i (Ky.i (Ky.o (Ky.o (Ky.o (Ky.e))))) := id rfl
@[simp] theorem ky_35 : ky 35 = Ky.o (Ky.o (Ky.i (Ky.o (Ky.o (Ky.e))))) := id rfl
@[simp] theorem ky_36 : ky 36 = Ky.i (Ky.o (Ky.i (Ky.o (Ky.o (Ky.e))))) := id rfl
@[simp] theorem ky_37 : ky 37 = Ky.o (Ky.i (Ky.i (Ky.o (Ky.o (Ky.e))))) := id rfl
@[simp] theorem ky_38 : ky 38 = Ky.i (Ky.i (Ky.i (Ky.o (Ky.o (Ky.e))))) := id rfl
@[simp] theorem ky_39 : ky 39 = Ky.o (Ky.o (Ky.o (Ky.i (Ky.o (Ky.e))))) := id rfl
@[simp] theorem ky_40 : ky 40 = Ky.i (Ky.o (Ky.o (Ky.i (Ky.o (Ky.e))))) := id rfl
@[simp] theorem ky_41 : ky 41 = Ky.o (Ky.i (Ky.o (Ky.i (Ky.o (Ky.e))))) := id rfl
@[simp] theorem ky_42 : ky 42 = Ky.i (Ky.i (Ky.o (Ky.i (Ky.o (Ky.e))))) := id rfl
@[simp] theorem ky_43 : ky 43 = Ky.o (Ky.o (Ky.i (Ky.i (Ky.o (Ky.e))))) := id rfl
@[simp] theorem ky_44 : ky 44 = Ky.i (Ky.o (Ky.i (Ky.i (Ky.o (Ky.e))))) := id rfl
@[simp] theorem ky_45 : ky 45 = Ky.o (Ky.i (Ky.i (Ky.i (Ky.o (Ky.e))))) := id rfl
@[simp] theorem ky_46 : ky 46 = Ky.i (Ky.i (Ky.i (Ky.i (Ky.o (Ky.e))))) := id rfl
@[simp] theorem ky_47 : ky 47 = Ky.o (Ky.o (Ky.o (Ky.o (Ky.i (Ky.e))))) := id rfl
@[simp] theorem ky_48 : ky 48 = Ky.i (Ky.o (Ky.o (Ky.o (Ky.i (Ky.e))))) := id rfl
@[simp] theorem ky_49 : ky 49 = Ky.o (Ky.i (Ky.o (Ky.o (Ky.i (Ky.e))))) := id rfl
@[simp] theorem ky_50 : ky 50 = Ky.i (Ky.i (Ky.o (Ky.o (Ky.i (Ky.e))))) := id rfl
@[simp] theorem ky_51 : ky 51 = Ky.o (Ky.o (Ky.i (Ky.o (Ky.i (Ky.e))))) := id rfl
@[simp] theorem ky_52 : ky 52 = Ky.i (Ky.o (Ky.i (Ky.o (Ky.i (Ky.e))))) := id rfl
@[simp] theorem ky_53 : ky 53 = Ky.o (Ky.i (Ky.i (Ky.o (Ky.i (Ky.e))))) := id rfl
@[simp] theorem ky_54 : ky 54 = Ky.i (Ky.i (Ky.i (Ky.o (Ky.i (Ky.e))))) := id rfl
@[simp] theorem ky_55 : ky 55 = Ky.o (Ky.o (Ky.o (Ky.i (Ky.i (Ky.e))))) := id rfl
@[simp] theorem ky_56 : ky 56 = Ky.i (Ky.o (Ky.o (Ky.i (Ky.i (Ky.e))))) := id rfl
@[simp] theorem ky_57 : ky 57 = Ky.o (Ky.i (Ky.o (Ky.i (Ky.i (Ky.e))))) := id rfl
@[simp] theorem ky_58 : ky 58 = Ky.i (Ky.i (Ky.o (Ky.i (Ky.i (Ky.e))))) := id rfl
@[simp] theorem ky_59 : ky 59 = Ky.o (Ky.o (Ky.i (Ky.i (Ky.i (Ky.e))))) := id rfl
@[simp] theorem ky_60 : ky 60 = Ky.i (Ky.o (Ky.i (Ky.i (Ky.i (Ky.e))))) := id rfl
@[simp] theorem ky_61 : ky 61 = Ky.o (Ky.i (Ky.i (Ky.i (Ky.i (Ky.e))))) := id rfl
@[simp] theorem ky_62 : ky 62 = Ky.i (Ky.i (Ky.i (Ky.i (Ky.i (Ky.e))))) := id rfl
@[simp] theorem ky_63 : ky 63 = Ky.o (Ky.o (Ky.o (Ky.o (Ky.o (Ky.o (Ky.e)))))) := id rfl
@[simp] theorem ky_64 : ky 64 = Ky.i (Ky.o (Ky.o (Ky.o (Ky.o (Ky.o (Ky.e)))))) := id rfl
@[simp] theorem ky_65 : ky 65 = Ky.o (Ky.i (Ky.o (Ky.o (Ky.o (Ky.o (Ky.e)))))) := id rfl
@[simp] theorem ky_66 : ky 66 = Ky.i (Ky.i (Ky.o (Ky.o (Ky.o (Ky.o (Ky.e)))))) := id rfl
@[simp] theorem ky_67 : ky 67 = Ky.o (Ky.o (Ky.i (Ky.o (Ky.o (Ky.o (Ky.e)))))) := id rfl
@[simp] theorem ky_68 : ky 68 = Ky.i (Ky.o (Ky.i (Ky.o (Ky.o (Ky.o (Ky.e)))))) := id rfl
@[simp] theorem ky_69 : ky 69 = Ky.o (Ky.i (Ky.i (Ky.o (Ky.o (Ky.o (Ky.e)))))) := id rfl
@[simp] theorem ky_70 : ky 70 = Ky.i (Ky.i (Ky.i (Ky.o (Ky.o (Ky.o (Ky.e)))))) := id rfl
@[simp] theorem ky_71 : ky 71 = Ky.o (Ky.o (Ky.o (Ky.i (Ky.o (Ky.o (Ky.e)))))) := id rfl
@[simp] theorem ky_72 : ky 72 = Ky.i (Ky.o (Ky.o (Ky.i (Ky.o (Ky.o (Ky.e)))))) := id rfl
@[simp] theorem ky_73 : ky 73 = Ky.o (Ky.i (Ky.o (Ky.i (Ky.o (Ky.o (Ky.e)))))) := id rfl
@[simp] theorem ky_74 : ky 74 = Ky.i (Ky.i (Ky.o (Ky.i (Ky.o (Ky.o (Ky.e)))))) := id rfl
@[simp] theorem ky_75 : ky 75 = Ky.o (Ky.o (Ky.i (Ky.i (Ky.o (Ky.o (Ky.e)))))) := id rfl
@[simp] theorem ky_76 : ky 76 = Ky.i (Ky.o (Ky.i (Ky.i (Ky.o (Ky.o (Ky.e)))))) := id rfl
@[simp] theorem ky_77 : ky 77 = Ky.o (Ky.i (Ky.i (Ky.i (Ky.o (Ky.o (Ky.e)))))) := id rfl
@[simp] theorem ky_78 : ky 78 = Ky.i (Ky.i (Ky.i (Ky.i (Ky.o (Ky.o (Ky.e)))))) := id rfl
@[simp] theorem ky_79 : ky 79 = Ky.o (Ky.o (Ky.o (Ky.o (Ky.i (Ky.o (Ky.e)))))) := id rfl
@[simp] theorem ky_80 : ky 80 = Ky.i (Ky.o (Ky.o (Ky.o (Ky.i (Ky.o (Ky.e)))))) := id rfl
@[simp] theorem ky_81 : ky 81 = Ky.o (Ky.i (Ky.o (Ky.o (Ky.i (Ky.o (Ky.e)))))) := id rfl
@[simp] theorem ky_82 : ky 82 = Ky.i (Ky.i (Ky.o (Ky.o (Ky.i (Ky.o (Ky.e)))))) := id rfl
@[simp] theorem ky_83 : ky 83 = Ky.o (Ky.o (Ky.i (Ky.o (Ky.i (Ky.o (Ky.e)))))) := id rfl
@[simp] theorem ky_84 : ky 84 = Ky.i (Ky.o (Ky.i (Ky.o (Ky.i (Ky.o (Ky.e)))))) := id rfl
@[simp] theorem ky_85 : ky 85 = Ky.o (Ky.i (Ky.i (Ky.o (Ky.i (Ky.o (Ky.e)))))) := id rfl
@[simp] theorem ky_86 : ky 86 = Ky.i (Ky.i (Ky.i (Ky.o (Ky.i (Ky.o (Ky.e)))))) := id rfl
@[simp] theorem ky_87 : ky 87 = Ky.o (Ky.o (Ky.o (Ky.i (Ky.i (Ky.o (Ky.e)))))) := id rfl
@[simp] theorem ky_88 : ky 88 = Ky.i (Ky.o (Ky.o (Ky.i (Ky.i (Ky.o (Ky.e)))))) := id rfl
@[simp] theorem ky_89 : ky 89 = Ky.o (Ky.i (Ky.o (Ky.i (Ky.i (Ky.o (Ky.e)))))) := id rfl
@[simp] theorem ky_90 : ky 90 = Ky.i (Ky.i (Ky.o (Ky.i (Ky.i (Ky.o (Ky.e)))))) := id rfl
@[simp] theorem ky_91 : ky 91 = Ky.o (Ky.o (Ky.i (Ky.i (Ky.i (Ky.o (Ky.e)))))) := id rfl
@[simp] theorem ky_92 : ky 92 = Ky.i (Ky.o (Ky.i (Ky.i (Ky.i (Ky.o (Ky.e)))))) := id rfl
@[simp] theorem ky_93 : ky 93 = Ky.o (Ky.i (Ky.i (Ky.i (Ky.i (Ky.o (Ky.e)))))) := id rfl
@[simp] theorem ky_94 : ky 94 = Ky.i (Ky.i (Ky.i (Ky.i (Ky.i (Ky.o (Ky.e)))))) := id rfl
@[simp] theorem ky_95 : ky 95 = Ky.o (Ky.o (Ky.o (Ky.o (Ky.o (Ky.i (Ky.e)))))) := id rfl
@[simp] theorem ky_96 : ky 96 = Ky.i (Ky.o (Ky.o (Ky.o (Ky.o (Ky.i (Ky.e)))))) := id rfl
@[simp] theorem ky_97 : ky 97 = Ky.o (Ky.i (Ky.o (Ky.o (Ky.o (Ky.i (Ky.e)))))) := id rfl
@[simp] theorem ky_98 : ky 98 = Ky.i (Ky.i (Ky.o (Ky.o (Ky.o (Ky.i (Ky.e)))))) := id rfl
@[simp] theorem ky_99 : ky 99 = Ky.o (Ky.o (Ky.i (Ky.o (Ky.o (Ky.i (Ky.e)))))) := id rfl
@[simp] theorem ky_100 : ky 100 = Ky.i (Ky.o (Ky.i (Ky.o (Ky.o (Ky.i (Ky.e)))))) := id rfl
@[simp] theorem ky_101 : ky 101 = Ky.o (Ky.i (Ky.i (Ky.o (Ky.o (Ky.i (Ky.e)))))) := id rfl
@[simp] theorem ky_102 : ky 102 = Ky.i (Ky.i (Ky.i (Ky.o (Ky.o (Ky.i (Ky.e)))))) := id rfl
@[simp] theorem ky_103 : ky 103 = Ky.o (Ky.o (Ky.o (Ky.i (Ky.o (Ky.i (Ky.e)))))) := id rfl
@[simp] theorem ky_104 : ky 104 = Ky.i (Ky.o (Ky.o (Ky.i (Ky.o (Ky.i (Ky.e)))))) := id rfl
@[simp] theorem ky_105 : ky 105 = Ky.o (Ky.i (Ky.o (Ky.i (Ky.o (Ky.i (Ky.e)))))) := id rfl
@[simp] theorem ky_106 : ky 106 = Ky.i (Ky.i (Ky.o (Ky.i (Ky.o (Ky.i (Ky.e)))))) := id rfl
@[simp] theorem ky_107 : ky 107 = Ky.o (Ky.o (Ky.i (Ky.i (Ky.o (Ky.i (Ky.e)))))) := id rfl
@[simp] theorem ky_108 : ky 108 = Ky.i (Ky.o (Ky.i (Ky.i (Ky.o (Ky.i (Ky.e)))))) := id rfl
@[simp] theorem ky_109 : ky 109 = Ky.o (Ky.i (Ky.i (Ky.i (Ky.o (Ky.i (Ky.e)))))) := id rfl
@[simp] theorem ky_110 : ky 110 = Ky.i (Ky.i (Ky.i (Ky.i (Ky.o (Ky.i (Ky.e)))))) := id rfl
@[simp] theorem ky_111 : ky 111 = Ky.o (Ky.o (Ky.o (Ky.o (Ky.i (Ky.i (Ky.e)))))) := id rfl
@[simp] theorem ky_112 : ky 112 = Ky.i (Ky.o (Ky.o (Ky.o (Ky.i (Ky.i (Ky.e)))))) := id rfl
@[simp] theorem ky_113 : ky 113 = Ky.o (Ky.i (Ky.o (Ky.o (Ky.i (Ky.i (Ky.e)))))) := id rfl
@[simp] theorem ky_114 : ky 114 = Ky.i (Ky.i (Ky.o (Ky.o (Ky.i (Ky.i (Ky.e)))))) := id rfl
@[simp] theorem ky_115 : ky 115 = Ky.o (Ky.o (Ky.i (Ky.o (Ky.i (Ky.i (Ky.e)))))) := id rfl
@[simp] theorem ky_116 : ky 116 = Ky.i (Ky.o (Ky.i (Ky.o (Ky.i (Ky.i (Ky.e)))))) := id rfl
@[simp] theorem ky_117 : ky 117 = Ky.o (Ky.i (Ky.i (Ky.o (Ky.i (Ky.i (Ky.e)))))) := id rfl
@[simp] theorem ky_118 : ky 118 = Ky.i (Ky.i (Ky.i (Ky.o (Ky.i (Ky.i (Ky.e)))))) := id rfl
@[simp] theorem ky_119 : ky 119 = Ky.o (Ky.o (Ky.o (Ky.i (Ky.i (Ky.i (Ky.e)))))) := id rfl
@[simp] theorem ky_120 : ky 120 = Ky.i (Ky.o (Ky.o (Ky.i (Ky.i (Ky.i (Ky.e)))))) := id rfl
@[simp] theorem ky_121 : ky 121 = Ky.o (Ky.i (Ky.o (Ky.i (Ky.i (Ky.i (Ky.e)))))) := id rfl
@[simp] theorem ky_122 : ky 122 = Ky.i (Ky.i (Ky.o (Ky.i (Ky.i (Ky.i (Ky.e)))))) := id rfl
@[simp] theorem ky_123 : ky 123 = Ky.o (Ky.o (Ky.i (Ky.i (Ky.i (Ky.i (Ky.e)))))) := id rfl
@[simp] theorem ky_124 : ky 124 = Ky.i (Ky.o (Ky.i (Ky.i (Ky.i (Ky.i (Ky.e)))))) := id rfl
@[simp] theorem ky_125 : ky 125 = Ky.o (Ky.i (Ky.i (Ky.i (Ky.i (Ky.i (Ky.e)))))) := id rfl
@[simp] theorem ky_126 : ky 126 = Ky.i (Ky.i (Ky.i (Ky.i (Ky.i (Ky.i (Ky.e)))))) := id rfl
@[simp] theorem ky_127 : ky 127 = Ky.o (Ky.o (Ky.o (Ky.o (Ky.o (Ky.o (Ky.o (Ky.e))))))) := id rfl
@[simp] theorem ky_128 : ky 128 = Ky.i (Ky.o (Ky.o (Ky.o (Ky.o (Ky.o (Ky.o (Ky.e))))))) := id rfl
@[simp] theorem ky_129 : ky 129 = Ky.o (Ky.i (Ky.o (Ky.o (Ky.o (Ky.o (Ky.o (Ky.e))))))) := id rfl
@[simp] theorem ky_130 : ky 130 = Ky.i (Ky.i (Ky.o (Ky.o (Ky.o (Ky.o (Ky.o (Ky.e))))))) := id rfl
@[simp] theorem ky_131 : ky 131 = Ky.o (Ky.o (Ky.i (Ky.o (Ky.o (Ky.o (Ky.o (Ky.e))))))) := id rfl
@[simp] theorem ky_132 : ky 132 = Ky.i (Ky.o (Ky.i (Ky.o (Ky.o (Ky.o (Ky.o (Ky.e))))))) := id rfl
@[simp] theorem ky_133 : ky 133 = Ky.o (Ky.i (Ky.i (Ky.o (Ky.o (Ky.o (Ky.o (Ky.e))))))) := id rfl
@[simp] theorem ky_134 : ky 134 = Ky.i (Ky.i (Ky.i (Ky.o (Ky.o (Ky.o (Ky.o (Ky.e))))))) := id rfl
@[simp] theorem ky_135 : ky 135 = Ky.o (Ky.o (Ky.o (Ky.i (Ky.o (Ky.o (Ky.o (Ky.e))))))) := id rfl
@[simp] theorem ky_136 : ky 136 = Ky.i (Ky.o (Ky.o (Ky.i (Ky.o (Ky.o (Ky.o (Ky.e))))))) := id rfl
@[simp] theorem ky_137 : ky 137 = Ky.o (Ky.i (Ky.o (Ky.i (Ky.o (Ky.o (Ky.o (Ky.e))))))) := id rfl
@[simp] theorem ky_138 : ky 138 = Ky.i (Ky.i (Ky.o (Ky.i (Ky.o (Ky.o (Ky.o (Ky.e))))))) := id rfl
@[simp] theorem ky_139 : ky 139 = Ky.o (Ky.o (Ky.i (Ky.i (Ky.o (Ky.o (Ky.o (Ky.e))))))) := id rfl
@[simp] theorem ky_140 : ky 140 = Ky.i (Ky.o (Ky.i (Ky.i (Ky.o (Ky.o (Ky.o (Ky.e))))))) := id rfl
@[simp] theorem ky_141 : ky 141 = Ky.o (Ky.i (Ky.i (Ky.i (Ky.o (Ky.o (Ky.o (Ky.e))))))) := id rfl
@[simp] theorem ky_142 : ky 142 = Ky.i (Ky.i (Ky.i (Ky.i (Ky.o (Ky.o (Ky.o (Ky.e))))))) := id rfl
@[simp] theorem ky_143 : ky 143 = Ky.o (Ky.o (Ky.o (Ky.o (Ky.i (Ky.o (Ky.o (Ky.e))))))) := id rfl
@[simp] theorem ky_144 : ky 144 = Ky.i (Ky.o (Ky.o (Ky.o (Ky.i (Ky.o (Ky.o (Ky.e))))))) := id rfl
@[simp] theorem ky_145 : ky 145 = Ky.o (Ky.i (Ky.o (Ky.o (Ky.i (Ky.o (Ky.o (Ky.e))))))) := id rfl
@[simp] theorem ky_146 : ky 146 = Ky.i (Ky.i (Ky.o (Ky.o (Ky.i (Ky.o (Ky.o (Ky.e))))))) := id rfl
@[simp] theorem ky_147 : ky 147 = Ky.o (Ky.o (Ky.i (Ky.o (Ky.i (Ky.o (Ky.o (Ky.e))))))) := id rfl
@[simp] theorem ky_148 : ky 148 = Ky.i (Ky.o (Ky.i (Ky.o (Ky.i (Ky.o (Ky.o (Ky.e))))))) := id rfl
@[simp] theorem ky_149 : ky 149 = Ky.o (Ky.i (Ky.i (Ky.o (Ky.i (Ky.o (Ky.o (Ky.e))))))) := id rfl
@[simp] theorem ky_150 : ky 150 = Ky.i (Ky.i (Ky.i (Ky.o (Ky.i (Ky.o (Ky.o (Ky.e))))))) := id rfl
@[simp] theorem ky_151 : ky 151 = Ky.o (Ky.o (Ky.o (Ky.i (Ky.i (Ky.o (Ky.o (Ky.e))))))) := id rfl
@[simp] theorem ky_152 : ky 152 = Ky.i (Ky.o (Ky.o (Ky.i (Ky.i (Ky.o (Ky.o (Ky.e))))))) := id rfl
@[simp] theorem ky_153 : ky 153 = Ky.o (Ky.i (Ky.o (Ky.i (Ky.i (Ky.o (Ky.o (Ky.e))))))) := id rfl
@[simp] theorem ky_154 : ky 154 = Ky.i (Ky.i (Ky.o (Ky.i (Ky.i (Ky.o (Ky.o (Ky.e))))))) := id rfl
@[simp] theorem ky_155 : ky 155 = Ky.o (Ky.o (Ky.i (Ky.i (Ky.i (Ky.o (Ky.o (Ky.e))))))) := id rfl
@[simp] theorem ky_156 : ky 156 = Ky.i (Ky.o (Ky.i (Ky.i (Ky.i (Ky.o (Ky.o (Ky.e))))))) := id rfl
@[simp] theorem ky_157 : ky 157 = Ky.o (Ky.i (Ky.i (Ky.i (Ky.i (Ky.o (Ky.o (Ky.e))))))) := id rfl
@[simp] theorem ky_158 : ky 158 = Ky.i (Ky.i (Ky.i (Ky.i (Ky.i (Ky.o (Ky.o (Ky.e))))))) := id rfl
@[simp] theorem ky_159 : ky 159 = Ky.o (Ky.o (Ky.o (Ky.o (Ky.o (Ky.i (Ky.o (Ky.e))))))) := id rfl
@[simp] theorem ky_160 : ky 160 = Ky.i (Ky.o (Ky.o (Ky.o (Ky.o (Ky.i (Ky.o (Ky.e))))))) := id rfl
@[simp] theorem ky_161 : ky 161 = Ky.o (Ky.i (Ky.o (Ky.o (Ky.o (Ky.i (Ky.o (Ky.e))))))) := id rfl
@[simp] theorem ky_162 : ky 162 = Ky.i (Ky.i (Ky.o (Ky.o (Ky.o (Ky.i (Ky.o (Ky.e))))))) := id rfl
@[simp] theorem ky_163 : ky 163 = Ky.o (Ky.o (Ky.i (Ky.o (Ky.o (Ky.i (Ky.o (Ky.e))))))) := id rfl
@[simp] theorem ky_164 : ky 164 = Ky.i (Ky.o (Ky.i (Ky.o (Ky.o (Ky.i (Ky.o (Ky.e))))))) := id rfl
@[simp] theorem ky_165 : ky 165 = Ky.o (Ky.i (Ky.i (Ky.o (Ky.o (Ky.i (Ky.o (Ky.e))))))) := id rfl
@[simp] theorem ky_166 : ky 166 = Ky.i (Ky.i (Ky.i (Ky.o (Ky.o (Ky.i (Ky.o (Ky.e))))))) := id rfl
@[simp] theorem ky_167 : ky 167 = Ky.o (Ky.o (Ky.o (Ky.i (Ky.o (Ky.i (Ky.o (Ky.e))))))) := id rfl
@[simp] theorem ky_168 : ky 168 = Ky.i (Ky.o (Ky.o (Ky.i (Ky.o (Ky.i (Ky.o (Ky.e))))))) := id rfl
@[simp] theorem ky_169 : ky 169 = Ky.o (Ky.i (Ky.o (Ky.i (Ky.o (Ky.i (Ky.o (Ky.e))))))) := id rfl
@[simp] theorem ky_170 : ky 170 = Ky.i (Ky.i (Ky.o (Ky.i (Ky.o (Ky.i (Ky.o (Ky.e))))))) := id rfl
@[simp] theorem ky_171 : ky 171 = Ky.o (Ky.o (Ky.i (Ky.i (Ky.o (Ky.i (Ky.o (Ky.e))))))) := id rfl
@[simp] theorem ky_172 : ky 172 = Ky.i (Ky.o (Ky.i (Ky.i (Ky.o (Ky.i (Ky.o (Ky.e))))))) := id rfl
@[simp] theorem ky_173 : ky 173 = Ky.o (Ky.i (Ky.i (Ky.i (Ky.o (Ky.i (Ky.o (Ky.e))))))) := id rfl
@[simp] theorem ky_174 : ky 174 = Ky.i (Ky.i (Ky.i (Ky.i (Ky.o (Ky.i (Ky.o (Ky.e))))))) := id rfl
@[simp] theorem ky_175 : ky 175 = Ky.o (Ky.o (Ky.o (Ky.o (Ky.i (Ky.i (Ky.o (Ky.e))))))) := id rfl
@[simp] theorem ky_176 : ky 176 = Ky.i (Ky.o (Ky.o (Ky.o (Ky.i (Ky.i (Ky.o (Ky.e))))))) := id rfl
@[simp] theorem ky_177 : ky 177 = Ky.o (Ky.i (Ky.o (Ky.o (Ky.i (Ky.i (Ky.o (Ky.e))))))) := id rfl
@[simp] theorem ky_178 : ky 178 = Ky.i (Ky.i (Ky.o (Ky.o (Ky.i (Ky.i (Ky.o (Ky.e))))))) := id rfl
@[simp] theorem ky_179 : ky 179 = Ky.o (Ky.o (Ky.i (Ky.o (Ky.i (Ky.i (Ky.o (Ky.e))))))) := id rfl
@[simp] theorem ky_180 : ky 180 = Ky.i (Ky.o (Ky.i (Ky.o (Ky.i (Ky.i (Ky.o (Ky.e))))))) := id rfl
@[simp] theorem ky_181 : ky 181 = Ky.o (Ky.i (Ky.i (Ky.o (Ky.i (Ky.i (Ky.o (Ky.e))))))) := id rfl
@[simp] theorem ky_182 : ky 182 = Ky.i (Ky.i (Ky.i (Ky.o (Ky.i (Ky.i (Ky.o (Ky.e))))))) := id rfl
@[simp] theorem ky_183 : ky 183 = Ky.o (Ky.o (Ky.o (Ky.i (Ky.i (Ky.i (Ky.o (Ky.e))))))) := id rfl
@[simp] theorem ky_184 : ky 184 = Ky.i (Ky.o (Ky.o (Ky.i (Ky.i (Ky.i (Ky.o (Ky.e))))))) := id rfl
@[simp] theorem ky_185 : ky 185 = Ky.o (Ky.i (Ky.o (Ky.i (Ky.i (Ky.i (Ky.o (Ky.e))))))) := id rfl
@[simp] theorem ky_186 : ky 186 = Ky.i (Ky.i (Ky.o (Ky.i (Ky.i (Ky.i (Ky.o (Ky.e))))))) := id rfl
@[simp] theorem ky_187 : ky 187 = Ky.o (Ky.o (Ky.i (Ky.i (Ky.i (Ky.i (Ky.o (Ky.e))))))) := id rfl
@[simp] theorem ky_188 : ky 188 = Ky.i (Ky.o (Ky.i (Ky.i (Ky.i (Ky.i (Ky.o (Ky.e))))))) := id rfl
@[simp] theorem ky_189 : ky 189 = Ky.o (Ky.i (Ky.i (Ky.i (Ky.i (Ky.i (Ky.o (Ky.e))))))) := id rfl
@[simp] theorem ky_190 : ky 190 = Ky.i (Ky.i (Ky.i (Ky.i (Ky.i (Ky.i (Ky.o (Ky.e))))))) := id rfl
@[simp] theorem ky_191 : ky 191 = Ky.o (Ky.o (Ky.o (Ky.o (Ky.o (Ky.o (Ky.i (Ky.e))))))) := id rfl
@[simp] theorem ky_192 : ky 192 = Ky.i (Ky.o (Ky.o (Ky.o (Ky.o (Ky.o (Ky.i (Ky.e))))))) := id rfl
@[simp] theorem ky_193 : ky 193 = Ky.o (Ky.i (Ky.o (Ky.o (Ky.o (Ky.o (Ky.i (Ky.e))))))) := id rfl
@[simp] theorem ky_194 : ky 194 = Ky.i (Ky.i (Ky.o (Ky.o (Ky.o (Ky.o (Ky.i (Ky.e))))))) := id rfl
@[simp] theorem ky_195 : ky 195 = Ky.o (Ky.o (Ky.i (Ky.o (Ky.o (Ky.o (Ky.i (Ky.e))))))) := id rfl
@[simp] theorem ky_196 : ky 196 = Ky.i (Ky.o (Ky.i (Ky.o (Ky.o (Ky.o (Ky.i (Ky.e))))))) := id rfl
@[simp] theorem ky_197 : ky 197 = Ky.o (Ky.i (Ky.i (Ky.o (Ky.o (Ky.o (Ky.i (Ky.e))))))) := id rfl
@[simp] theorem ky_198 : ky 198 = Ky.i (Ky.i (Ky.i (Ky.o (Ky.o (Ky.o (Ky.i (Ky.e))))))) := id rfl
@[simp] theorem ky_199 : ky 199 = Ky.o (Ky.o (Ky.o (Ky.i (Ky.o (Ky.o (Ky.i (Ky.e))))))) := id rfl
@[simp] theorem ky_200 : ky 200 = Ky.i (Ky.o (Ky.o (Ky.i (Ky.o (Ky.o (Ky.i (Ky.e))))))) := id rfl
@[simp] theorem ky_201 : ky 201 = Ky.o (Ky.i (Ky.o (Ky.i (Ky.o (Ky.o (Ky.i (Ky.e))))))) := id rfl
@[simp] theorem maskH_n (H : HMap) (i : Nat) : maskH [] H i = H i := id rfl
@[simp] theorem maskH_c (d : Option Nat) (g : Option (Nat × Bool)) (c : COp) (l : List CI) (H : HMap) (i : Nat) : maskH (.op d g c :: l) H i = if (CI.op d g c).wid = some i then none else maskH l H i := id rfl
@[simp] theorem maskH_f (a b : Nat) (l : List CI) (H : HMap) (i : Nat) : maskH (.frz a b :: l) H i = H i := id rfl
@[simp] theorem wid_mv (dst_ : Option Nat) (gd_ : Option (Nat × Bool)) (x : Operand) : (CI.op dst_ gd_ (.mv x)).wid = dst_ := id rfl
@[simp] theorem wid_alloc (dst_ : Option Nat) (gd_ : Option (Nat × Bool)) (el : Nat) (z : List Value) : (CI.op dst_ gd_ (.alloc el z)).wid = dst_ := id rfl
@[simp] theorem wid_build (dst_ : Option Nat) (gd_ : Option (Nat × Bool)) (z : List Value) (parts : List (Nat × Nat × Operand)) : (CI.op dst_ gd_ (.build z parts)).wid = dst_ := id rfl
@[simp] theorem wid_bslice (dst_ : Option Nat) (gd_ : Option (Nat × Bool)) (el : Nat) (n : Nat) (parts : List Operand) : (CI.op dst_ gd_ (.bslice el n parts)).wid = dst_ := id rfl
@[simp] theorem wid_load (dst_ : Option Nat) (gd_ : Option (Nat × Bool)) (agg : Bool) (sz : Nat) (x : Operand) : (CI.op dst_ gd_ (.load agg sz x)).wid = dst_ := id rfl
@[simp] theorem wid_store_s (d : Option Nat) (g : Option (Nat × Bool)) (r sz : Nat) (x y : Operand) : (CI.op d g (.store (some r) sz x y)).wid = some r := id rfl
@[simp] theorem wid_nilck (dst_ : Option Nat) (gd_ : Option (Nat × Bool)) (x : Operand) : (CI.op dst_ gd_ (.nilck x)).wid = dst_ := id rfl
@[simp] theorem wid_arith (dst_ : Option Nat) (gd_ : Option (Nat × Bool)) (op : BinOp) (x : Operand) (y : Operand) : (CI.op dst_ gd_ (.arith op x y)).wid = dst_ := id rfl
@[simp] theorem wid_faddr (dst_ : Option Nat) (gd_ : Option (Nat × Bool)) (off : Nat) (x : Operand) : (CI.op dst_ gd_ (.faddr off x)).wid = dst_ := id rfl
@[simp] theorem wid_ext (dst_ : Option Nat) (gd_ : Option (Nat × Bool)) (x : Operand) (i : Nat) : (CI.op dst_ gd_ (.ext x i)).wid = dst_ := id rfl
@[simp] theorem wid_len (dst_ : Option Nat) (gd_ : Option (Nat × Bool)) (x : Operand) : (CI.op dst_ gd_ (.len x)).wid = dst_ := id rfl
@[simp] theorem wid_mm (dst_ : Option Nat) (gd_ : Option (Nat × Bool)) (mx : Bool) (xs : List Operand) : (CI.op dst_ gd_ (.mm mx xs)).wid = dst_ := id rfl
@[simp] theorem wid_call (dst_ : Option Nat) (gd_ : Option (Nat × Bool)) (f : Nat) (args : List Operand) : (CI.op dst_ gd_ (.call f args)).wid = dst_ := id rfl
@[simp] theorem wid_callb (dst_ : Option Nat) (gd_ : Option (Nat × Bool)) (r f : Nat) (args : List Operand) : (CI.op dst_ gd_ (.callb r f args)).wid = some r := id rfl
end Go.Gv

namespace Go.Gv
open Cod (enc dec)
abbrev B := ByteArray
structure U8 where
 val : Int
deriving DecidableEq
instance : Cod U8 where
 wd := 1
 enc n := .v (.int .u8 n.val)
 dec | .v (.int .u8 n) => some ⟨n⟩ | _ => none
 kn _ := rfl
 wid _ := rfl
 dec_enc _ := rfl
 le d x h := by
  split at h
  ·cases h; exact .same _
  ·cases h
@[simp] theorem enc_u8 (n : U8) : enc n = .v (.int .u8 n.val) := id rfl
@[simp] theorem dec_u8 (n : Int) : dec (X := U8) (.v (.int .u8 n)) = some ⟨n⟩ := id rfl
@[simp] theorem eta_u8 (n : U8) : U8.mk n.val = n := id rfl

structure Pair where
 nm : B
 vl : B
deriving DecidableEq
instance : Cod Pair where
 wd := 2
 enc s := .agg [enc s.nm, enc s.vl]
 dec | .agg [x0, x1] => (dec x0).bind fun x0 => (dec x1).bind fun x1 => some ⟨x0, x1⟩ | _ => none
 kn _ := rfl
 wid _ := rfl
 dec_enc s := by simp
 le d x h := by
  split at h
  ·simp only [Option.bind_eq_some_iff] at h
   obtain ⟨x0, h0, x1, h1, h⟩ := h
   cases h
   exact LeL.agg (.cons (Cod.le _ _ h0) (.cons (Cod.le _ _ h1) .nil))
  ·cases h
structure Span where
 b : Int
 e : Int
deriving DecidableEq
instance : Cod Span where
 wd := 2
 enc s := .agg [enc s.b, enc s.e]
 dec | .agg [x0, x1] => (dec x0).bind fun x0 => (dec x1).bind fun x1 => some ⟨x0, x1⟩ | _ => none
 kn _ := rfl
 wid _ := rfl
 dec_enc s := by simp
 le d x h := by
  split at h
  ·simp only [Option.bind_eq_some_iff] at h
   obtain ⟨x0, h0, x1, h1, h⟩ := h
   cases h
   exact LeL.agg (.cons (Cod.le _ _ h0) (.cons (Cod.le _ _ h1) .nil))
  ·cases h
structure Region where
 ty : B
 b : Int
 e : Int
 kv : List Pair
deriving DecidableEq
instance : Cod Region where
 wd := 4
 enc s := .agg [enc s.ty, enc s.b, enc s.e, enc s.kv]
 dec | .agg [x0, x1, x2, x3] => (dec x0).bind fun x0 => (dec x1).bind fun x1 => (dec x2).bind fun x2 => (dec x3).bind fun x3 => some ⟨x0, x1, x2, x3⟩ | _ => none
 kn _ := rfl
 wid _ := rfl
 dec_enc s := by simp
 le d x h := by
  split at h
  ·simp only [Option.bind_eq_some_iff] at h
   obtain ⟨x0, h0, x1, h1, x2, h2, x3, h3, h⟩ := h
   cases h
   exact LeL.agg (.cons (Cod.le _ _ h0) (.cons (Cod.le _ _ h1) (.cons (Cod.le _ _ h2) (.cons (Cod.le _ _ h3) .nil))))
  ·cases h
end Go.Gv
