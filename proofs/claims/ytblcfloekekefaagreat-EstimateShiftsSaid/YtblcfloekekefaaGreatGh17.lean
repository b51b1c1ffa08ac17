/- A part of the framework and of the walks: T22 W35 V5 W38 V6 V7 V8 V9 V10. -/
import Derived.Test.YtblcfloekekefaaGreatGh14
import Derived.Test.YtblcfloekekefaaGreatGh13
import Derived.Test.YtblcfloekekefaaGreatGh16
import Derived.Test.YtblcfloekekefaaGreatGh15

namespace Go.Gv
set_option linter.unusedSimpArgs false
set_option linter.unusedVariables false
set_option linter.unusedSectionVars false
open Cod (enc dec)

section
variable {X Y : Type} [Cod X] [Cod Y]
def i2PT (pre : X → List Y → Prop) (post : X → List Y → List Y → Prop) (el n : Nat) : PT := fun d ds H K => ∃ id v l a x, ds = [a, .own id v] ∧ dec a = some x ∧ H id = some (.row v el n (l.map enc)) ∧ pre x l ∧
  ∀ v' l', post x l l' → K (.own id v') (updH H id (some (.row v' el n (l'.map enc))))
theorem i2_mono (pre : X → List Y → Prop) (post : X → List Y → List Y → Prop) (el n : Nat) : MonoPT (i2PT pre post el n) := fun d ds H K K' hk ⟨id, v, l, a, x, h1, h2, h3, h4, h5⟩ => ⟨id, v, l, a, x, h1, h2, h3, h4, fun v' l' hp => hk _ _ (h5 v' l' hp)⟩
/-- A function of x and of a slice of the caller's own, which it gives back changed. -/
def i2C (pre : X → List Y → Prop) (post : X → List Y → List Y → Prop) (el n : Nat) : Spc := .gen _ (i2_mono pre post el n)
def i2X (pre : X → List Y → Prop) (post : X → List Y → List Y → Prop) (el n id : Nat) (v : Value) (o : Option X) (r : Option Res) (H : HMap) (K : D → HMap → Prop) : Prop := ∃ l, r = some (.row v el n (l.map enc)) ∧ optX o fun x => pre x l ∧ ∀ v' l', post x l l' → K (.own id v') (updH H id (some (.row v' el n (l'.map enc))))
@[congr] theorem i2X_cg {pre : X → List Y → Prop} {post : X → List Y → List Y → Prop} {el n id : Nat} {v : Value} {o o' : Option X} {r r' : Option Res} {H : HMap} {K : D → HMap → Prop} (h1 : o = o') (h2 : r = r') : i2X pre post el n id v o r H K = i2X pre post el n id v o' r' H K := by subst h1; subst h2; rfl
@[simp] theorem i2C_pt (pre : X → List Y → Prop) (post : X → List Y → List Y → Prop) (el n : Nat) (d i : Nat) (a : D) (v : Value) (H : HMap) (K : D → HMap → Prop) : (i2C pre post el n).pt d [a, .own i v] H K = i2X pre post el n i v (dec a) (H i) H K := by
  refine propext ⟨fun h => ?_, fun h => ?_⟩
  · obtain ⟨id, v, l, a, x, h1, h2, h3, h4, h5⟩ := h
    cases h1
    refine ⟨l, h3, ?_⟩
    rw [h2]
    exact ⟨h4, h5⟩
  · obtain ⟨l, h1, h2⟩ := h
    cases hd : dec (X := X) a with
    | none => rw [hd] at h2; exact h2.elim
    | some x => rw [hd] at h2; exact ⟨i, v, l, a, x, rfl, hd, h1, h2.1, h2.2⟩
@[simp] theorem i2X_r (pre : X → List Y → Prop) (post : X → List Y → List Y → Prop) (el n id : Nat) (v : Value) (o : Option X) (l : List Y) (H : HMap) (K : D → HMap → Prop) : i2X pre post el n id v o (some (.row v el n (l.map enc))) H K = optX o fun x => pre x l ∧ ∀ v' l', post x l l' → K (.own id v') (updH H id (some (.row v' el n (l'.map enc)))) := by
  refine propext ⟨fun ⟨l', h1, h2⟩ => ?_, fun h => ⟨l, rfl, h⟩⟩
  simp at h1
  subst h1
  exact h2
variable {P : Program} {S : Nat → Spc} {f : Nat} {im : List Nat} {cc : CC} {rs : List CRes} {N : Nat} {el n : Nat}
end

/-! ### A box, more arguments, a result, resources of fixed names -/
section
variable {X Y Z : Type}
structure BoxF (X : Type) where
  ids : List Nat
  ce : X → List D
  hp : X → List (Nat × Res)
  keys : ∀ x, (hp x).map (·.1) = ids
theorem addN_mem : ∀ {l : List (Nat × Res)} {i : Nat} {s : Res}, addH l noH i = some s → (i, s) ∈ l
  | [], i, s, h => by simp [addH, noH] at h
  | (j, r) :: l, i, s, h => by
    simp only [addH, updH] at h
    by_cases e : i = j
    · subst e
      simp only [if_true] at h
      cases h
      simp
    · simp only [e, if_false] at h
      exact List.mem_cons_of_mem _ (addN_mem h)
theorem addN_key : ∀ {l : List (Nat × Res)} {H : HMap} {i : Nat} {s : Res}, i ∈ l.map (·.1) → addH l H i = some s → (i, s) ∈ l
  | (j, r) :: l, H, i, s, hi, h => by
    simp only [addH, updH] at h
    by_cases e : i = j
    · subst e
      simp only [if_true] at h
      cases h
      simp
    · simp only [e, if_false] at h
      simp [e] at hi
      refine List.mem_cons_of_mem _ (addN_key (H := H) ?_ h)
      simpa using hi
theorem addN_off : ∀ {l : List (Nat × Res)} {H : HMap} {i : Nat}, i ∉ l.map (·.1) → addH l H i = H i
  | [], H, i, _ => rfl
  | (j, r) :: l, H, i, hi => by
    simp only [List.map_cons, List.mem_cons, not_or] at hi
    simp only [addH, updH, hi.1, if_false]
    exact addN_off hi.2
def bpPT (B : BoxF X) (A : Arg Z) (er : Y → D) (pre : X → Z → Prop) (post : X → Z → X → Y → Prop) : PT := fun d ds H K => ∃ id b x z ds', ds = .bptr id b 0 :: ds' ∧ A.dec ds' = some z ∧ H id = some (.box b (B.ce x)) ∧ (∀ p ∈ B.hp x, H p.1 = some p.2) ∧ id ∉ B.ids ∧ pre x z ∧
  ∀ x' y, post x z x' y → K (er y) (updH (addH (B.hp x') H) id (some (.box b (B.ce x'))))
theorem bp_mono (B : BoxF X) (A : Arg Z) (er : Y → D) (pre : X → Z → Prop) (post : X → Z → X → Y → Prop) : MonoPT (bpPT B A er pre post) := fun d ds H K K' hk ⟨id, b, x, z, ds', h1, h2, h3, h4, h5, h6, h7⟩ => ⟨id, b, x, z, ds', h1, h2, h3, h4, h5, h6, fun x' y hp => hk _ _ (h7 x' y hp)⟩
def bpC (B : BoxF X) (A : Arg Z) (er : Y → D) (pre : X → Z → Prop) (post : X → Z → X → Y → Prop) : Spc := .gen _ (bp_mono B A er pre post)
def FinBP (B : BoxF X) (er : Y → D) (b : Nat) (post : X → Y → Prop) (r : D) (H : HMap) : Prop := ∃ x y, FrzTo (fun i => if i = 0 ∨ i ∈ B.ids then none else H i) r (er y) ∧ H 0 = some (.box b (B.ce x)) ∧ (∀ p ∈ B.hp x, H p.1 = some p.2) ∧ post x y
def WalkBP (cc : CC) (rs : List CRes) (S : Nat → Spc) (B : BoxF X) (A : Arg Z) (er : Y → D) (pre : X → Z → Prop) (post : X → Z → X → Y → Prop) : Prop :=
  ∀ b x z, pre x z → vc S cc (retK rs fun r H' => FinBP B er b (post x z) r H') (initS (.bptr 0 b 0 :: A.view z)) (updH (addH (B.hp x) noH) 0 (some (.box b (B.ce x))))
variable {P : Program} {S : Nat → Spc} {f : Nat} {im : List Nat} {cc : CC} {rs : List CRes} {N : Nat}
theorem tri_walkBP {B : BoxF X} {A : Arg Z} {er : Y → D} {pre : X → Z → Prop} {post : X → Z → X → Y → Prop} (h1i : 0 ∉ B.ids) (hS : ∀ f, Tri P f (S f).pt) (h : FnOk P f im cc rs N) (hN : ∀ z, (A.view z).length + 1 ≤ N) (hw : WalkBP cc rs S B A er pre post) : Tri P f (bpC B A er pre post).pt := by
  obtain ⟨mix, enter, fn, code, h1, h2, h3, h4, h5⟩ := h
  refine tri_of_vc hS mix h1 h2 enter h3 h4 h5 ?_
  rintro ds H d K ⟨id, b, x, z, ds', rfl, hd, hid, hhp, hni, hp, hK⟩
  have hl := A.le ds' z hd
  have h0 : ∀ i r, updH (addH (B.hp x) noH) 0 (some (.box b (B.ce x))) i = some r → i = 0 ∧ r = .box b (B.ce x) ∨ i ≠ 0 ∧ (i, r) ∈ B.hp x := by
    intro i r h
    by_cases e : i = 0
    · subst e
      simp only [updH, if_true] at h
      cases h
      exact .inl ⟨rfl, rfl⟩
    · simp only [updH, e, if_false] at h
      exact .inr ⟨e, addN_mem h⟩
  have hk : ∀ {x : X} {i : Nat} {r : Res}, (i, r) ∈ B.hp x → i ∈ B.ids := by
    intro x i r h
    rw [← B.keys x]
    exact List.mem_map.2 ⟨_, h, rfl⟩
  refine ⟨by simp only [List.length_cons]; rw [hl.1]; exact hN z, .bptr 0 b 0 :: A.view z, updH (addH (B.hp x) noH) 0 (some (.box b (B.ce x))), fun i => if i = 0 then id else i, .cons (.bptr _ _ _ _) hl, fun i r h => ?_, fun i j r s h h' e => ?_, _, hw b x z hp, ?_⟩
  · rcases h0 i r h with ⟨rfl, rfl⟩ | ⟨e, hm⟩
    · exact hid
    · simp only [e, if_false]
      exact hhp _ hm
  · rcases h0 i r h with ⟨rfl, rfl⟩ | ⟨e1, hm⟩
    · rcases h0 j s h' with ⟨rfl, rfl⟩ | ⟨e2, hm2⟩
      · rfl
      · simp only [e2, if_true, if_false] at e
        subst e
        exact absurd (hk hm2) hni
    · rcases h0 j s h' with ⟨rfl, rfl⟩ | ⟨e2, hm2⟩
      · simp only [e1, if_true, if_false] at e
        subst e
        exact absurd (hk hm) hni
      · simpa only [e1, e2, if_false] using e
  · rintro r H' ⟨x', y, hfr, hj, hhp', hpost⟩
    refine ⟨er y, fun i => if i = 0 ∨ i ∈ B.ids then none else H' i, updH (addH (B.hp x') H) id (some (.box b (B.ce x'))), fun i => if i = id then some 0 else if i ∈ B.ids then some i else none, hfr, fun j q h => ?_, hK x' y hpost, fun i s hi => ?_, fun i j' k s q hi hj' e1 e2 => ?_⟩
    · by_cases e : j = 0 ∨ j ∈ B.ids
      · simp [e] at h
      · simp only [e, if_false] at h
        refine ⟨h, fun i hh => e ?_⟩
        by_cases e1 : i = id
        · simp only [e1, if_true] at hh
          cases hh
          exact .inl rfl
        · simp only [e1, if_false] at hh
          by_cases e2 : i ∈ B.ids
          · simp only [e2, if_true] at hh
            cases hh
            exact .inr e2
          · simp [e2] at hh
    · by_cases e : i = id
      · subst e
        simp only [updH, if_true] at hi
        cases hi
        simpa using hj
      · simp only [updH, e, if_false] at hi ⊢
        by_cases e2 : i ∈ B.ids
        · simp only [e2, if_true]
          exact hhp' _ (addN_key (by rw [B.keys]; exact e2) hi)
        · simp only [e2, if_false]
          rw [addN_off (by rw [B.keys]; exact e2)] at hi
          refine ⟨hi, fun k q h he => ?_⟩
          rcases h0 k q h with ⟨rfl, rfl⟩ | ⟨e3, hm⟩
          · simp only [if_true] at he
            exact e he.symm
          · simp only [e3, if_false] at he
            subst he
            exact e2 (hk hm)
    · by_cases c1 : i = id
      · by_cases c2 : j' = id
        · exact c1.trans c2.symm
        · simp only [c1, if_true] at e1
          cases e1
          simp only [c2, if_false] at e2
          by_cases c3 : j' ∈ B.ids
          · simp only [c3, if_true] at e2
            cases e2
            exact absurd c3 h1i
          · simp [c3] at e2
      · simp only [c1, if_false] at e1
        by_cases c3 : i ∈ B.ids
        · simp only [c3, if_true] at e1
          cases e1
          by_cases c2 : j' = id
          · simp only [c2, if_true] at e2
            cases e2
            exact absurd c3 h1i
          · simp only [c2, if_false] at e2
            by_cases c4 : j' ∈ B.ids
            · simp only [c4, if_true] at e2
              cases e2
              rfl
            · simp [c4] at e2
        · simp [c3] at e1

/-- Where the box holds data only, and what it holds can be read. -/
def boxD {X : Type} (ce : X → List D) : BoxF X := ⟨[], ce, fun _ => [], fun _ => rfl⟩
def bpX (ce : X → List D) (rd : List D → Option X) (er : Y → D) (pre : X → Z → Prop) (post : X → Z → X → Y → Prop) (id b : Nat) (r : Option Res) (o : Option Z) (H : HMap) (K : D → HMap → Prop) : Prop :=
  match r with
  | some (.box b' cs) => b' = b ∧ optX (rd cs) fun x => optX o fun z => pre x z ∧ ∀ x' y, post x z x' y → K (er y) (updH H id (some (.box b (ce x'))))
  | _ => False
@[congr] theorem bpX_cg {ce : X → List D} {rd : List D → Option X} {er : Y → D} {pre : X → Z → Prop} {post : X → Z → X → Y → Prop} {id b : Nat} {r r' : Option Res} {o o' : Option Z} {H : HMap} {K : D → HMap → Prop} (h1 : r = r') (h2 : o = o') : bpX ce rd er pre post id b r o H K = bpX ce rd er pre post id b r' o' H K := by subst h1; subst h2; rfl
@[simp] theorem bpX_b (ce : X → List D) (rd : List D → Option X) (er : Y → D) (pre : X → Z → Prop) (post : X → Z → X → Y → Prop) (id b : Nat) (cs : List D) (o : Option Z) (H : HMap) (K : D → HMap → Prop) : bpX ce rd er pre post id b (some (.box b cs)) o H K = optX (rd cs) fun x => optX o fun z => pre x z ∧ ∀ x' y, post x z x' y → K (er y) (updH H id (some (.box b (ce x')))) := by
  simp [bpX]
end
end Go.Gv

namespace Go.Gv
set_option linter.unusedSimpArgs false
set_option linter.unusedVariables false
set_option maxRecDepth 100000
open Cod (enc dec)
variable {S S0 : Nat → Spc}
abbrev s_sizeA : Spc := spc (a1 Pat) (fun x => patB validN x = true) (enc (X := Int)) fun x y => y = sizeP x
abbrev s_r23_Size : Spc := spc (a1 Pat) (fun _ => True) (enc (X := Int)) fun x y => y = if patB validN x then sizeP x else 0
abbrev s_widthA : Spc := spc (a1 Pat) (fun x => patB validN x = true) (er2 (Y := Int) (Z := Int)) fun x y => y = widP x
abbrev s_Width : Spc := spc (a1 Pat) (fun _ => True) (er2 (Y := Int) (Z := Int)) fun x y => y = if patB validN x then widP x else (0, 0)
end Go.Gv

namespace Go.Gv
set_option linter.unusedSimpArgs false
mutual
def cntP : Pat → Nat | .mk op _ _ _ mn _ ks => if ks = [] then 1 else if op = 6 then (max 1 mn).toNat * cntPs ks else cntPs ks
def cntPs : List Pat → Nat | [] => 0 | k :: ks => cntP k + cntPs ks
end
theorem cntP_eq (p : Pat) : cntP p = if p.kids = [] then 1 else if p.op = 6 then (max 1 p.mn).toNat * cntPs p.kids else cntPs p.kids := by cases p; unfold cntP; rfl
theorem cntP_pos (p : Pat) : 1 ≤ cntP p := by
  induction p using pat_ind with | _ p ih => ?_
  rw [cntP_eq]
  split
  · omega
  · rename_i h
    have : 1 ≤ cntPs p.kids := by
      rcases hk : p.kids with _ | ⟨k, ks⟩
      · exact absurd hk h
      · rw [cntPs]; have := ih k (by rw [hk]; simp); omega
    split
    · exact Nat.mul_pos (by omega) this
    · exact this
theorem wp_cnt {lb : List B} : ∀ n p, WP lb n p → cntP p ≤ 2 ^ n := by
  refine wp_ind fun n p hp ih => ?_
  rw [cntP_eq]
  rcases wp_cases hp with (⟨h1, h2, h3, h4, h5, h6⟩ | ⟨h1, h2, h3, h4, h5, h6, h7⟩) | ⟨m, rfl, (⟨h1, h2, h3, h4, h5, h6, a, b, h7, _⟩ | ⟨h1, h2, h3, h4, h5, a, h7, _⟩)⟩
  · rw [if_pos h6]; exact Nat.one_le_two_pow
  · rw [if_pos h7]; exact Nat.one_le_two_pow
  · obtain ⟨m1, e1, _, a1⟩ := ih a (by rw [h7]; simp)
    obtain ⟨m2, e2, _, a2⟩ := ih b (by rw [h7]; simp)
    have e1 : m1 = m := by omega
    have e2 : m2 = m := by omega
    subst e1; subst e2
    rw [h7, if_neg (by simp), if_neg (by omega), Nat.pow_succ]
    simp only [cntPs]
    omega
  · obtain ⟨m1, e1, _, a1⟩ := ih a (by rw [h7]; simp)
    have e1 : m1 = m := by omega
    subst e1
    rw [h7, if_neg (by simp), if_pos h1, Nat.pow_succ]
    simp only [cntPs]
    have : (max 1 p.mn).toNat ≤ 2 := by
      simp [Reps] at h5
      omega
    have := Nat.mul_le_mul this a1
    rw [Nat.add_zero]
    omega
end Go.Gv

namespace Go.Gv
set_option linter.unusedSimpArgs false
set_option linter.unusedVariables false
set_option maxRecDepth 100000
open Cod (enc dec)
variable {S S0 : Nat → Spc}
/-- What Fixed is asked for. -/
def P_Fixed (p : Pat) : Prop := pNum p ≤ 1000000 ∧ cntP p ≤ 100000
def Q_Fixed (p : Pat) (y : List Span) : Prop := if patB validN p = true ∧ sizeP p ≤ 256 then SrcsOf p y else y = []
end Go.Gv

namespace Go.Gv
open Cod (enc dec)
set_option linter.unusedSimpArgs false

structure Glob where
  op : Int
  a : B
  b : B
  name : B
  arg : B
  val : B
  fold : Bool
  mn : Int
  mx : Int
  args : List B
  kids : List Glob

mutual
def encG : Glob → D
  | .mk p0 p1 p2 p3 p4 p5 p6 p7 p8 p9 ks => .agg [enc p0, enc p1, enc p2, enc p3, enc p4, enc p5, enc p6, enc p7, enc p8, enc p9, .list 11 (encGs ks)]
def encGs : List Glob → List D
  | [] => []
  | k :: ks => encG k :: encGs ks
end
mutual
def decG : D → Option Glob
  | .agg [x0, x1, x2, x3, x4, x5, x6, x7, x8, x9, x10] => (dec x0).bind fun p0 => (dec x1).bind fun p1 => (dec x2).bind fun p2 => (dec x3).bind fun p3 => (dec x4).bind fun p4 => (dec x5).bind fun p5 => (dec x6).bind fun p6 => (dec x7).bind fun p7 => (dec x8).bind fun p8 => (dec x9).bind fun p9 => (decGK x10).bind fun ks => some (.mk p0 p1 p2 p3 p4 p5 p6 p7 p8 p9 ks)
  | _ => none
def decGK : D → Option (List Glob)
  | .list n es => if n = 11 then decGs es else none
  | .v (.slice none 0 0) => some []
  | _ => none
def decGs : List D → Option (List Glob)
  | [] => some []
  | d :: ds => (decG d).bind fun x => (decGs ds).bind fun xs => some (x :: xs)
end
theorem encGs_map : ∀ l : List Glob, encGs l = l.map encG
  | [] => rfl
  | _ :: l => by rw [encGs, encGs_map l]; rfl
theorem encG_kn : ∀ c : Glob, (encG c).kn = true
  | .mk .. => rfl
theorem encG_wid : ∀ c : Glob, (encG c).cells.length = 11
  | .mk .. => rfl
mutual
theorem decG_enc : ∀ c : Glob, decG (encG c) = some c
  | .mk p0 p1 p2 p3 p4 p5 p6 p7 p8 p9 ks => by
    have h : decGK (.list 11 (encGs ks)) = some ks := by rw [decGK, if_pos rfl]; exact decGs_enc ks
    simp only [encG, decG, Cod.dec_enc, Option.bind_some, h]
theorem decGs_enc : ∀ l : List Glob, decGs (encGs l) = some l
  | [] => by simp only [encGs, decGs]
  | c :: l => by simp only [encGs, decGs, decG_enc c, decGs_enc l, Option.bind_some]
end
mutual
theorem decG_le : ∀ (d : D) (c : Glob), decG d = some c → FrzTo noH d (encG c)
  | .agg [x0, x1, x2, x3, x4, x5, x6, x7, x8, x9, x10], c, h => by
    simp only [decG, Option.bind_eq_some_iff, Option.some.injEq] at h
    obtain ⟨p0, h0, p1, h1, p2, h2, p3, h3, p4, h4, p5, h5, p6, h6, p7, h7, p8, h8, p9, h9, ks, hk, rfl⟩ := h
    rw [encG]
    exact LeL.agg (.cons (Cod.le _ _ h0) (.cons (Cod.le _ _ h1) (.cons (Cod.le _ _ h2) (.cons (Cod.le _ _ h3) (.cons (Cod.le _ _ h4) (.cons (Cod.le _ _ h5) (.cons (Cod.le _ _ h6) (.cons (Cod.le _ _ h7) (.cons (Cod.le _ _ h8) (.cons (Cod.le _ _ h9) ((.cons (decGK_le x10 ks hk) .nil))))))))))))
theorem decGK_le : ∀ (d : D) (l : List Glob), decGK d = some l → FrzTo noH d (.list 11 (encGs l))
  | .list n es, l, h => by
    simp only [decGK] at h
    split at h
    · rename_i hn
      subst hn
      have hl := decGs_le es l h
      refine .list hl.1 (fun e he => ?_) hl.2
      rw [encGs_map] at he
      obtain ⟨x, hx, rfl⟩ := List.mem_map.1 he
      exact ⟨encG_kn x, encG_wid x⟩
    · cases h
  | .v (.slice none 0 0), l, h => by
    simp only [decGK, Option.some.injEq] at h
    subst h
    exact .nil _
theorem decGs_le : ∀ (es : List D) (l : List Glob), decGs es = some l → LeL es (encGs l)
  | [], l, h => by
    simp only [decGs, Option.some.injEq] at h
    subst h
    exact .nil
  | d :: ds, l, h => by
    simp only [decGs, Option.bind_eq_some_iff, Option.some.injEq] at h
    obtain ⟨x, h1, xs, h2, rfl⟩ := h
    rw [encGs]
    exact .cons (decG_le d x h1) (decGs_le ds xs h2)
end
instance : Cod Glob where
  wd := 11
  enc := encG
  dec := decG
  kn := encG_kn
  wid := encG_wid
  dec_enc := decG_enc
  le := decG_le
theorem encGs_enc (ks : List Glob) : D.list 11 (encGs ks) = enc ks := by rw [encGs_map]; rfl
theorem decGs_mapM : ∀ es : List D, decGs es = es.mapM (dec (X := Glob))
  | [] => by simp [decGs]
  | d :: es => by
    rw [decGs, List.mapM_cons, decGs_mapM es]
    rfl
theorem decGK_eq : ∀ d : D, decGK d = dec (X := List Glob) d := fun d => by
  unfold decGK
  split
  · rename_i n es
    show _ = if n = 11 then es.mapM (dec (X := Glob)) else none
    rw [decGs_mapM]
  · rfl
  · rename_i h1 h2
    show _ = (match d with
      | .list n es => if n = 11 then es.mapM (dec (X := Glob)) else none
      | .v (.slice none 0 0) => some []
      | _ => none)
    split
    · exact absurd rfl (h1 _ _)
    · exact absurd rfl h2
    · rfl
@[simp] theorem eta_Glob (s : Glob) : Glob.mk s.op s.a s.b s.name s.arg s.val s.fold s.mn s.mx s.args s.kids = s := by cases s; rfl
@[simp] theorem enc_Glob (s : Glob) : enc s = .agg [enc s.op, enc s.a, enc s.b, enc s.name, enc s.arg, enc s.val, enc s.fold, enc s.mn, enc s.mx, enc s.args, enc s.kids] := by
  rw [← encGs_enc]
  cases s
  show encG _ = _
  rw [encG]
@[simp] theorem wd_Glob : Cod.wd Glob = 11 := id rfl
@[simp] theorem dec_Glob (x0 x1 x2 x3 x4 x5 x6 x7 x8 x9 x10 : D) : dec (X := Glob) (.agg [x0, x1, x2, x3, x4, x5, x6, x7, x8, x9, x10]) = ((dec x0).bind fun x0 => (dec x1).bind fun x1 => (dec x2).bind fun x2 => (dec x3).bind fun x3 => (dec x4).bind fun x4 => (dec x5).bind fun x5 => (dec x6).bind fun x6 => (dec x7).bind fun x7 => (dec x8).bind fun x8 => (dec x9).bind fun x9 => (dec x10).bind fun x10 => some ⟨x0, x1, x2, x3, x4, x5, x6, x7, x8, x9, x10⟩) := by
  show decG _ = _
  simp only [decG, decGK_eq]

structure Filt where
  op : Int
  neg : Bool
  reg : B
instance : Cod Filt where
  wd := 3
  enc f := .agg [enc f.op, enc f.neg, enc f.reg]
  dec | .agg [x0, x1, x2] => (dec x0).bind fun a => (dec x1).bind fun b => (dec x2).bind fun c => some ⟨a, b, c⟩ | _ => none
  kn _ := rfl
  wid _ := rfl
  dec_enc f := by simp only [Cod.dec_enc, Option.bind_some]
  le d x h := by
    split at h
    · simp only [Option.bind_eq_some_iff, Option.some.injEq] at h
      obtain ⟨a, h0, b, h1, c, h2, rfl⟩ := h
      exact LeL.agg (.cons (Cod.le _ _ h0) (.cons (Cod.le _ _ h1) (.cons (Cod.le _ _ h2) .nil)))
    · cases h
@[simp] theorem eta_Filt (s : Filt) : Filt.mk s.op s.neg s.reg = s := by cases s; rfl
@[simp] theorem enc_Filt (s : Filt) : enc s = .agg [enc s.op, enc s.neg, enc s.reg] := id rfl
@[simp] theorem wd_Filt : Cod.wd Filt = 3 := id rfl
@[simp] theorem dec_Filt (x0 x1 x2 : D) : dec (X := Filt) (.agg [x0, x1, x2]) = ((dec x0).bind fun a => (dec x1).bind fun b => (dec x2).bind fun c => some ⟨a, b, c⟩) := id rfl

structure Qry where
  pat : Pat
  glob : Glob
  filts : List Filt
  strat : Int
def cellsP : Pat → List D | .mk op c l r mn mx ks => enc op :: (cellsC c ++ [enc l, enc r, enc mn, enc mx, enc ks])
theorem cellsP_eq : ∀ p : Pat, D.agg (cellsP p) = enc p
  | .mk .. => (enc_pat ..).symm
theorem cellsP_len : ∀ p : Pat, (cellsP p).length = 13
  | .mk op c l r mn mx ks => by simp [cellsP, cellsC_len]
def cellsG (g : Glob) : List D := [enc g.op, enc g.a, enc g.b, enc g.name, enc g.arg, enc g.val, enc g.fold, enc g.mn, enc g.mx, enc g.args, enc g.kids]
theorem cellsG_eq (g : Glob) : D.agg (cellsG g) = enc g := (enc_Glob g).symm
theorem agg_le {l l' : List D} (h : FrzTo noH (.agg l) (.agg l')) : LeL l l' := by
  cases h with
  | same => exact ⟨rfl, fun k x y hx hy => by rw [hx] at hy; cases hy; exact .same _⟩
  | agg hl h => exact ⟨hl, h⟩
theorem dec_patL {l : List D} {p : Pat} (h : dec (D.agg l) = some p) : LeL l (cellsP p) := agg_le (by rw [cellsP_eq]; exact Cod.le _ _ h)
theorem dec_globL {l : List D} {p : Glob} (h : dec (D.agg l) = some p) : LeL l (cellsG p) := agg_le (by rw [cellsG_eq]; exact Cod.le _ _ h)
def encQ (q : Qry) : D := .agg (cellsP q.pat ++ (cellsG q.glob ++ [enc q.filts, enc q.strat]))
def decQ : D → Option Qry
  | .agg [x0, x1, x2, x3, x4, x5, x6, x7, x8, x9, x10, x11, x12, y0, y1, y2, y3, y4, y5, y6, y7, y8, y9, y10, f, s] => (dec (D.agg [x0, x1, x2, x3, x4, x5, x6, x7, x8, x9, x10, x11, x12])).bind fun p => (dec (D.agg [y0, y1, y2, y3, y4, y5, y6, y7, y8, y9, y10])).bind fun g => (dec f).bind fun fs => (dec s).bind fun st => some ⟨p, g, fs, st⟩
  | _ => none
instance : Cod Qry where
  wd := 26
  enc := encQ
  dec := decQ
  kn _ := rfl
  wid q := by simp [encQ, D.cells, cellsP_len, cellsG]
  dec_enc q := by
    obtain ⟨⟨op, ⟨o, n, a, v, l, f, cks⟩, lb, rg, mn, mx, ks⟩, g, fs, st⟩ := q
    have h1 := Cod.dec_enc (⟨op, ⟨o, n, a, v, l, f, cks⟩, lb, rg, mn, mx, ks⟩ : Pat)
    have h2 := Cod.dec_enc g
    rw [enc_pat] at h1
    rw [enc_Glob] at h2
    simp only [cellsC, List.cons_append, List.nil_append] at h1
    simp only [encQ, cellsP, cellsC, cellsG, List.cons_append, List.nil_append, decQ, h1, h2, Cod.dec_enc, Option.bind_some]
  le d x h := by
    unfold decQ at h
    split at h
    · simp only [Option.bind_eq_some_iff, Option.some.injEq] at h
      obtain ⟨p, h0, g, h1, fs, h2, st, h3, rfl⟩ := h
      exact LeL.agg ((dec_patL h0).append ((dec_globL h1).append (.cons (Cod.le _ _ h2) (.cons (Cod.le _ _ h3) .nil))))
    · cases h
@[simp] theorem eta_Qry (s : Qry) : Qry.mk s.pat s.glob s.filts s.strat = s := by cases s; rfl
@[simp] theorem wd_Qry : Cod.wd Qry = 26 := id rfl
@[simp] theorem enc_Qry (s : Qry) : enc s = .agg [enc s.pat.op, enc s.pat.cond.op, enc s.pat.cond.name, enc s.pat.cond.arg, enc s.pat.cond.val, enc s.pat.cond.lab, enc s.pat.cond.fold, enc s.pat.cond.kids, enc s.pat.lab, enc s.pat.reg, enc s.pat.mn, enc s.pat.mx, enc s.pat.kids, enc s.glob.op, enc s.glob.a, enc s.glob.b, enc s.glob.name, enc s.glob.arg, enc s.glob.val, enc s.glob.fold, enc s.glob.mn, enc s.glob.mx, enc s.glob.args, enc s.glob.kids, enc s.filts, enc s.strat] := by
  obtain ⟨⟨op, ⟨o, n, a, v, l, f, cks⟩, lb, rg, mn, mx, ks⟩, g, fs, st⟩ := s
  rfl
@[simp] theorem dec_Qry (x0 x1 x2 x3 x4 x5 x6 x7 x8 x9 x10 x11 x12 y0 y1 y2 y3 y4 y5 y6 y7 y8 y9 y10 f s : D) : dec (X := Qry) (.agg [x0, x1, x2, x3, x4, x5, x6, x7, x8, x9, x10, x11, x12, y0, y1, y2, y3, y4, y5, y6, y7, y8, y9, y10, f, s]) = ((dec (D.agg [x0, x1, x2, x3, x4, x5, x6, x7, x8, x9, x10, x11, x12])).bind fun p => (dec (D.agg [y0, y1, y2, y3, y4, y5, y6, y7, y8, y9, y10])).bind fun g => (dec f).bind fun fs => (dec s).bind fun st => some ⟨p, g, fs, st⟩) := id rfl
end Go.Gv

namespace Go.Gv
open Cod (enc dec)
set_option linter.unusedSimpArgs false

structure Tok where
  kind : Int
  text : B
  pos : Int
instance : Cod Tok where
  wd := 3
  enc t := .agg [.v (.int .u8 t.kind), enc t.text, enc t.pos]
  dec | .agg [.v (.int .u8 k), x1, x2] => (dec x1).bind fun b => (dec x2).bind fun c => some ⟨k, b, c⟩ | _ => none
  kn _ := rfl
  wid _ := rfl
  dec_enc f := by simp only [Cod.dec_enc, Option.bind_some]
  le d x h := by
    split at h
    · simp only [Option.bind_eq_some_iff, Option.some.injEq] at h
      obtain ⟨b, h1, c, h2, rfl⟩ := h
      exact LeL.agg (.cons (.same _) (.cons (Cod.le _ _ h1) (.cons (Cod.le _ _ h2) .nil)))
    · cases h
@[simp] theorem eta_Tok (s : Tok) : Tok.mk s.kind s.text s.pos = s := by cases s; rfl
@[simp] theorem enc_Tok (s : Tok) : enc s = .agg [.v (.int .u8 s.kind), enc s.text, enc s.pos] := id rfl
@[simp] theorem wd_Tok : Cod.wd Tok = 3 := id rfl
@[simp] theorem dec_Tok (k : Int) (x1 x2 : D) : dec (X := Tok) (.agg [.v (.int .u8 k), x1, x2]) = ((dec x1).bind fun b => (dec x2).bind fun c => some ⟨k, b, c⟩) := id rfl

structure Pst where
  l : List Tok
  pos : Int
  deep : Int
  e : Int
  fail : Int
@[simp] theorem eta_Pst (s : Pst) : Pst.mk s.l s.pos s.deep s.e s.fail = s := by cases s; rfl
def cePst (s : Pst) : List D := [enc s.l, enc s.pos, enc s.deep, enc s.e, enc s.fail]
@[simp] theorem cePst_eq (s : Pst) : cePst s = [enc s.l, enc s.pos, enc s.deep, enc s.e, enc s.fail] := id rfl

/-! ### What the methods compute -/
def Pst.step (s : Pst) : Pst := { s with pos := s.pos + 1 }
def nowT (s : Pst) : Option Tok := if 0 ≤ s.pos ∧ s.l.length ≤ 1000000 then s.l[s.pos.toNat]? else none
def isF (s : Pst) (k : Int) (t : B) : Option Bool := if s.e ≠ 0 then some false else (nowT s).map fun x => decide (x.kind = k ∧ x.text = t)
def eatF (s : Pst) (t : B) : Option (Pst × Bool) := (isF s 111 t).map fun b => if b then (s.step, true) else (s, false)
/-- (no error: where the token is another one, there is no result here.) -/
def wantF (s : Pst) (k : Int) (t : B) : Option (Pst × B) := if s.e ≠ 0 then none else (nowT s).bind fun x => if x.kind ≠ k ∨ k = 111 ∧ x.text ≠ t then none else some (s.step, x.text)
def digit1 (n : Int) (c : UInt8) : Int := min (10 * n + ((c.toNat : Int) - 48)) 1000000
def digitsF (t : B) : Option Int := if t.data.toList.all fun c => decide (48 ≤ c.toNat ∧ c.toNat ≤ 57) then some (t.data.toList.foldl digit1 0) else none
def numberF (s : Pst) (limit : Int) : Option (Pst × Int) := (wantF s 100 ⟨#[]⟩).bind fun r => (digitsF r.2).bind fun n => if n ≤ limit then some (r.1, n) else none
/-- (not at names) -/
def beginsF (s : Pst) : Option Bool := (nowT s).bind fun x => if s.e ≠ 0 then some false else if x.kind = 110 then none else some (decide (x.kind = 115 ∨ x.kind = 111 ∧ (x.text = ⟨#[91]⟩ ∨ x.text = ⟨#[60]⟩ ∨ x.text = ⟨#[60, 47]⟩ ∨ x.text = ⟨#[40]⟩)))
def E0 : B := ⟨#[]⟩
section
variable (A : Pst → Option (Pst × Pat))
/-- (parentheses, and quoted texts) -/
def itemF (s : Pst) : Option (Pst × Pat) :=
  (eatF s ⟨#[40]⟩).bind fun r =>
    if r.2 then (if 0 ≤ s.deep ∧ s.deep ≤ 1000 then (A { r.1 with deep := s.deep + 1 }).bind fun q => if 0 ≤ q.1.deep ∧ q.1.deep ≤ 1000000 then (wantF { q.1 with deep := q.1.deep - 1 } 111 ⟨#[41]⟩).map fun w => (w.1, q.2) else none else none)
    else if s.e ≠ 0 then none else (nowT s).bind fun x => if x.kind ≠ 115 then none else (eatF s.step ⟨#[37, 99]⟩).map fun w => (w.1, ⟨1, ⟨2, E0, E0, x.text, E0, w.2, []⟩, E0, E0, 0, 0, []⟩)
/-- (only counts in braces, with one number) -/
def repLoop : Nat → Pst → Pat → Option (Pst × Pat)
  | 0, _, _ => none
  | k + 1, s, x => if s.e ≠ 0 then none else (nowT s).bind fun t => if t.kind = 111 ∧ (t.text = ⟨#[63]⟩ ∨ t.text = ⟨#[42]⟩ ∨ t.text = ⟨#[43]⟩) then none else
      if t.kind = 111 ∧ t.text = ⟨#[123]⟩ then (numberF s.step 16).bind fun r => (eatF r.1 ⟨#[44]⟩).bind fun w => if w.2 then none else (wantF w.1 111 ⟨#[125]⟩).bind fun u => repLoop k u.1 ⟨6, Cond0, E0, E0, r.2, r.2, [x]⟩
      else some (s, x)
def repF (s : Pst) : Option (Pst × Pat) := (itemF A s).bind fun r => repLoop 100 r.1 r.2
def seqLoop : Nat → Pst → List Pat → Option (Pst × List Pat)
  | 0, _, _ => none
  | k + 1, s, acc => (beginsF s).bind fun b => if b then (repF A s).bind fun r => seqLoop k r.1 (acc ++ [r.2]) else some (s, acc)
def oneOr (op : Int) (l : List Pat) : Pat := match l with
  | [x] => x
  | l => ⟨op, Cond0, E0, E0, 0, 0, l⟩
def seqF (s : Pst) : Option (Pst × Pat) := (repF A s).bind fun r => (seqLoop A 100 r.1 [r.2]).map fun q => (q.1, oneOr 4 q.2)
def altLoop : Nat → Pst → List Pat → Option (Pst × List Pat)
  | 0, _, _ => none
  | k + 1, s, acc => (eatF s ⟨#[124]⟩).bind fun w => if w.2 then (seqF A w.1).bind fun r => altLoop k r.1 (acc ++ [r.2]) else some (w.1, acc)
def altS (s : Pst) : Option (Pst × Pat) := (seqF A s).bind fun r => (altLoop A 100 r.1 [r.2]).map fun q => (q.1, oneOr 5 q.2)
end
def altF : Nat → Pst → Option (Pst × Pat)
  | 0 => fun _ => none
  | n + 1 => altS (altF n)
end Go.Gv

namespace Go.Gv
set_option linter.unusedSimpArgs false
def isSp (s : B) (i : Nat) : Bool := match s.data[i]? with
  | some c => decide (c.toNat = 32 ∨ c.toNat = 10)
  | none => false
def isDg (s : B) (i : Nat) : Bool := match s.data[i]? with
  | some c => decide (48 ≤ c.toNat ∧ c.toNat ≤ 57)
  | none => false
def skipN : Nat → B → Nat → Nat
  | 0, _, i => i
  | n + 1, s, i => if isSp s i then skipN n s (i + 1) else i
def skipF (s : B) (i : Nat) : Nat := skipN (s.size - i) s i
def digN : Nat → B → Nat → Nat
  | 0, _, i => i
  | n + 1, s, i => if isDg s i then digN n s (i + 1) else i
def digF (s : B) (i : Nat) : Nat := digN (s.size - i) s i
/-- (no quote within) -/
def quoN : Nat → B → Nat → B → Option (Nat × B)
  | 0, _, _, _ => none
  | n + 1, s, j, v => match s.data[j]? with
    | none => none
    | some c => if c.toNat = 34 then (match s.data[j + 1]? with
        | some d => if d.toNat = 34 then none else some (j, v)
        | none => some (j, v)) else quoN n s (j + 1) (v ++ s.extract j (j + 1))
def quoF (s : B) (j : Nat) (v : B) : Option (Nat × B) := quoN (s.size - j) s j v
def signsL : List B := [⟨#[60, 47]⟩, ⟨#[33, 61]⟩, ⟨#[58, 58]⟩, ⟨#[37, 99]⟩, ⟨#[91]⟩, ⟨#[93]⟩, ⟨#[40]⟩, ⟨#[41]⟩, ⟨#[123]⟩, ⟨#[125]⟩, ⟨#[60]⟩, ⟨#[62]⟩, ⟨#[124]⟩, ⟨#[38]⟩, ⟨#[33]⟩, ⟨#[61]⟩, ⟨#[58]⟩, ⟨#[46]⟩, ⟨#[44]⟩, ⟨#[63]⟩, ⟨#[42]⟩, ⟨#[43]⟩, ⟨#[45]⟩]
def preB (s : B) (i : Nat) (x : B) : Bool := decide (i + x.size ≤ s.size ∧ s.extract i (i + x.size) = x)
def tokF (s : B) (i : Nat) : Option (Nat × Tok) := match s.data[i]? with
  | none => none
  | some c =>
    if 65 ≤ c.toNat ∧ c.toNat ≤ 90 ∨ 97 ≤ c.toNat ∧ c.toNat ≤ 122 ∨ c.toNat = 95 then none
    else if 48 ≤ c.toNat ∧ c.toNat ≤ 57 then some (digF s i, ⟨100, s.extract i (digF s i), i⟩)
    else if c.toNat = 34 then (quoF s (i + 1) ⟨#[]⟩).map fun r => (r.1 + 1, ⟨115, r.2, i⟩)
    else match signsL.find? (preB s i) with
      | none => none
      | some x => some (i + x.size, ⟨111, s.extract i (i + x.size), i⟩)
def scanN : Nat → B → Nat → List Tok → Option (List Tok)
  | 0, _, _, _ => none
  | k + 1, s, i, out => if skipF s i = s.size then some (out ++ [⟨101, ⟨#[]⟩, s.size⟩]) else (tokF s (skipF s i)).bind fun r => if r.1 ≤ s.size ∧ skipF s i < r.1 then scanN k s r.1 (out ++ [r.2]) else none
def scanF (s : B) : Option (List Tok) := if s.size ≤ 100000 then scanN 100000 s 0 [] else none
theorem skipF_step {s : B} {i : Nat} (h : i < s.size) : skipF s i = if isSp s i then skipF s (i + 1) else i := by
  unfold skipF
  rw [show s.size - i = (s.size - (i + 1)) + 1 by omega, skipN]
theorem skipF_end {s : B} {i : Nat} (h : s.size ≤ i) : skipF s i = i := by
  unfold skipF
  rw [show s.size - i = 0 by omega, skipN]
theorem digF_step {s : B} {i : Nat} (h : i < s.size) : digF s i = if isDg s i then digF s (i + 1) else i := by
  unfold digF
  rw [show s.size - i = (s.size - (i + 1)) + 1 by omega, digN]
theorem digF_end {s : B} {i : Nat} (h : s.size ≤ i) : digF s i = i := by
  unfold digF
  rw [show s.size - i = 0 by omega, digN]
theorem quoF_step {s : B} {j : Nat} {v : B} {c : UInt8} (h : s.data[j]? = some c) : quoF s j v = if c.toNat = 34 then (match s.data[j + 1]? with
        | some d => if d.toNat = 34 then none else some (j, v)
        | none => some (j, v)) else quoF s (j + 1) (v ++ s.extract j (j + 1)) := by
  have hj : j < s.size := (Array.getElem?_eq_some_iff.1 h).1
  unfold quoF
  rw [show s.size - j = (s.size - (j + 1)) + 1 by omega, quoN, h]
theorem quoF_end {s : B} {j : Nat} {v : B} (h : s.size ≤ j) : quoF s j v = none := by
  unfold quoF
  rw [show s.size - j = 0 by omega, quoN]
end Go.Gv

namespace Go.Gv
set_option linter.unusedSimpArgs false
def Glob0 : Glob := ⟨0, E0, E0, E0, E0, E0, false, 0, 0, [], []⟩
/-- A text that is a pattern and nothing else. -/
def parseF (s : B) : Option Pat := if s.size ≤ 400 then (scanF s).bind fun l => (altF 10 ⟨l, 0, 0, 0, 0⟩).bind fun r => if r.1.e ≠ 0 then none else (nowT r.1).bind fun t => if t.kind = 101 then some r.2 else none else none
def knownText : B := ⟨#[40, 34, 97, 34, 32, 34, 98, 34, 41, 123, 50, 125, 32, 34, 99, 34]⟩
def tokQ (b : B) : Pat := ⟨1, ⟨2, E0, E0, b, E0, false, []⟩, E0, E0, 0, 0, []⟩
def knownPat : Pat := ⟨4, Cond0, E0, E0, 0, 0, [⟨6, Cond0, E0, E0, 2, 2, [⟨4, Cond0, E0, E0, 0, 0, [tokQ ⟨#[97]⟩, tokQ ⟨#[98]⟩]⟩]⟩, tokQ ⟨#[99]⟩]⟩

mutual
def srcL : Pat → Int → Int → List Span
  | .mk op _ _ _ mn _ ks, d, leaf => if op = 1 then [⟨leaf, d⟩] else if op = 4 then srcsL ks d leaf else if op = 6 then (match ks with | [] => [] | k :: _ => (List.range mn.toNat).flatMap fun (i : Nat) => if i = 0 ∨ (widP k).1 = (widP k).2 then srcL k (d + i * (widP k).1) leaf else []) else []
def srcsL : List Pat → Int → Int → List Span
  | [], _, _ => []
  | k :: ks, d, leaf => srcL k d leaf ++ if (widP k).1 = (widP k).2 then srcsL ks (d + (widP k).1) (leaf + (leavesP k).length) else []
end
theorem srcL_mem (p : Pat) : ∀ (d leaf : Int) (s : Span), s ∈ srcL p d leaf ↔ Src p d leaf s := by
  induction p using pat_ind with | _ p ih => ?_
  intro d leaf s
  obtain ⟨op, c, l, r, mn, mx, ks⟩ := p
  simp only at ih
  rw [srcL.eq_def, Src.eq_def]
  simp only
  split
  · simp
  · split
    · have : ∀ ks' : List Pat, (∀ k ∈ ks', k ∈ ks) → ∀ d leaf : Int, s ∈ srcsL ks' d leaf ↔ Srcs ks' d leaf s := by
        intro ks'
        induction ks' with
        | nil => intro _ d leaf; rw [srcsL, Srcs]; simp
        | cons k ks' ihk =>
          intro hk d leaf
          rw [srcsL, Srcs, List.mem_append, ih k (hk k (by simp))]
          refine or_congr_right ?_
          split
          · rename_i h
            rw [ihk (fun z hz => hk z (by simp [hz]))]
            exact ⟨fun h' => ⟨h, h'⟩, fun h' => h'.2⟩
          · rename_i h
            exact ⟨fun h' => by simp at h', fun h' => absurd h'.1 h⟩
      exact this ks (fun _ h => h) d leaf
    · split
      · split
        · simp
        · rename_i k ks'
          rw [List.mem_flatMap]
          constructor
          · rintro ⟨i, hi, hs⟩
            split at hs
            · rename_i hw
              rw [ih k (by simp)] at hs
              rw [List.mem_range] at hi
              exact ⟨i, by omega, by omega, hw.imp (fun h => by omega) id, hs⟩
            · simp at hs
          · rintro ⟨i, h0, h1, h2, h3⟩
            refine ⟨i.toNat, by rw [List.mem_range]; omega, ?_⟩
            rw [if_pos (h2.imp (fun h => by omega) id), ih k (by simp), show ((i.toNat : Nat) : Int) = i by omega]
            exact h3
      · simp
theorem srcsOf_of {p : Pat} {l : List Span} (h : SS l) (h1 : ∀ s, s ∈ l ↔ s ∈ srcL p 0 0) : SrcsOf p l := ⟨h, fun s => (h1 s).trans (srcL_mem p 0 0 s)⟩
end Go.Gv

namespace Go.Gv
set_option linter.unusedSimpArgs false
set_option linter.unusedVariables false
theorem validN_small {s : B} {c d : UInt8} (h : s = ⟨#[c]⟩ ∨ s = ⟨#[c, d]⟩) (hc : begB c.toNat = true) (hd : begB d.toNat = true) : validN s = true := by
  refine (validN_iff s).2 ?_
  have hc' : conB c.toNat = true := by unfold conB; rw [hc]; rfl
  have hd' : conB d.toNat = true := by unfold conB; rw [hd]; rfl
  rcases h with rfl | rfl
  · refine ⟨by show 1 ≤ 1; decide, by show 1 ≤ 32; decide, fun x hx => ?_, fun k x hx => ?_⟩
    · cases hx; exact hc
    · rcases k with _ | k
      · cases hx; exact hc'
      · simp at hx
  · refine ⟨by show 1 ≤ 2; decide, by show 2 ≤ 32; decide, fun x hx => ?_, fun k x hx => ?_⟩
    · cases hx; exact hc
    · rcases k with _ | _ | k
      · cases hx; exact hc'
      · cases hx; exact hd'
      · simp at hx
theorem validN_gen : validN b_s = true ∧ validN b_np = true ∧ validN b_t = true ∧ validN b_x = true ∧ validN b_y = true :=
  ⟨validN_small (c := 115) (d := 115) (.inl rfl) (by decide) (by decide), validN_small (c := 110) (d := 112) (.inr rfl) (by decide) (by decide), validN_small (c := 116) (d := 116) (.inl rfl) (by decide) (by decide),
   validN_small (c := 120) (d := 120) (.inl rfl) (by decide) (by decide), validN_small (c := 121) (d := 121) (.inl rfl) (by decide) (by decide)⟩
def E00 : B := ⟨#[]⟩
def seqP (ks : List Pat) : Pat := ⟨4, Cond0, ⟨#[]⟩, ⟨#[]⟩, 0, 0, ks⟩
def tokP (c : Cond) : Pat := ⟨1, c, ⟨#[]⟩, ⟨#[]⟩, 0, 0, []⟩
theorem tokP_wp (c : Cond) : WP0 [] (tokP c) := .inl ⟨rfl, .inl rfl, rfl, rfl, rfl, rfl⟩
theorem labOk_nil : LabOk [] := fun l h => by simp at h
/-- The sources of a generated pattern. -/
theorem wp_fixed {lb : List B} (hl : LabOk lb) {n : Nat} {p : Pat} (h : WP lb n p) (hn : n ≤ 4) : P_Fixed p ∧ ∀ y, Q_Fixed p y → SrcsOf p y := by
  obtain ⟨h1, h2, h3⟩ := wp_size n p h (by omega)
  have h4 := wp_cnt n p h
  have e : (3 : Int) ^ n ≤ 81 ∧ 2 ^ (n + 1) ≤ 32 ∧ 2 ^ n ≤ 16 := by
    have : n = 0 ∨ n = 1 ∨ n = 2 ∨ n = 3 ∨ n = 4 := by omega
    rcases this with rfl | rfl | rfl | rfl | rfl <;> decide
  refine ⟨⟨by omega, by omega⟩, fun y hy => ?_⟩
  unfold Q_Fixed at hy
  rwa [if_pos ⟨wp_patB hl validN_gen n p h (by omega), by omega⟩] at hy
/-- Each one further. -/
def shS (s : Span) : Span := ⟨s.b + 1, s.e + 1⟩
theorem shS_ss {l : List Span} (h : SS l) : SS (l.map shS) := by
  unfold SS at *
  rw [List.pairwise_map]
  exact h.imp fun {a b} h => by unfold ltS shS at *; simp only; omega
theorem shift_wp {n : Nat} {p : Pat} (c : Cond) (h : WP [] n p) : WP [] (n + 1) (seqP [tokP c, p]) := .inr (.inl ⟨.inl rfl, rfl, rfl, rfl, rfl, rfl, tokP c, p, rfl, wp0 (tokP_wp c), h⟩)
theorem shift_srcs {n : Nat} {p : Pat} {c : Cond} {y z : List Span} (h : WP [] n p) (hn : n ≤ 90) (hy : SrcsOf p y) (hz : SrcsOf (seqP [tokP c, p]) z) : z = ⟨0, 0⟩ :: y.map shS := by
  have hr : ∀ s, Src p 0 0 s → 0 ≤ s.b ∧ 0 ≤ s.e := fun s hs => by
    have := src_rng p (wp_patB labOk_nil validN_gen n p h hn) 0 0 s hs
    omega
  refine hz.eq ⟨?_, fun s => ?_⟩
  · unfold SS
    rw [List.pairwise_cons]
    refine ⟨fun s hs => ?_, shS_ss hy.1⟩
    obtain ⟨t, ht, rfl⟩ := List.mem_map.1 hs
    have := hr t ((hy.2 t).1 ht)
    unfold ltS shS
    simp only
    omega
  · rw [src4 rfl]
    show _ ↔ Srcs [tokP c, p] 0 0 s
    rw [Srcs, Srcs, Srcs, src1 rfl, widP1 (p := tokP c) rfl, leavesP_eq, if_pos (show (tokP c).op = 1 from rfl), List.mem_cons, List.mem_map]
    simp only [true_and, and_false, or_false, List.length_cons, List.length_nil]
    refine or_congr_right ?_
    obtain ⟨x, e⟩ := s
    have := src_shift p 1 1 0 0 (x - 1) (e - 1)
    simp only [Int.sub_add_cancel] at this
    constructor
    · rintro ⟨t, ht, he⟩
      have e1 : t = ⟨x - 1, e - 1⟩ := by
        unfold shS at he
        rw [Span.mk.injEq] at he
        refine Span.ext' ?_ ?_ <;> simp only <;> omega
      subst e1
      have := this.2 ((hy.2 _).1 ht)
      simpa using this
    · intro h
      refine ⟨⟨x - 1, e - 1⟩, (hy.2 _).2 (this.1 (by simpa using h)), Span.ext' ?_ ?_⟩ <;> simp only [shS] <;> omega
theorem flat_len {α β : Type} (f : α → List β) (c : Nat) : ∀ l : List α, (∀ a ∈ l, (f a).length ≤ c) → (l.flatMap f).length ≤ l.length * c
  | [], _ => by simp
  | a :: l, h => by
    rw [List.flatMap_cons, List.length_append, List.length_cons, Nat.succ_mul]
    have := flat_len f c l fun x hx => h x (by simp [hx])
    have := h a (by simp)
    omega
theorem srcL_len (p : Pat) : ∀ d leaf : Int, (srcL p d leaf).length ≤ cntP p := by
  induction p using pat_ind with | _ p ih => ?_
  intro d leaf
  have hpos := cntP_pos p
  rw [cntP_eq] at hpos ⊢
  obtain ⟨op, c, l, r, mn, mx, ks⟩ := p
  simp only at ih hpos ⊢
  rw [srcL.eq_def]
  simp only
  have hs : ∀ ks' : List Pat, (∀ k ∈ ks', k ∈ ks) → ∀ d leaf : Int, (srcsL ks' d leaf).length ≤ cntPs ks' := by
    intro ks'
    induction ks' with
    | nil => intro _ d leaf; rw [srcsL]; simp
    | cons k ks' ihk =>
      intro hk d leaf
      rw [srcsL, cntPs, List.length_append]
      have h1 := ih k (hk k (by simp)) d leaf
      split
      · have := ihk (fun z hz => hk z (by simp [hz])) (d + (widP k).1) (leaf + (leavesP k).length)
        omega
      · simp; omega
  split
  · simpa using hpos
  · split
    · split
      · rename_i h; subst h; rw [srcsL]; simp
      · rw [if_neg (by omega)]
        exact hs ks (fun _ h => h) d leaf
    · split
      · rename_i h6
        split
        · simp
        · rename_i k ks'
          rw [if_neg (by simp), cntPs]
          refine Nat.le_trans (flat_len _ (cntP k) _ fun i _ => ?_) ?_
          · split
            · exact ih k (by simp) _ _
            · simp
          · rw [List.length_range]
            exact Nat.mul_le_mul (by omega) (by omega)
      · simp
theorem srcsOf_len {p : Pat} {y : List Span} (h : SrcsOf p y) : y.length ≤ cntP p := Nat.le_trans (ss_len h.1 fun x hx => (srcL_mem p 0 0 x).2 ((h.2 x).1 hx)) (srcL_len p 0 0)
end Go.Gv
