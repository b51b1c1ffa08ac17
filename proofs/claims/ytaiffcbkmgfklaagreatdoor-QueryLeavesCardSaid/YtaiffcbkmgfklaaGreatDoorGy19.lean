/- A part of the framework and of the walks: W31 V15 V16 T24 V18 V19 W80. -/
import Derived.Test.YtaiffcbkmgfklaaGreatDoorGy18
import Derived.Test.YtaiffcbkmgfklaaGreatDoorGy15
import Derived.Test.YtaiffcbkmgfklaaGreatDoorGy11
import Derived.Test.YtaiffcbkmgfklaaGreatDoorGy17

namespace Go.Gv
set_option linter.unusedSimpArgs false
set_option linter.unusedVariables false
set_option maxRecDepth 100000
open Cod (enc dec)
variable {S S0 : Nat → Spc}

/-! ### Names -/
def begB (c : Int) : Bool := decide (65 ≤ c ∧ c ≤ 90 ∨ 97 ≤ c ∧ c ≤ 122 ∨ c = 95)
def conB (c : Int) : Bool := begB c || decide (48 ≤ c ∧ c ≤ 57 ∨ c = 45)
def ValidN (s : B) : Prop := 1 ≤ s.size ∧ s.size ≤ 32 ∧ (∀ c : UInt8, s.data[0]? = some c → begB c.toNat = true) ∧ ∀ (k : Nat) (c : UInt8), s.data[k]? = some c → conB c.toNat = true
noncomputable def validN (s : B) : Bool := @decide (ValidN s) (Classical.propDecidable _)
theorem validN_iff (s : B) : validN s = true ↔ ValidN s := @decide_eq_true_iff (ValidN s) (Classical.propDecidable _)
theorem validN_t {s : B} (h : ValidN s) : true = validN s := ((validN_iff s).2 h).symm
theorem validN_f {s : B} (h : ¬ ValidN s) : false = validN s := by
  rcases hb : validN s
  · rfl
  · exact absurd ((validN_iff s).1 hb) h
abbrev s_begins : Spc := spc (a1 U8) (fun _ => True) (enc (X := Bool)) fun x y => y = begB x.val
abbrev s_goesOn : Spc := spc (a1 U8) (fun _ => True) (enc (X := Bool)) fun x y => y = conB x.val
abbrev s_validN : Spc := spc (a1 B) (fun _ => True) (enc (X := Bool)) fun x y => y = validN x
theorem w_markup_begins : Walk cc_markup_begins rs_markup_begins S (a1 U8) (fun _ => True) (enc (X := Bool)) fun x y => y = begB x.val := by
  rintro ⟨c⟩ -
  simp [cc_markup_begins, rs_markup_begins, begB]
  repeat' first | apply And.intro | intro _
  all_goals first | omega | (rw [Bool.eq_iff_iff]; simp; omega)
theorem w_r04_FirstF : Walk cc_r04_First rs_r04_First S (a1 U8) (fun _ => True) (enc (X := Bool)) fun x y => y = begB x.val := by
  rintro ⟨c⟩ -
  simp [cc_r04_First, rs_r04_First, begB]
  repeat' first | apply And.intro | intro _
  all_goals first | omega | (rw [Bool.eq_iff_iff]; simp; omega)
theorem w_markup_goesOn (h1 : S f_markup_begins = s_begins) : Walk cc_markup_goesOn rs_markup_goesOn S (a1 U8) (fun _ => True) (enc (X := Bool)) fun x y => y = conB x.val := by
  rintro ⟨c⟩ -
  simp [cc_markup_goesOn, rs_markup_goesOn, h1, conB, -Bool.forall_bool]
  rcases hb : begB c <;> simp [hb]
  repeat' first | apply And.intro | intro _
  all_goals first | omega | (rw [Bool.eq_iff_iff]; simp; omega)
theorem w_r04_NextF (h1 : S f_r04_First = s_begins) : Walk cc_r04_Next rs_r04_Next S (a1 U8) (fun _ => True) (enc (X := Bool)) fun x y => y = conB x.val := by
  rintro ⟨c⟩ -
  simp [cc_r04_Next, rs_r04_Next, h1, conB, -Bool.forall_bool]
  rcases hb : begB c <;> simp [hb]
  repeat' first | apply And.intro | intro _
  all_goals first | omega | (rw [Bool.eq_iff_iff]; simp; omega)
theorem w_r04_ValidNameF (h1 : S f_r04_First = s_begins) (h2 : S f_r04_Next = s_goesOn) : Walk cc_r04_ValidName rs_r04_ValidName S (a1 B) (fun _ => True) (enc (X := Bool)) fun x y => y = validN x := by
  rintro s -
  simp [cc_r04_ValidName, rs_r04_ValidName, h1, h2]
  refine fun _ => ⟨fun k1 _ => ⟨fun k2 => ⟨by omega, fun c hc => ⟨fun hb => (validN_f fun h => by rw [h.2.2.1 c hc] at hb; cases hb).symm, fun hb => ?_⟩⟩, fun k2 => (validN_f fun h => by have := h.2.1; omega).symm⟩, fun k1 => (validN_f fun h => by have := h.1; omega).symm⟩
  refine vc_while (X := Nat) [0] [] (fun k => 1 ≤ k ∧ k ≤ s.size ∧ ∀ (j : Nat) (c : UInt8), j < k → s.data[j]? = some c → conB c.toNat = true) (fun k => [(3, enc (k : Int))]) (fun _ => []) (fun k => s.size - k) 1 ⟨by omega, by omega, fun j d hj hd => ?_⟩ (by simp) (by simp) ?_
  · have : j = 0 := by omega
    subst this
    rw [hc] at hd
    cases hd
    simp [conB, hb]
  rintro k ⟨h3, h4, h5⟩
  simp [h2]
  refine fun _ => ⟨fun hk => ⟨by omega, fun d hd => ⟨fun hf => (validN_f fun h => by rw [h.2.2.2 k d hd] at hf; cases hf).symm, fun ht => ⟨by simp only [InR]; omega, k + 1, ⟨by omega, by omega, fun j e hj he => ?_⟩, by omega, by omega⟩⟩⟩, fun hk => ?_⟩
  · by_cases e1 : j = k
    · subst e1
      rw [hd] at he
      cases he
      exact ht
    · exact h5 j e (by omega) he
  · refine (validN_t ⟨by omega, by omega, fun d hd => by rw [hc] at hd; cases hd; exact hb, fun j e he => h5 j e ?_ he⟩).symm
    have := (Array.getElem?_eq_some_iff.1 he).1
    have : j < s.size := this
    omega
theorem w_markup_ValidName (h1 : S f_markup_begins = s_begins) (h2 : S f_markup_goesOn = s_goesOn) : Walk cc_markup_ValidName rs_markup_ValidName S (a1 B) (fun _ => True) (enc (X := Bool)) fun x y => y = validN x := by
  rintro s -
  simp [cc_markup_ValidName, rs_markup_ValidName, h1, h2]
  refine fun _ => ⟨fun k1 _ => ⟨fun k2 => ⟨by omega, fun c hc => ⟨fun hb => (validN_f fun h => by rw [h.2.2.1 c hc] at hb; cases hb).symm, fun hb _ => ?_⟩⟩, fun k2 => (validN_f fun h => by have := h.2.1; omega).symm⟩, fun k1 => (validN_f fun h => by have := h.1; omega).symm⟩
  refine vc_range (X := Unit) [0] [] s.size (fun k _ => ∀ (j : Nat) (c : UInt8), j < k → s.data[j]? = some c → conB c.toNat = true) (fun _ => []) (fun _ => []) () (by simp) (by simp) (by omega) (by simp) (by simp) (by intro j d hj; omega) (by simp) (by simp) ?_ ?_
  · rintro k - hk h5
    simp [h2]
    refine ⟨hk, fun d hd => ⟨fun hf => (validN_f fun h => by rw [h.2.2.2 k d hd] at hf; cases hf).symm, fun ht j e hj he => ?_⟩⟩
    by_cases e1 : j = k
    · subst e1
      rw [hd] at he
      cases he
      exact ht
    · exact h5 j e (by omega) he
  · rintro - h5
    simp
    refine (validN_t ⟨by omega, by omega, fun d hd => by rw [hc] at hd; cases hd; exact hb, fun j e he => h5 j e ?_ he⟩).symm
    exact (Array.getElem?_eq_some_iff.1 he).1
end Go.Gv

namespace Go.Gv
set_option linter.unusedSimpArgs false
set_option linter.unusedVariables false
/-- the end of the bytes from i on that satisfy a function -/
def runN (p : U8 → Bool) : Nat → B → Nat → Nat
  | 0, _, i => i
  | n + 1, s, i => match s.data[i]? with
    | some c => if p ⟨c.toNat⟩ then runN p n s (i + 1) else i
    | none => i
def runP (p : U8 → Bool) (s : B) (i : Nat) : Nat := runN p (s.size - i) s i
theorem runP_end {p : U8 → Bool} {s : B} {i : Nat} (h : s.size ≤ i) : runP p s i = i := by
  unfold runP
  rw [show s.size - i = 0 by omega, runN]
theorem runP_step {p : U8 → Bool} {s : B} {i : Nat} {c : UInt8} (h : s.data[i]? = some c) : runP p s i = if p ⟨c.toNat⟩ then runP p s (i + 1) else i := by
  have hi : i < s.size := (Array.getElem?_eq_some_iff.1 h).1
  unfold runP
  rw [show s.size - i = (s.size - (i + 1)) + 1 by omega, runN, h]
theorem runN_rng (p : U8 → Bool) : ∀ (n : Nat) (s : B) (i : Nat), i ≤ runN p n s i ∧ runN p n s i ≤ i + n
  | 0, s, i => by rw [runN]; omega
  | n + 1, s, i => by
    rw [runN]
    split
    · split
      · have := runN_rng p n s (i + 1); omega
      · omega
    · omega
theorem runP_rng (p : U8 → Bool) {s : B} {i : Nat} (h : i ≤ s.size) : i ≤ runP p s i ∧ runP p s i ≤ s.size := by
  have := runN_rng p (s.size - i) s i
  unfold runP
  omega
def spP (c : U8) : Bool := decide (c.val = 32 ∨ c.val = 10)
def letP (c : U8) : Bool := begB c.val
def digP (c : U8) : Bool := decide (48 ≤ c.val ∧ c.val ≤ 57)
def namP (c : U8) : Bool := letP c || digP c || decide (c.val = 45)
theorem run_skip : ∀ (n : Nat) (s : B) (i : Nat), runN spP n s i = skipN n s i
  | 0, s, i => by rw [runN, skipN]
  | n + 1, s, i => by
    rw [runN, skipN, isSp]
    cases h : s.data[i]? with
    | none => rfl
    | some c =>
      simp only
      rw [run_skip n s (i + 1)]
      have : spP ⟨c.toNat⟩ = decide (c.toNat = 32 ∨ c.toNat = 10) := by unfold spP; rw [Bool.eq_iff_iff]; simp; omega
      rw [this]
theorem run_dig : ∀ (n : Nat) (s : B) (i : Nat), runN digP n s i = digN n s i
  | 0, s, i => by rw [runN, digN]
  | n + 1, s, i => by
    rw [runN, digN, isDg]
    cases h : s.data[i]? with
    | none => rfl
    | some c =>
      simp only
      rw [run_dig n s (i + 1)]
      have : digP ⟨c.toNat⟩ = decide (48 ≤ c.toNat ∧ c.toNat ≤ 57) := by unfold digP; rw [Bool.eq_iff_iff]; simp; omega
      rw [this]
theorem run_nam : ∀ (n : Nat) (s : B) (i : Nat), runN namP n s i = namN n s i
  | 0, s, i => by rw [runN, namN]
  | n + 1, s, i => by
    rw [runN, namN, isNm]
    cases h : s.data[i]? with
    | none => rfl
    | some c =>
      simp only
      rw [run_nam n s (i + 1)]
      have : namP ⟨c.toNat⟩ = (letB c.toNat || decide (48 ≤ c.toNat ∧ c.toNat ≤ 57 ∨ c.toNat = 45)) := by
        unfold namP letP digP begB letB; rw [Bool.eq_iff_iff]; simp; omega
      rw [this]
end Go.Gv

namespace Go.Gv
open Cod (enc dec)
set_option linter.unusedSimpArgs false
structure Lxm where
  kind : Int
  text : B
  pos : Int
instance : Cod Lxm where
  wd := 3
  enc t := .agg [enc t.kind, enc t.text, enc t.pos]
  dec | .agg [x0, x1, x2] => (dec x0).bind fun a => (dec x1).bind fun b => (dec x2).bind fun c => some ⟨a, b, c⟩ | _ => none
  kn _ := rfl
  wid _ := rfl
  dec_enc f := by simp only [Cod.dec_enc, Option.bind_some]
  le d x h := by
    split at h
    · simp only [Option.bind_eq_some_iff, Option.some.injEq] at h
      obtain ⟨a, h0, b, h1, c, h2, rfl⟩ := h
      exact LeL.agg (.cons (Cod.le _ _ h0) (.cons (Cod.le _ _ h1) (.cons (Cod.le _ _ h2) .nil)))
    · cases h
@[simp] theorem eta_Lxm (s : Lxm) : Lxm.mk s.kind s.text s.pos = s := by cases s; rfl
@[simp] theorem enc_Lxm (s : Lxm) : enc s = .agg [enc s.kind, enc s.text, enc s.pos] := id rfl
@[simp] theorem wd_Lxm : Cod.wd Lxm = 3 := id rfl
@[simp] theorem dec_Lxm (x0 x1 x2 : D) : dec (X := Lxm) (.agg [x0, x1, x2]) = ((dec x0).bind fun a => (dec x1).bind fun b => (dec x2).bind fun c => some ⟨a, b, c⟩) := id rfl
/-- quoted: the text in quotes, and where it ends (-1: it is not closed) -/
def quoP (s : B) (i : Nat) : B × Int := match quoG s (i + 1) ⟨#[]⟩ with
  | some r => (r.2, r.1 + 1)
  | none => (⟨#[]⟩, -1)
/-- lex: the token from i on, and where it ends -/
def lexP (s : B) (i : Nat) : Lxm × Int :=
  let j := skipF s i
  match s.data[j]? with
  | none => (⟨0, E0, j⟩, j)
  | some c =>
    if letP ⟨c.toNat⟩ then (⟨2, s.extract j (namF s j), j⟩, namF s j)
    else if digP ⟨c.toNat⟩ then (⟨3, s.extract j (digF s j), j⟩, digF s j)
    else if c.toNat = 34 then (if (quoP s j).2 < 0 then (⟨1, E0, j⟩, s.size) else (⟨4, (quoP s j).1, j⟩, (quoP s j).2))
    else match signsL.find? (preB s j) with
      | some x => (⟨5, x, j⟩, j + x.size)
      | none => (⟨1, E0, j⟩, j)
end Go.Gv

namespace Go.Gv
set_option linter.unusedSimpArgs false
set_option linter.unusedVariables false
set_option linter.unusedSectionVars false
open Cod (enc dec)
/-- the program's reader: the text, where the token ends, the token -/
structure Rdr where
  txt : B
  fin : Int
  kind : Int
  text : B
  pos : Int
@[simp] theorem eta_Rdr (s : Rdr) : Rdr.mk s.txt s.fin s.kind s.text s.pos = s := by cases s; rfl
def ceRdr (s : Rdr) : List D := [enc s.txt, enc s.fin, enc s.kind, enc s.text, enc s.pos]
@[simp] theorem ceRdr_eq (s : Rdr) : ceRdr s = [enc s.txt, enc s.fin, enc s.kind, enc s.text, enc s.pos] := id rfl
section
variable {Y Z : Type}
def rdB : BoxF Rdr := boxD ceRdr
/-- A method of the parser: what it asks, how its result is written, what it says. -/
def rdC (A : Arg Z) (er : Y → D) (pre : Rdr → Z → Prop) (post : Rdr → Z → Rdr → Y → Prop) : Spc := bpC rdB A er pre post
def rdX (er : Y → D) (pre : Rdr → Z → Prop) (post : Rdr → Z → Rdr → Y → Prop) (id b : Nat) (r : Option Res) (o : Option Z) (H : HMap) (K : D → HMap → Prop) : Prop :=
  ∃ x, r = some (.box b (ceRdr x)) ∧ optX o fun z => pre x z ∧ ∀ x' y, post x z x' y → K (er y) (updH H id (some (.box b (ceRdr x'))))
@[congr] theorem rdX_cg {er : Y → D} {pre : Rdr → Z → Prop} {post : Rdr → Z → Rdr → Y → Prop} {id b : Nat} {r r' : Option Res} {o o' : Option Z} {H : HMap} {K : D → HMap → Prop} (h1 : r = r') (h2 : o = o') : rdX er pre post id b r o H K = rdX er pre post id b r' o' H K := by subst h1; subst h2; rfl
theorem ceRdr_inj {x y : Rdr} (h : ceRdr x = ceRdr y) : x = y := by
  obtain ⟨l, a, d, e, f⟩ := x
  obtain ⟨l', a', d', e', f'⟩ := y
  simp only [ceRdr, List.cons.injEq] at h
  obtain ⟨h1, h2, h3, h4, h5, _⟩ := h
  have h1 := enc_inj h1
  have h2 := enc_inj h2
  have h3 := enc_inj h3
  have h4 := enc_inj h4
  have h5 := enc_inj h5
  subst h1; subst h2; subst h3; subst h4; subst h5
  rfl
@[simp] theorem rdC_pt (A : Arg Z) (er : Y → D) (pre : Rdr → Z → Prop) (post : Rdr → Z → Rdr → Y → Prop) (d i b : Nat) (ds : List D) (H : HMap) (K : D → HMap → Prop) : (rdC A er pre post).pt d (.bptr i b 0 :: ds) H K = rdX er pre post i b (H i) (A.dec ds) H K := by
  refine propext ⟨fun h => ?_, fun h => ?_⟩
  · obtain ⟨id, b', x, z, ds', h1, h2, h3, h4, h5, h6, h7⟩ := h
    cases h1
    refine ⟨x, h3, ?_⟩
    rw [h2]
    exact ⟨h6, h7⟩
  · obtain ⟨x, h1, h2⟩ := h
    cases hz : A.dec ds with
    | none => rw [hz] at h2; exact h2.elim
    | some z => rw [hz] at h2; exact ⟨i, b, x, z, ds, rfl, hz, h1, fun p hp => by simp [rdB, boxD] at hp, by simp [rdB, boxD], h2.1, h2.2⟩
@[simp] theorem rdX_r (er : Y → D) (pre : Rdr → Z → Prop) (post : Rdr → Z → Rdr → Y → Prop) (id b : Nat) (l : B) (p dp : Int) (e : B) (f : Int) (o : Option Z) (H : HMap) (K : D → HMap → Prop) :
    rdX er pre post id b (some (.box b [.v (.string l), .v (.int .i64 p), .v (.int .i64 dp), .v (.string e), .v (.int .i64 f)])) o H K = optX o fun z => pre ⟨l, p, dp, e, f⟩ z ∧ ∀ x' y, post ⟨l, p, dp, e, f⟩ z x' y → K (er y) (updH H id (some (.box b (ceRdr x')))) := by
  refine propext ⟨fun ⟨x, h1, h2⟩ => ?_, fun h => ⟨⟨l, p, dp, e, f⟩, rfl, h⟩⟩
  have e1 : ceRdr ⟨l, p, dp, e, f⟩ = ceRdr x := by
    have := Option.some.inj h1
    exact (Res.box.inj this).2
  have := ceRdr_inj e1
  subst this
  exact h2
/-- What is to be shown at a method's end. -/
def FinRD (er : Y → D) (b : Nat) (post : Rdr → Y → Prop) (r : D) (H : HMap) : Prop := FinBP rdB er b post r H
theorem finRD {er : Y → D} {b : Nat} {post : Rdr → Y → Prop} {r : D} {H : HMap} (x : Rdr) (y : Y) (hr : FrzTo (fun i => if i = 0 then none else H i) r (er y)) (h0 : H 0 = some (.box b (ceRdr x))) (hq : post x y) : FinRD er b post r H :=
  ⟨x, y, by simpa [rdB, boxD] using hr, h0, fun p hp => by simp [rdB, boxD] at hp, hq⟩
def WalkRD (cc : CC) (rs : List CRes) (S : Nat → Spc) (A : Arg Z) (er : Y → D) (pre : Rdr → Z → Prop) (post : Rdr → Z → Rdr → Y → Prop) : Prop :=
  ∀ b x z, pre x z → vc S cc (retK rs fun r H' => FinRD er b (post x z) r H') (initS (.bptr 0 b 0 :: A.view z)) (updH noH 0 (some (.box b (ceRdr x))))
variable {P : Program} {S : Nat → Spc} {f : Nat} {im : List Nat} {cc : CC} {rs : List CRes} {N : Nat}
theorem tri_walkRD {A : Arg Z} {er : Y → D} {pre : Rdr → Z → Prop} {post : Rdr → Z → Rdr → Y → Prop} (hS : ∀ f, Tri P f (S f).pt) (h : FnOk P f im cc rs N) (hN : ∀ z, (A.view z).length + 1 ≤ N) (hw : WalkRD cc rs S A er pre post) : Tri P f (rdC A er pre post).pt :=
  tri_walkBP (by simp [rdB, boxD]) hS h hN fun b x z hp => hw b x z hp
end
section
variable {Y Z : Type}
/-- The contract of a method that computes F. -/
def rdF (A : Arg Z) (er : Y → D) (F : Rdr → Z → Option (Rdr × Y)) : Spc := rdC A er (fun s z => ∃ r, F s z = some r) (fun s z s' y => F s z = some (s', y))
def rdFX (er : Y → D) (F : Rdr → Z → Option (Rdr × Y)) (id b : Nat) (r : Option Res) (o : Option Z) (H : HMap) (K : D → HMap → Prop) : Prop :=
  ∃ x, r = some (.box b (ceRdr x)) ∧ optX o fun z => optX (F x z) fun q => K (er q.2) (updH H id (some (.box b (ceRdr q.1))))
@[congr] theorem rdFX_cg {er : Y → D} {F : Rdr → Z → Option (Rdr × Y)} {id b : Nat} {r r' : Option Res} {o o' : Option Z} {H : HMap} {K : D → HMap → Prop} (h1 : r = r') (h2 : o = o') : rdFX er F id b r o H K = rdFX er F id b r' o' H K := by subst h1; subst h2; rfl
theorem optFR {F : Option (Rdr × Y)} {k : Rdr → Y → Prop} : ((∃ r, F = some r) ∧ ∀ x' y, F = some (x', y) → k x' y) = optX F fun q => k q.1 q.2 := by
  cases F with
  | none =>
    refine propext (Iff.intro (fun h => ?_) (fun h => ?_))
    · obtain ⟨⟨r, h⟩, _⟩ := h
      cases h
    · exact False.elim h
  | some r =>
    refine propext (Iff.intro (fun h => h.2 _ _ rfl) (fun h => ⟨⟨_, rfl⟩, fun x' y e => ?_⟩))
    cases e
    exact h
@[simp] theorem rdF_pt (A : Arg Z) (er : Y → D) (F : Rdr → Z → Option (Rdr × Y)) (d i b : Nat) (ds : List D) (H : HMap) (K : D → HMap → Prop) : (rdF A er F).pt d (.bptr i b 0 :: ds) H K = rdFX er F i b (H i) (A.dec ds) H K := by
  unfold rdF rdFX
  rw [rdC_pt]
  unfold rdX
  refine propext (exists_congr fun x => and_congr_right fun _ => ?_)
  cases A.dec ds with
  | none => exact Iff.rfl
  | some z => exact iff_of_eq optFR
@[simp] theorem rdFX_r (er : Y → D) (F : Rdr → Z → Option (Rdr × Y)) (id b : Nat) (l : B) (p dp : Int) (e : B) (f : Int) (o : Option Z) (H : HMap) (K : D → HMap → Prop) :
    rdFX er F id b (some (.box b [.v (.string l), .v (.int .i64 p), .v (.int .i64 dp), .v (.string e), .v (.int .i64 f)])) o H K = optX o fun z => optX (F ⟨l, p, dp, e, f⟩ z) fun q => K (er q.2) (updH H id (some (.box b (ceRdr q.1)))) := by
  refine propext ⟨fun ⟨x, h1, h2⟩ => ?_, fun h => ⟨⟨l, p, dp, e, f⟩, rfl, h⟩⟩
  have e1 : ceRdr ⟨l, p, dp, e, f⟩ = ceRdr x := by
    have := Option.some.inj h1
    exact (Res.box.inj this).2
  have := ceRdr_inj e1
  subst this
  exact h2
variable {P : Program} {S : Nat → Spc} {f : Nat} {im : List Nat} {cc : CC} {rs : List CRes} {N : Nat}
theorem tri_walkRDF {A : Arg Z} {er : Y → D} {F : Rdr → Z → Option (Rdr × Y)} (hS : ∀ f, Tri P f (S f).pt) (h : FnOk P f im cc rs N) (hN : ∀ z, (A.view z).length + 1 ≤ N)
    (hw : WalkRD cc rs S A er (fun s z => ∃ r, F s z = some r) (fun s z s' y => F s z = some (s', y))) : Tri P f (rdF A er F).pt := tri_walkRD hS h hN hw
end
end Go.Gv

namespace Go.Gv
set_option linter.unusedSimpArgs false
set_option linter.unusedVariables false
def nextR (s : Rdr) : Option Rdr := if (0 ≤ s.fin ∧ s.fin ≤ s.txt.size) ∧ s.txt.size ≤ 100000 then some ⟨s.txt, (lexP s.txt s.fin.toNat).2, (lexP s.txt s.fin.toNat).1.kind, (lexP s.txt s.fin.toNat).1.text, (lexP s.txt s.fin.toNat).1.pos⟩ else none
def peekR (s : Rdr) : Option Lxm := if (0 ≤ s.fin ∧ s.fin ≤ s.txt.size) ∧ s.txt.size ≤ 100000 then some (lexP s.txt s.fin.toNat).1 else none
def signR (s : Rdr) (t : B) : Bool := decide (s.kind = 5) && decide (s.text = t)
def takeR (s : Rdr) (t : B) : Option (Rdr × Bool) := if signR s t then (nextR s).map fun x => (x, true) else some (s, false)
def wordR (s : Rdr) (l : List B) : Bool := decide (s.kind = 2) && l.any (fun z => decide (s.text = z))
def mustR : Rdr → List B → Option Rdr
  | s, [] => some s
  | s, t :: l => if signR s t then (nextR s).bind fun x => mustR x l else none
def textR (s : Rdr) (k : Int) : Option (Rdr × B) := if s.kind = k then (nextR s).map fun x => (x, s.text) else none
section
variable (N : Rdr → Option (Rdr × Cond)) (O : Rdr → Option (Rdr × Cond))
def andLoopR : Nat → Rdr → List Cond → Option (Rdr × List Cond)
  | 0, _, _ => none
  | k + 1, s, acc => (takeR s ⟨#[38]⟩).bind fun w => if w.2 then (N w.1).bind fun r => andLoopR k r.1 (acc ++ [r.2]) else some (w.1, acc)
def andR (s : Rdr) : Option (Rdr × Cond) := (N s).bind fun r => (andLoopR N 500 r.1 [r.2]).map fun q => (q.1, cOp 7 q.2)
def orLoopR : Nat → Rdr → List Cond → Option (Rdr × List Cond)
  | 0, _, _ => none
  | k + 1, s, acc => (takeR s ⟨#[124]⟩).bind fun w => if w.2 then (andR N w.1).bind fun r => orLoopR k r.1 (acc ++ [r.2]) else some (w.1, acc)
def orR (s : Rdr) : Option (Rdr × Cond) := (andR N s).bind fun r => (orLoopR N 500 r.1 [r.2]).map fun q => (q.1, cOp 8 q.2)
def valueR (s : Rdr) (name : B) : Option (Rdr × Cond) := (textR s 4).bind fun v => (takeR v.1 ⟨#[37, 99]⟩).map fun w => (w.1, ⟨2, name, E0, v.2, E0, w.2, []⟩)
def regionR (s : Rdr) : Option (Rdr × Cond) := (textR s 2).bind fun n => (takeR n.1 ⟨#[44]⟩).bind fun c =>
  if c.2 then (textR c.1 2).bind fun a => (mustR a.1 [⟨#[61]⟩]).bind fun u => (textR u 4).bind fun v => (mustR v.1 [⟨#[41]⟩]).map fun z => (z, ⟨5, n.2, a.2, v.2, E0, false, []⟩)
  else (mustR c.1 [⟨#[41]⟩]).map fun z => (z, ⟨5, n.2, E0, E0, E0, false, []⟩)
/-- what follows the name of an atom -/
def atomR (s : Rdr) (name : B) : Option (Rdr × Cond) :=
  if wordR s [⟨#[99, 111, 110, 116, 97, 105, 110, 115]⟩] then (nextR s).bind fun x => (textR x 4).map fun v => (v.1, ⟨3, name, E0, v.2, E0, false, []⟩) else
  (takeR s ⟨#[33, 61]⟩).bind fun w => if w.2 then (valueR w.1 name).map fun v => (v.1, ⟨6, E0, E0, E0, E0, false, [v.2]⟩) else
  (mustR w.1 [⟨#[61]⟩]).bind fun u => if u.kind = 2 then (textR u 2).bind fun l => (mustR l.1 [⟨#[46]⟩]).bind fun d => (textR d 2).map fun a => (a.1, ⟨4, name, a.2, E0, l.2, false, []⟩)
  else valueR u name
def atomsR (s : Rdr) : Option (Rdr × Cond) := (textR s 2).bind fun n => if n.2 = ⟨#[105, 110]⟩ then (takeR n.1 ⟨#[40]⟩).bind fun v => if v.2 then regionR v.1 else atomR v.1 n.2 else atomR n.1 n.2
def notR (s : Rdr) : Option (Rdr × Cond) := (takeR s ⟨#[33]⟩).bind fun w => if w.2 then (N w.1).map fun r => (r.1, ⟨6, E0, E0, E0, E0, false, [r.2]⟩) else
  (takeR w.1 ⟨#[40]⟩).bind fun u => if u.2 then (O u.1).bind fun x => (mustR x.1 [⟨#[41]⟩]).map fun z => (z, x.2) else atomsR u.1
end
/-- the condition without parts, or negated, or in parentheses (n: how deep) -/
def notRN : Nat → Rdr → Option (Rdr × Cond)
  | 0 => fun _ => none
  | n + 1 => notR (notRN n) (orR (notRN n))
/-! ### Patterns -/
section
variable (A : Rdr → Bool → Option (Rdr × Pat)) (O : Rdr → Option (Rdr × Cond))
/-- a token pattern behind its label -/
def tokenR (s : Rdr) (label : B) : Option (Rdr × Pat) := (takeR s ⟨#[91]⟩).bind fun u => if u.2 then
    (if signR u.1 ⟨#[93]⟩ then (mustR u.1 [⟨#[93]⟩]).map fun z => (z, ⟨1, ⟨1, E0, E0, E0, E0, false, []⟩, label, E0, 0, 0, []⟩)
    else (O u.1).bind fun x => (mustR x.1 [⟨#[93]⟩]).map fun z => (z, ⟨1, x.2, label, E0, 0, 0, []⟩))
  else (valueR u.1 E0).map fun v => (v.1, ⟨1, v.2, label, E0, 0, 0, []⟩)
def anchorR (s : Rdr) (op : Int) : Option (Rdr × Pat) := (textR s 2).bind fun n => (mustR n.1 [⟨#[62]⟩]).map fun z => (z, ⟨op, Cond0, E0, n.2, 0, 0, []⟩)
def itemR (s : Rdr) : Option (Rdr × Pat) :=
  (takeR s ⟨#[60]⟩).bind fun b => if b.2 then anchorR b.1 2 else (takeR b.1 ⟨#[60, 47]⟩).bind fun c => if c.2 then anchorR c.1 3 else
  (takeR c.1 ⟨#[40]⟩).bind fun d => if d.2 then (A d.1 true).bind fun q => (mustR q.1 [⟨#[41]⟩]).map fun w => (w, q.2) else
  if d.1.kind = 2 then (textR d.1 2).bind fun n => (mustR n.1 [⟨#[58]⟩]).bind fun u => tokenR O u n.2 else tokenR O d.1 E0
/-- a suffix, if there is one; numbers in braces: not yet -/
def sufR (s : Rdr) : Option (Rdr × Option (Int × Int)) := (takeR s ⟨#[63]⟩).bind fun w => if w.2 then some (w.1, some (0, 1)) else
  (takeR w.1 ⟨#[42]⟩).bind fun w => if w.2 then some (w.1, some (0, -1)) else
  (takeR w.1 ⟨#[43]⟩).bind fun w => if w.2 then some (w.1, some (1, -1)) else
  if signR w.1 ⟨#[123]⟩ then none else some (w.1, none)
def repLoopR : Nat → Rdr → Pat → Option (Rdr × Pat)
  | 0, _, _ => none
  | k + 1, s, x => (sufR s).bind fun r => match r.2 with
    | none => some (r.1, x)
    | some m => repLoopR k r.1 ⟨6, Cond0, E0, E0, m.1, m.2, [x]⟩
def repR (s : Rdr) : Option (Rdr × Pat) := (itemR A O s).bind fun r => repLoopR 500 r.1 r.2
def tailL : List B := [⟨#[119, 105, 116, 104, 105, 110]⟩, ⟨#[99, 111, 110, 116, 97, 105, 110, 105, 110, 103]⟩, ⟨#[111, 118, 101, 114, 108, 97, 112, 112, 105, 110, 103]⟩, ⟨#[115, 116, 114, 97, 116, 101, 103, 121]⟩]
def beginsR (s : Rdr) (inner : Bool) : Option Bool :=
  if s.kind = 4 then some true else if s.kind = 2 then (peekR s).map fun n => (inner || !wordR s tailL) || (decide (n.kind = 5) && decide (n.text = ⟨#[58]⟩))
  else some (signR s ⟨#[91]⟩ || signR s ⟨#[60]⟩ || signR s ⟨#[60, 47]⟩ || signR s ⟨#[40]⟩)
def seqLoopR (i : Bool) : Nat → Rdr → List Pat → Option (Rdr × List Pat)
  | 0, _, _ => none
  | k + 1, s, acc => (beginsR s i).bind fun b => if b then (repR A O s).bind fun r => seqLoopR i k r.1 (acc ++ [r.2]) else some (s, acc)
def seqR (s : Rdr) (i : Bool) : Option (Rdr × Pat) := (repR A O s).bind fun r => (seqLoopR A O i 500 r.1 [r.2]).map fun q => (q.1, oneOr 4 q.2)
def altLoopR (i : Bool) : Nat → Rdr → List Pat → Option (Rdr × List Pat)
  | 0, _, _ => none
  | k + 1, s, acc => (takeR s ⟨#[124]⟩).bind fun w => if w.2 then (seqR A O w.1 i).bind fun r => altLoopR i k r.1 (acc ++ [r.2]) else some (w.1, acc)
def altR (s : Rdr) (i : Bool) : Option (Rdr × Pat) := (seqR A O s i).bind fun r => (altLoopR A O i 500 r.1 [r.2]).map fun q => (q.1, oneOr 5 q.2)
end
/-- alternatives (n: how deep) -/
def altRN : Nat → Rdr → Bool → Option (Rdr × Pat)
  | 0 => fun _ _ => none
  | n + 1 => altR (altRN n) (orR (notRN (n + 1)))
/-- the whole text; constraints, filters, strategies: not yet -/
def GlobE : Glob := ⟨0, E0, E0, E0, E0, E0, false, 0, 0, [], []⟩
def queryR (n : Nat) (s : Rdr) : Option (Rdr × Qry) := (nextR s).bind fun s => (altRN n s false).bind fun p =>
  if p.1.kind = 0 then some (p.1, ⟨p.2, GlobE, [], 0⟩) else none
end Go.Gv

namespace Go.Gv
set_option linter.unusedSimpArgs false
set_option linter.unusedVariables false
/-! ### Texts -/
def t_word : B := ⟨#[119, 111, 114, 100]⟩
def t_tag : B := ⟨#[116, 97, 103]⟩
def t_feat : B := ⟨#[102, 101, 97, 116]⟩
def ValsT : List B := [⟨#[97]⟩, ⟨#[98]⟩, ⟨#[97, 46, 42]⟩, ⟨#[91, 97, 98, 93]⟩]
def ValsI : List B := [⟨#[97]⟩, ⟨#[98]⟩, ⟨#[97, 46, 42]⟩, ⟨#[91, 97, 98, 93]⟩, ⟨#[88]⟩, ⟨#[]⟩, ⟨#[99, 63]⟩, ⟨#[97, 124, 98]⟩, ⟨#[89]⟩, ⟨#[97, 124, 88]⟩]
def Attr2 : List B := [t_word, t_tag]
def FeatL : List B := [⟨#[112]⟩, ⟨#[113]⟩]
def NumL : List B := [⟨#[49]⟩, ⟨#[50]⟩]
def t_n : B := ⟨#[110]⟩
/-! ### Conditions -/
/-- A generated condition without parts (lb: the labels that it may refer to). -/
inductive GA (lb : List B) : Cond → Prop
  | val (n v : B) (f : Bool) (h1 : n ∈ Attr2) (h2 : v ∈ ValsI) : GA lb ⟨2, n, E0, v, E0, f, []⟩
  | feat (v : B) (h : v ∈ FeatL) : GA lb ⟨3, t_feat, E0, v, E0, false, []⟩
  | same (n l a : B) (h1 : n ∈ Attr2) (h2 : l ∈ lb) (h3 : a ∈ Attr2) : GA lb ⟨4, n, a, E0, l, false, []⟩
  | reg (n : B) (h : n ∈ Types) : GA lb ⟨5, n, E0, E0, E0, false, []⟩
  | regk (n v : B) (h1 : n ∈ Types) (h2 : v ∈ NumL) : GA lb ⟨5, n, t_n, v, E0, false, []⟩
/-- A generated condition that can be a part. -/
inductive GI (lb : List B) : Nat → Cond → Prop
  | atom (n : Nat) (c : Cond) (h : GA lb c) : GI lb n c
  | not (n : Nat) (k : Cond) (h : GI lb n k) : GI lb (n + 1) ⟨6, E0, E0, E0, E0, false, [k]⟩
  | two (n : Nat) (op : Int) (a b : Cond) (ho : op = 7 ∨ op = 8) (h1 : GI lb n a) (h2 : GI lb n b) : GI lb (n + 1) ⟨op, E0, E0, E0, E0, false, [a, b]⟩
inductive GC (lb : List B) (n : Nat) : Cond → Prop
  | any : GC lb n ⟨1, E0, E0, E0, E0, false, []⟩
  | top (v : B) (f : Bool) (h : v ∈ ValsT) : GC lb n ⟨2, E0, E0, v, E0, f, []⟩
  | inner (c : Cond) (h : GI lb n c) : GC lb n c
theorem ga_kids {lb : List B} {c : Cond} (h : GA lb c) : c.kids = [] := by cases h <;> rfl
theorem gi_cs {lb : List B} : ∀ {n : Nat} {c : Cond}, GI lb n c → CS n c
  | _, _, .atom n c h => cs_nil (ga_kids h)
  | _, _, .not n k h => cs_one rfl rfl (gi_cs h)
  | _, _, .two n op a b _ h1 h2 => cs_two rfl rfl (gi_cs h1) (gi_cs h2)
theorem gc_cs {lb : List B} {n : Nat} {c : Cond} (h : GC lb n c) : CS n c := by
  cases h with
  | any => exact cs_nil rfl
  | top v f h => exact cs_nil rfl
  | inner c h => exact gi_cs h
/-! ### Binding -/
def hasB (l : List B) (x : B) : Bool := l.any fun z => decide (z = x)
theorem hasB_iff (l : List B) (x : B) : hasB l x = true ↔ x ∈ l := by
  unfold hasB
  rw [List.any_eq_true]
  exact ⟨fun ⟨z, h1, h2⟩ => by rw [decide_eq_true_eq] at h2; rwa [← h2], fun h => ⟨x, h, decide_eq_true rfl⟩⟩
instance decMem (l : List B) (x : B) : Decidable (x ∈ l) := if h : hasB l x = true then .isTrue ((hasB_iff l x).1 h) else .isFalse fun hx => h ((hasB_iff l x).2 hx)
mutual
/-- replace: references to labels that are not in lb become a value. -/
def repC (lb : List B) : Cond → Cond
  | .mk op n a v l f ks => if op = 4 then (if l ∈ lb then .mk op n a v l f ks else ⟨2, n, E0, ⟨#[97, 124, 88]⟩, E0, false, []⟩) else .mk op n a v l f (repCs lb ks)
def repCs (lb : List B) : List Cond → List Cond
  | [] => []
  | k :: ks => repC lb k :: repCs lb ks
end
theorem repCs_map (lb : List B) : ∀ l : List Cond, repCs lb l = l.map (repC lb)
  | [] => by rw [repCs]; rfl
  | k :: l => by rw [repCs, repCs_map lb l]; rfl
theorem repC_eq (lb : List B) (c : Cond) : repC lb c = if c.op = 4 then (if c.lab ∈ lb then c else ⟨2, c.name, E0, ⟨#[97, 124, 88]⟩, E0, false, []⟩) else ⟨c.op, c.name, c.arg, c.val, c.lab, c.fold, c.kids.map (repC lb)⟩ := by
  cases c; rw [repC, repCs_map]
theorem repC_0 (lb : List B) : repC lb Cond0 = Cond0 := by
  rw [repC_eq, if_neg (show ¬ Cond0.op = 4 from by decide)]
  rfl
mutual
/-- bind -/
def bindP (lb : List B) : Pat → Pat
  | .mk op c l r mn mx ks => ⟨op, repC lb c, l, r, mn, mx, bindPs lb ks⟩
def bindPs (lb : List B) : List Pat → List Pat
  | [] => []
  | k :: ks => bindP lb k :: bindPs lb ks
end
theorem bindPs_map (lb : List B) : ∀ l : List Pat, bindPs lb l = l.map (bindP lb)
  | [] => by rw [bindPs]; rfl
  | k :: l => by rw [bindPs, bindPs_map lb l]; rfl
theorem bindP_eq (lb : List B) (p : Pat) : bindP lb p = ⟨p.op, repC lb p.cond, p.lab, p.reg, p.mn, p.mx, p.kids.map (bindP lb)⟩ := by
  cases p; rw [bindP, bindPs_map]
def addL (out : List B) (x : B) : List B := if x ∈ out then out else out ++ [x]
mutual
/-- Bound -/
def bndP : Pat → List B → List B
  | .mk op c l r mn mx ks, out => if op = 1 ∧ l ≠ E0 then addL out l else bndPs ks out
def bndPs : List Pat → List B → List B
  | [], out => out
  | k :: ks, out => bndPs ks (bndP k out)
end
theorem bndPs_fold : ∀ (l : List Pat) (out : List B), bndPs l out = l.foldl (fun o k => bndP k o) out
  | [], out => by rw [bndPs]; rfl
  | k :: l, out => by rw [bndPs, bndPs_fold l]; rfl
theorem bndP_eq (p : Pat) (out : List B) : bndP p out = if p.op = 1 ∧ p.lab ≠ E0 then addL out p.lab else p.kids.foldl (fun o k => bndP k o) out := by
  cases p; rw [bndP, bndPs_fold]
theorem gi_rep {lb lb' : List B} : ∀ {n : Nat} {c : Cond}, GI lb n c → GI lb' n (repC lb' c)
  | _, _, .atom n c h => by
    cases h with
    | val nm v f h1 h2 => rw [repC_eq, if_neg (by decide : ¬ (2 : Int) = 4)]; exact .atom _ _ (.val nm v f h1 h2)
    | feat v h => rw [repC_eq, if_neg (by decide : ¬ (3 : Int) = 4)]; exact .atom _ _ (.feat v h)
    | same nm l a h1 h2 h3 =>
      rw [repC_eq, if_pos rfl]
      split
      · rename_i hl; exact .atom _ _ (.same nm l a h1 hl h3)
      · exact .atom _ _ (.val nm _ false h1 (by simp [ValsI]))
    | reg nm h => rw [repC_eq, if_neg (by decide : ¬ (5 : Int) = 4)]; exact .atom _ _ (.reg nm h)
    | regk nm v h1 h2 => rw [repC_eq, if_neg (by decide : ¬ (5 : Int) = 4)]; exact .atom _ _ (.regk nm v h1 h2)
  | _, _, .not n k h => by
    rw [repC_eq, if_neg (by decide : ¬ (6 : Int) = 4)]
    exact .not n _ (gi_rep h)
  | _, _, .two n op a b ho h1 h2 => by
    rw [repC_eq, if_neg (show ¬ op = 4 by omega)]
    exact .two n op _ _ ho (gi_rep h1) (gi_rep h2)
theorem gc_rep {lb lb' : List B} {n : Nat} {c : Cond} (h : GC lb n c) : GC lb' n (repC lb' c) := by
  cases h with
  | any => rw [repC_eq, if_neg (by decide : ¬ (1 : Int) = 4)]; exact .any
  | top v f h => rw [repC_eq, if_neg (by decide : ¬ (2 : Int) = 4)]; exact .top v f h
  | inner c h => exact .inner _ (gi_rep h)
theorem wp0_bind {lb lb' : List B} {p : Pat} (h : WP0 lb p) : WP0 lb (bindP lb' p) := by
  rw [bindP_eq]
  rcases h with ⟨h1, h2, h3, h4, h5, h6⟩ | ⟨h1, h2, h3, h4, h5, h6, h7⟩
  · exact .inl ⟨h1, h2, h3, h4, h5, by show p.kids.map _ = []; rw [h6]; rfl⟩
  · exact .inr ⟨h1, by show repC lb' p.cond = _; rw [h2, repC_0], h3, h4, h5, h6, by show p.kids.map _ = []; rw [h7]; rfl⟩
theorem wp_bind {lb lb' : List B} : ∀ n p, WP lb n p → WP lb n (bindP lb' p) := by
  refine wp_ind fun n p hp ih => ?_
  rcases wp_cases hp with hp | ⟨m, rfl, (⟨h1, h2, h3, h4, h5, h6, a, b, h7, ha, hb⟩ | ⟨h1, h2, h3, h4, h5, a, h7, ha⟩)⟩
  · exact wp0 (wp0_bind hp)
  · obtain ⟨m1, e1, _, a1⟩ := ih a (by rw [h7]; simp)
    obtain ⟨m2, e2, _, a2⟩ := ih b (by rw [h7]; simp)
    have e1 : m1 = m := by omega
    have e2 : m2 = m := by omega
    subst e1; subst e2
    rw [bindP_eq]
    exact .inr (.inl ⟨h1, by show repC lb' p.cond = _; rw [h2, repC_0], h3, h4, h5, h6, _, _, by show p.kids.map _ = _; rw [h7]; rfl, a1, a2⟩)
  · obtain ⟨m1, e1, _, a1⟩ := ih a (by rw [h7]; simp)
    have e1 : m1 = m := by omega
    subst e1
    rw [bindP_eq]
    exact .inr (.inr ⟨h1, by show repC lb' p.cond = _; rw [h2, repC_0], h3, h4, h5, _, by show p.kids.map _ = _; rw [h7]; rfl, a1⟩)
theorem leaves_bind (lb : List B) (p : Pat) : leavesP (bindP lb p) = (leavesP p).map (bindP lb) := by
  induction p using pat_ind with | _ p ih => ?_
  rw [leavesP_eq, leavesP_eq p, bindP_eq]
  simp only
  split
  · rw [List.map_singleton, bindP_eq]
  · rw [List.flatMap_map, List.map_flatMap]
    have : ∀ ks : List Pat, (∀ k ∈ ks, leavesP (bindP lb k) = (leavesP k).map (bindP lb)) → ks.flatMap (fun a => leavesP (bindP lb a)) = ks.flatMap (fun a => (leavesP a).map (bindP lb)) := by
      intro ks
      induction ks with
      | nil => intro _; rfl
      | cons k ks ihk =>
        intro h
        rw [List.flatMap_cons, List.flatMap_cons, h k (by simp), ihk fun z hz => h z (by simp [hz])]
    exact this p.kids ih
theorem bnd_bind (lb : List B) (p : Pat) : ∀ out, bndP (bindP lb p) out = bndP p out := by
  induction p using pat_ind with | _ p ih => ?_
  intro out
  rw [bndP_eq, bndP_eq p, bindP_eq]
  simp only
  split
  · rfl
  · have : ∀ (ks : List Pat) (o : List B), (∀ k ∈ ks, ∀ out, bndP (bindP lb k) out = bndP k out) → (ks.map (bindP lb)).foldl (fun o k => bndP k o) o = ks.foldl (fun o k => bndP k o) o := by
      intro ks
      induction ks with
      | nil => intro o _; rfl
      | cons k ks ihk =>
        intro o h
        rw [List.map_cons, List.foldl_cons, List.foldl_cons, h k (by simp), ihk _ fun z hz => h z (by simp [hz])]
    exact this p.kids out ih
/-! ### Constraints, queries -/
def GVals : List B := [⟨#[97]⟩, ⟨#[98, 124, 99]⟩, ⟨#[46]⟩]
def RelL : List B := [⟨#[111, 98, 106]⟩, ⟨#[100, 101, 116]⟩, ⟨#[]⟩]
def NodeL : List B := [⟨#[83]⟩, ⟨#[78, 80]⟩, ⟨#[86, 80]⟩]
inductive GG (lb : List B) : Nat → Glob → Prop
  | bound (n : Nat) (a : B) (h : a ∈ lb) : GG lb n ⟨1, a, E0, E0, E0, E0, false, 0, 0, [], []⟩
  | val (n : Nat) (a v : B) (f : Bool) (h1 : a ∈ lb) (h2 : v ∈ GVals) : GG lb n ⟨2, a, E0, t_word, E0, v, f, 0, 0, [], []⟩
  | same (n : Nat) (a b g : B) (h1 : a ∈ lb) (h2 : b ∈ lb) (h3 : g ∈ Attr2) : GG lb n ⟨3, a, b, t_word, g, E0, false, 0, 0, [], []⟩
  | dist (n : Nat) (a b : B) (mn mx : Int) (h1 : a ∈ lb) (h2 : b ∈ lb) (h3 : -2 ≤ mn) (h4 : mn ≤ 2) (h5 : mn ≤ mx) (h6 : mx ≤ mn + 3) : GG lb n ⟨4, a, b, E0, E0, E0, false, mn, mx, [], []⟩
  | reg (n : Nat) (a b t : B) (h1 : a ∈ lb) (h2 : b ∈ lb) (h3 : t ∈ Types) : GG lb n ⟨5, a, b, t, E0, E0, false, 0, 0, [], []⟩
  | head (n : Nat) (op : Int) (a b : B) (ho : op = 6 ∨ op = 7) (h1 : a ∈ lb) (h2 : b ∈ lb) : GG lb n ⟨op, a, b, E0, E0, E0, false, 0, 0, [], []⟩
  | path (n : Nat) (a b : B) (l : List B) (h1 : a ∈ lb) (h2 : b ∈ lb) (h3 : l.length ≤ 2) (h4 : ∀ x ∈ l, x ∈ RelL) : GG lb n ⟨8, a, b, E0, E0, E0, false, 0, 0, l, []⟩
  | node (n : Nat) (a b t : B) (h1 : a ∈ lb) (h2 : b ∈ lb) (h3 : t ∈ NodeL) : GG lb n ⟨9, a, b, t, E0, E0, false, 0, 0, [], []⟩
  | depth (n : Nat) (a : B) (mn mx : Int) (h1 : a ∈ lb) (h3 : 0 ≤ mn) (h4 : mn ≤ 2) (h5 : mn ≤ mx) (h6 : mx ≤ mn + 1) : GG lb n ⟨10, a, E0, E0, E0, E0, false, mn, mx, [], []⟩
  | not (n : Nat) (k : Glob) (h : GG lb n k) : GG lb (n + 1) ⟨11, E0, E0, E0, E0, E0, false, 0, 0, [], [k]⟩
  | two (n : Nat) (op : Int) (a b : Glob) (ho : op = 12 ∨ op = 13) (h1 : GG lb n a) (h2 : GG lb n b) : GG lb (n + 1) ⟨op, E0, E0, E0, E0, E0, false, 0, 0, [], [a, b]⟩
def GF (f : Filt) : Prop := (f.op = 1 ∨ f.op = 2 ∨ f.op = 3) ∧ f.reg ∈ Types
/-- A generated query of at most n levels. -/
structure GQ (n : Nat) (q : Qry) : Prop where
  lab : ∃ lb, LabOk lb ∧ WP lb n q.pat
  cond : ∀ y ∈ leavesP q.pat, GC (bndP q.pat []) 1 y.cond
  glob : q.glob = GlobE ∨ GG (bndP q.pat []) 2 q.glob
  filts : q.filts.length ≤ 1 ∧ ∀ f ∈ q.filts, GF f
  strat : 0 ≤ q.strat ∧ q.strat < 4
end Go.Gv

namespace Go.Gv
set_option linter.unusedSimpArgs false
set_option linter.unusedVariables false
set_option maxRecDepth 100000
open Cod (enc dec)
variable {S S0 : Nat → Spc}
def Q_gen2 (x : List Int × Int × List B) (y : Cond) : Prop := GI x.2.2 x.2.1.toNat y
abbrev s_m_inner2 (n : Nat) : Spc := spc (aT (a2 Int (List B))) (P_gen n) (enc (X := Cond)) Q_gen2
theorem at3 {i : Nat} {a : B} (h : [(⟨#[119, 111, 114, 100]⟩ : B), ⟨#[119, 111, 114, 100]⟩, ⟨#[116, 97, 103]⟩][i]? = some a) : a ∈ Attr2 := by
  have := mem_at h
  simpa [Attr2, t_word, t_tag] using this
theorem at2 {i : Nat} {a : B} (h : [(⟨#[119, 111, 114, 100]⟩ : B), ⟨#[116, 97, 103]⟩][i]? = some a) : a ∈ Attr2 := mem_at h
theorem at2f {i : Nat} {a : B} (h : [(⟨#[112]⟩ : B), ⟨#[113]⟩][i]? = some a) : a ∈ FeatL := mem_at h
theorem at2n {i : Nat} {a : B} (h : [(⟨#[49]⟩ : B), ⟨#[50]⟩][i]? = some a) : a ∈ NumL := mem_at h
theorem at4 {i : Nat} {a : B} (h : [(⟨#[97]⟩ : B), ⟨#[98]⟩, ⟨#[97, 46, 42]⟩, ⟨#[91, 97, 98, 93]⟩][i]? = some a) : a ∈ ValsT := mem_at h
theorem at8 {i : Nat} {a : B} (h : [(⟨#[97]⟩ : B), ⟨#[98]⟩, ⟨#[97, 46, 42]⟩, ⟨#[91, 97, 98, 93]⟩, ⟨#[88]⟩, ⟨#[]⟩, ⟨#[99, 63]⟩, ⟨#[97, 124, 98]⟩][i]? = some a) : a ∈ ValsI := by
  have := mem_at h
  simp only [ValsI, List.mem_cons, List.not_mem_nil, or_false] at this ⊢
  rcases this with h | h | h | h | h | h | h | h <;> simp [h]
theorem w_m_inner2 (n : Nat) (h1 : S f_m_Tape_Next = s_m_Next) (h2 : S f_m_Type = s_m_TypeN) (h3 : S f_m_Tape_inner = s_m_inner2 n) : Walk cc_m_Tape_inner rs_m_Tape_inner S (aT (a2 Int (List B))) (P_gen (n + 1)) (enc (X := Cond)) Q_gen2 := by
  rintro ⟨L, deep, lb⟩ ⟨hn, hd0, hd1, hlb⟩
  simp only at hn hd0 hd1 hlb
  simp [cc_m_Tape_inner, rs_m_Tape_inner, h1]
  intro b6 k0 hk0 hk1
  refine vc_mid (X := Int) [0, 1, 2, 6] [6] (fun k => 0 ≤ k ∧ k < 12 ∧ (deep < 1 → k < 8)) (fun k => [(7, enc k)]) (fun _ => []) ?_ ?_
  · simp
    have : k0.tmod 8 = k0 % 8 := Int.tmod_eq_emod_of_nonneg hk0
    rw [this]
    omega
  rintro k ⟨q0, q1, q2⟩
  refine vc_mid (X := Unit) [0, 1, 2, 6, 7] [6] (fun _ => 10 ≤ k) (fun _ => []) (fun _ => []) ?_ ?_
  · simp
    refine vc_mid (X := Bool) [0, 1, 2, 6, 7, 15] [6] (fun b => b = decide (k < 4)) (fun b => [(16, enc b)]) (fun _ => []) ?_ ?_
    · simp
      repeat' first | apply And.intro | intro _
      all_goals first | omega | (rw [Bool.eq_iff_iff]; simp; omega)
    rintro b hb
    simp [h1, strs2, strs3, strs8, strs4, strs_len, strs_at, -Bool.forall_bool]
    refine ⟨fun _ y hy0 hy1 => ⟨hy0, hy1, fun a ha y hy0 hy1 => ⟨hy0, hy1, fun a' ha' y hy0 hy1 => fin_cond [] (.nil _) (.atom _ _ (.val a a' _ (at3 ha) (at8 ha')))⟩⟩, fun hb0 => ?_⟩
    rw [hb0] at hb
    have hb : 4 ≤ k := by simpa using hb.symm
    refine ⟨fun _ y hy0 hy1 => ⟨hy0, hy1, fun a ha => fin_cond [] (.nil _) (.atom _ _ (.feat a (at2f ha)))⟩, fun k4 => ⟨fun _ _ => ⟨fun hl y hy0 hy1 => ⟨hy0, hy1, fun a ha _ => ⟨by omega, fun y hy => ⟨by omega, by omega, fun a' ha' y hy0 hy1 => ⟨hy0, hy1, fun a'' ha'' => fin_cond [] (.nil _) (.atom _ _ (.same a a' a'' (at2 ha) (mem_at ha') (at2 ha'')))⟩⟩⟩⟩, fun _ => fin_cond [] (.nil _) (.atom _ _ (.val t_tag _ false (by simp [Attr2]) (by simp [ValsI])))⟩, fun k5 => ?_⟩⟩
    refine vc_mid (X := Bool) [0, 1, 2, 6, 7, 15] [6] (fun b => b = decide (k = 6 ∨ k = 7)) (fun b => [(67, enc b)]) (fun _ => []) ?_ ?_
    · simp
      repeat' first | apply And.intro | intro _
      all_goals first | omega | (rw [Bool.eq_iff_iff]; simp; omega)
    rintro b hb2
    simp [h1, h2, -Bool.forall_bool]
    refine ⟨fun _ y hy0 hy1 => ⟨trivial, fun t ht b8 => ?_⟩, fun hb0 => ?_⟩
    · refine vc_mid (X := B × B) [6, 8] [6] (fun x => (x.1 = E0 ∧ x.2 = E0) ∨ (x.1 = t_n ∧ x.2 ∈ NumL)) (fun _ => []) (fun x => [(8, .box b8 [.v (.int .i64 5), .v (.string t), .v (.string x.1), .v (.string x.2), .v (.string ⟨#[]⟩), .v (.bool false), .v (.slice none 0 0)])]) ?_ ?_
      · simp [h1, strs2, strs_len, strs_at]
        refine fun y hy0 hy1 => ⟨fun _ z hz0 hz1 => ⟨hz0, hz1, fun a ha => ⟨t_n, a, .inr ⟨rfl, at2n ha⟩, .inl ⟨rfl, rfl⟩⟩⟩, fun _ => ⟨E0, E0, .inl ⟨rfl, rfl⟩, .inl ⟨rfl, rfl⟩⟩⟩
      · rintro ⟨a, v⟩ hav
        simp
        refine fin_cond [] (.nil _) (.atom _ _ ?_)
        rcases hav with ⟨rfl, rfl⟩ | ⟨rfl, hv⟩
        · exact .reg t ht
        · exact .regk t v ht hv
    rw [hb0] at hb2
    have hb2 : ¬ (k = 6 ∨ k = 7) := by simpa using hb2.symm
    refine vc_mid (X := Bool) [0, 1, 2, 6, 7, 15] [6] (fun b => b = decide (k = 8 ∨ k = 9)) (fun b => [(85, enc b)]) (fun _ => []) ?_ ?_
    · simp
      repeat' first | apply And.intro | intro _
      all_goals first | omega | (rw [Bool.eq_iff_iff]; simp; omega)
    rintro b hb3
    simp [h3, -Bool.forall_bool]
    have hrec : 1 ≤ deep → P_gen n (L, deep - 1, lb) := fun h => ⟨by show (deep - 1).toNat < n; omega, by show -10 ≤ deep - 1; omega, by show deep - 1 ≤ 100; omega, hlb⟩
    refine ⟨fun hb1 => ?_, fun hb0 => ?_⟩
    · rw [hb1] at hb3
      have hb3 : k = 8 ∨ k = 9 := by simpa using hb3.symm
      have hdn : deep.toNat = (deep - 1).toNat + 1 := by omega
      refine ⟨by simp only [InR]; omega, hrec (by omega), fun y hy => fin_cond [y] (by simp) (by show GI lb deep.toNat _; rw [hdn]; exact .not _ _ hy)⟩
    rw [hb0] at hb3
    have hb3 : ¬ (k = 8 ∨ k = 9) := by simpa using hb3.symm
    omega
  · rintro - hk
    have hrec : P_gen n (L, deep - 1, lb) := ⟨by show (deep - 1).toNat < n; omega, by show -10 ≤ deep - 1; omega, by show deep - 1 ≤ 100; omega, hlb⟩
    have hdn : deep.toNat = (deep - 1).toNat + 1 := by omega
    simp [h3]
    refine ⟨by simp only [InR]; omega, by simp only [InR]; omega, by simp only [InR]; omega, hrec, fun y hy => ⟨by simp only [InR]; omega, hrec, fun y' hy' => fin_cond [y, y'] (by simp) (by show GI lb deep.toNat _; rw [hdn]; exact .two _ _ _ _ (by omega) hy hy')⟩⟩
def Q_gc2 (x : List Int × Int × List B) (y : Cond) : Prop := GC x.2.2 x.2.1.toNat y
abbrev s_m_Cond2 : Spc := spc (aT (a2 Int (List B))) (fun x => -10 ≤ x.2.1 ∧ x.2.1 ≤ 100 ∧ x.2.2.length ≤ 1000) (enc (X := Cond)) Q_gc2
abbrev s_m_innerA2 : Spc := spc (aT (a2 Int (List B))) (fun x => ∃ n, P_gen n x) (enc (X := Cond)) Q_gen2
theorem w_m_Cond2 (h1 : S f_m_Tape_Next = s_m_Next) (h3 : S f_m_Tape_inner = s_m_innerA2) : Walk cc_m_Tape_Cond rs_m_Tape_Cond S (aT (a2 Int (List B))) (fun x => -10 ≤ x.2.1 ∧ x.2.1 ≤ 100 ∧ x.2.2.length ≤ 1000) (enc (X := Cond)) Q_gc2 := by
  rintro ⟨L, deep, lb⟩ ⟨hd0, hd1, hlb⟩
  simp only at hd0 hd1 hlb
  simp [cc_m_Tape_Cond, rs_m_Tape_Cond, h1]
  intro b6
  refine vc_mid (X := Unit) [0, 1, 2, 6] [6] (fun _ => True) (fun _ => []) (fun _ => []) ?_ ?_
  · simp [h1, strs4, strs_len, strs_at, -Bool.forall_bool]
    exact fun y _ _ => ⟨fun _ => fin_cond [] (.nil _) .any, fun _ => ⟨fun _ z z0 z1 => ⟨z0, z1, fun a ha u _ _ => fin_cond [] (.nil _) (.top a _ (at4 ha))⟩, fun _ _ z z0 z1 => ⟨z0, z1, fun a ha u _ _ => fin_cond [] (.nil _) (.top a _ (at4 ha))⟩⟩⟩
  · rintro - -
    have hrec : ∃ n, P_gen n (L, deep, lb) := ⟨deep.toNat + 1, Nat.lt_succ_self _, hd0, hd1, hlb⟩
    simp [h3, hrec]
    exact fun y hy => fin_cond y.kids (.same _) (by show GC lb deep.toNat _; rw [eta_Cond y]; exact .inner _ hy)
theorem lv_non {p : Pat} {C : Pat → Prop} (h1 : ¬ p.op = 1) (h2 : p.kids = []) : ∀ y ∈ leavesP p, C y := by
  rw [leavesP_eq, if_neg h1, h2]
  simp
theorem lv_tok {p : Pat} {C : Pat → Prop} (h1 : p.op = 1) (h : C p) : ∀ y ∈ leavesP p, C y := by
  rw [leavesP_eq, if_pos h1]
  simpa using h
theorem lv_one {p a : Pat} {C : Pat → Prop} (h1 : ¬ p.op = 1) (h2 : p.kids = [a]) (ha : ∀ y ∈ leavesP a, C y) : ∀ y ∈ leavesP p, C y := by
  rw [leavesP_eq, if_neg h1, h2]
  simpa using ha
theorem lv_two {p a b : Pat} {C : Pat → Prop} (h1 : ¬ p.op = 1) (h2 : p.kids = [a, b]) (ha : ∀ y ∈ leavesP a, C y) (hb : ∀ y ∈ leavesP b, C y) : ∀ y ∈ leavesP p, C y := by
  rw [leavesP_eq, if_neg h1, h2]
  simp only [List.flatMap_cons, List.flatMap_nil, List.append_nil]
  intro y hy
  rcases List.mem_append.1 hy with hy | hy
  · exact ha y hy
  · exact hb y hy
def Q_pat2 (x : List Int × Int × List B) (p : Pat) : Prop := Q_pat x p ∧ ∀ y ∈ leavesP p, GC x.2.2 1 y.cond
abbrev s_m_Pattern2 (n : Nat) : Spc := spc (aT (a2 Int (List B))) (P_pat n) (enc (X := Pat)) Q_pat2
theorem w_m_Pattern2 (n : Nat) (h1 : S f_m_Tape_Next = s_m_Next) (h2 : S f_m_Type = s_m_TypeN) (h3 : S f_m_Tape_Cond = s_m_Cond2) (h4 : S f_m_Tape_Pattern = s_m_Pattern2 n) : Walk cc_m_Tape_Pattern rs_m_Tape_Pattern S (aT (a2 Int (List B))) (P_pat (n + 1)) (enc (X := Pat)) Q_pat2 := by
  rintro ⟨L, deep, lb⟩ ⟨hn, hd0, hd1, hlb⟩
  simp only at hn hd0 hd1 hlb
  simp [cc_m_Tape_Pattern, rs_m_Tape_Pattern, h1]
  intro b6 k0 hk0 hk1
  refine vc_mid (X := Int) [0, 1, 2, 6] [6] (fun k => 0 ≤ k ∧ k < 14 ∧ (deep < 1 → k < 7)) (fun k => [(7, enc k)]) (fun _ => []) ?_ ?_
  · simp
    have : k0.tmod 7 = k0 % 7 := Int.tmod_eq_emod_of_nonneg hk0
    rw [this]
    omega
  rintro k ⟨q0, q1, q2⟩
  refine vc_mid (X := Unit) [0, 1, 2, 6] [6] (fun _ => 12 ≤ k) (fun _ => []) (fun _ => []) ?_ ?_
  · have hrec : 1 ≤ deep → P_pat n (L, deep - 1, lb) := fun h => ⟨by show (deep - 1).toNat < n; omega, by show -10 ≤ deep - 1; omega, by show deep - 1 ≤ 100; omega, hlb⟩
    have hdn : 1 ≤ deep → deep.toNat = (deep - 1).toNat + 1 := fun h => by omega
    simp [h1, h2, h3, h4, -Bool.forall_bool]
    refine ⟨fun hk => ⟨hlb, fun c hc b8 => ?_⟩, fun hk => ⟨fun hk7 => ⟨by simp only [InR]; omega, by simp only [InR]; omega, fun y _ _ => ⟨trivial, fun t ht => fin_pat [] [] (.nil _) (.nil _) ⟨⟨wp0 (.inr ⟨by show (2 + k - 5 = 2 ∨ 2 + k - 5 = 3); omega, rfl, rfl, ht, rfl, rfl, rfl⟩), pd_nil cs_c0 rfl⟩, lv_non (by show ¬ 2 + k - 5 = 1; omega) rfl⟩⟩⟩, fun hk7 => ⟨fun hk10 => ⟨by simp only [InR]; omega, hrec (by omega), fun y hy => ⟨by simp only [InR]; omega, hrec (by omega), fun y' hy' => ?_⟩⟩, fun hk10 hk12 => ⟨by simp only [InR]; omega, hrec (by omega), fun y hy => ⟨by simp only [InR]; omega, hrec (by omega), fun y' hy' => ?_⟩⟩⟩⟩⟩
    · refine vc_mid (X := B) [6, 8] [6] (fun x => x = ⟨#[]⟩ ∨ x ∈ lb) (fun _ => []) (fun x => [(8, .box b8 [.v (.int .i64 1), .v (.int .i64 c.op), .v (.string c.name), .v (.string c.arg), .v (.string c.val), .v (.string c.lab), .v (.bool c.fold), enc c.kids, .v (.string x), .v (.string ⟨#[]⟩), .v (.int .i64 0), .v (.int .i64 0), .v (.slice none 0 0)])]) ?_ ?_
      · simp [h1]
        exact fun _ h0 y _ _ _ _ => ⟨by omega, fun z hz => ⟨by omega, by omega, fun a ha => .inr ⟨a, mem_at ha, .inl rfl⟩⟩⟩
      · rintro x hx
        simp
        exact fin_pat c.kids [] (.same _) (.nil _) ⟨⟨wp0 (.inl ⟨rfl, hx, rfl, rfl, rfl, rfl⟩), pd_nil ⟨_, cs_same (d := c) rfl (gc_cs hc)⟩ rfl⟩, lv_tok rfl (by show GC lb 1 _; rw [eta_Cond c]; exact hc)⟩
    · refine fin_pat [] [y, y'] (.nil _) (by simp) ?_
      refine ⟨⟨?_, pd_two (hdn (by omega)) cs_c0 rfl hy.1.2 hy'.1.2⟩, lv_two (by show ¬ (4 : Int) = 1; decide) rfl hy.2 hy'.2⟩
      show WP lb deep.toNat _
      rw [hdn (by omega)]
      exact .inr (.inl ⟨.inl rfl, rfl, rfl, rfl, rfl, rfl, y, y', rfl, hy.1.1, hy'.1.1⟩)
    · refine fin_pat [] [y, y'] (.nil _) (by simp) ?_
      refine ⟨⟨?_, pd_two (hdn (by omega)) cs_c0 rfl hy.1.2 hy'.1.2⟩, lv_two (by show ¬ (5 : Int) = 1; decide) rfl hy.2 hy'.2⟩
      show WP lb deep.toNat _
      rw [hdn (by omega)]
      exact .inr (.inl ⟨.inr rfl, rfl, rfl, rfl, rfl, rfl, y, y', rfl, hy.1.1, hy'.1.1⟩)
  · rintro - hk
    have hrec : P_pat n (L, deep - 1, lb) := ⟨by show (deep - 1).toNat < n; omega, by show -10 ≤ deep - 1; omega, by show deep - 1 ≤ 100; omega, hlb⟩
    have hdn : deep.toNat = (deep - 1).toNat + 1 := by omega
    have fin : ∀ (mn mx : Int) (y : Pat) (H : HMap), (mn, mx) ∈ Reps → Q_pat2 (L, deep - 1, lb) y → Fin enc (Q_pat2 (L, deep, lb)) (.agg [.v (.int .i64 6), .v (.int .i64 0), .v (.string ⟨#[]⟩), .v (.string ⟨#[]⟩), .v (.string ⟨#[]⟩), .v (.string ⟨#[]⟩), .v (.bool false), .v (.slice none 0 0), .v (.string ⟨#[]⟩), .v (.string ⟨#[]⟩), .v (.int .i64 mn), .v (.int .i64 mx), .list 13 [enc y]]) H := by
      intro mn mx y H hm hy
      refine fin_pat [] [y] (.nil _) (by simp) ?_
      refine ⟨⟨?_, pd_one hdn cs_c0 rfl hy.1.2⟩, lv_one (by show ¬ (6 : Int) = 1; decide) rfl hy.2⟩
      show WP lb deep.toNat _
      rw [hdn]
      exact .inr (.inr ⟨rfl, rfl, rfl, rfl, hm, y, rfl, hy.1.1⟩)
    simp only [enc_Pat] at fin
    simp [h1, h4]
    intro y hy0 hy1
    refine ⟨hy0, hy1, fun d hd => ?_⟩
    have : y = 0 ∨ y = 1 ∨ y = 2 ∨ y = 3 ∨ y = 4 ∨ y = 5 ∨ y = 6 := by omega
    rcases this with rfl | rfl | rfl | rfl | rfl | rfl | rfl
    all_goals (simp at hd; subst hd; simp [h4])
    all_goals exact ⟨by simp only [InR]; omega, hrec, fun y hy => fin _ _ y _ (by simp [Reps]) hy⟩
end Go.Gv
