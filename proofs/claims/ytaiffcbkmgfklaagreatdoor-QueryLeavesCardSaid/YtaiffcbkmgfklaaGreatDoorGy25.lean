/- A part of the framework and of the walks: T26 T28 T27 V17 W61 W68 W69 W70. -/
import Derived.Below
import Derived.WalkKit
import Derived.Lib.Bytealg
import Derived.Shelf.Abstract
import Derived.Shelf.RegionOpen
import Derived.TacticsInMore
import Derived.Lib.Builder
import Derived.Lib.AppendStr
import Derived.Lib.FrozenHead
import Derived.Lib.Strings
import Derived.Lib.Walk
import Derived.Lib.Slices
import Derived.Shelf.RegionOpenPlain
import Derived.Test.YtaiffcbkmgfklaaGreatDoorGy24
import Derived.Test.YtaiffcbkmgfklaaGreatDoorGy19
import Derived.Test.YtaiffcbkmgfklaaGreatDoorGy21

namespace Go.Gv
set_option linter.unusedSimpArgs false
set_option linter.unusedVariables false
set_option linter.unusedSectionVars false
open Cod (enc dec)
section
variable {X Y Z : Type}
def FinBQ (M : Nat → X → Res) (B : BoxF X) (er : Y → D) (b : Nat) (post : X → Y → Prop) (r : D) (H : HMap) : Prop := ∃ x y, FrzTo (fun i => if i = 0 ∨ i ∈ B.ids then none else H i) r (er y) ∧ H 0 = some (M b x) ∧ (∀ p ∈ B.hp x, H p.1 = some p.2) ∧ post x y
def bqPT (M : Nat → X → Res) (B : Nat → BoxF X) (A : Arg Z) (er : Y → D) (pre : X → Z → Prop) (post : X → Z → X → Y → Prop) : PT := fun d ds H K => ∃ id b x z ds', ds = .bptr id b 0 :: ds' ∧ A.dec ds' = some z ∧ H id = some (M b x) ∧ (∀ p ∈ (B b).hp x, H p.1 = some p.2) ∧ id ∉ (B b).ids ∧ pre x z ∧
  ∀ x' y, post x z x' y → K (er y) (updH (addH ((B b).hp x') H) id (some (M b x')))
theorem bq_mono (M : Nat → X → Res) (B : Nat → BoxF X) (A : Arg Z) (er : Y → D) (pre : X → Z → Prop) (post : X → Z → X → Y → Prop) : MonoPT (bqPT M B A er pre post) := fun d ds H K K' hk ⟨id, b, x, z, ds', h1, h2, h3, h4, h5, h6, h7⟩ => ⟨id, b, x, z, ds', h1, h2, h3, h4, h5, h6, fun x' y hp => hk _ _ (h7 x' y hp)⟩
def bqC (M : Nat → X → Res) (B : Nat → BoxF X) (A : Arg Z) (er : Y → D) (pre : X → Z → Prop) (post : X → Z → X → Y → Prop) : Spc := .gen _ (bq_mono M B A er pre post)
theorem bq_args {M : Nat → X → Res} {B : Nat → BoxF X} {A : Arg Z} {er : Y → D} {pre : X → Z → Prop} {post : X → Z → X → Y → Prop} {N : Nat} (h1i : ∀ b, 0 ∉ (B b).ids) (hN : ∀ z, (A.view z).length + 1 ≤ N) {V : (D → HMap → Prop) → List D → HMap → Prop}
    (hw : ∀ b x z, pre x z → V (fun r H' => FinBQ M (B b) er b (post x z) r H') (.bptr 0 b 0 :: A.view z) (updH (addH ((B b).hp x) noH) 0 (some (M b x)))) :
    ∀ (ds : List D) (H : HMap) (d : Nat) (K : D → HMap → Prop), bqPT M B A er pre post d ds H K → ds.length ≤ N ∧
      ∃ (ds' : List D) (H0 : HMap) (ι : Nat → Nat), LeL ds ds' ∧ (∀ i r, H0 i = some r → H (ι i) = some r) ∧ (∀ i j r s, H0 i = some r → H0 j = some s → ι i = ι j → i = j) ∧
        ∃ Q : D → HMap → Prop, V Q ds' H0 ∧ ∀ r H', Q r H' → ∃ (r' : D) (Hf Hc : HMap) (κ : Nat → Option Nat), FrzTo Hf r r' ∧ (∀ j q, Hf j = some q → H' j = some q ∧ ∀ i, κ i ≠ some j) ∧ K r' Hc ∧
          (∀ i s, Hc i = some s → match κ i with | some j => H' j = some s | none => H i = some s ∧ ∀ k q, H0 k = some q → ι k ≠ i) ∧
          (∀ i j k s q, Hc i = some s → Hc j = some q → κ i = some k → κ j = some k → i = j) := by
  rintro ds H d K ⟨id, b, x, z, ds', rfl, hd, hid, hhp, hni, hp, hK⟩
  have hl := A.le ds' z hd
  have h0 : ∀ i r, updH (addH ((B b).hp x) noH) 0 (some (M b x)) i = some r → i = 0 ∧ r = M b x ∨ i ≠ 0 ∧ (i, r) ∈ (B b).hp x := by
    intro i r h
    by_cases e : i = 0
    · subst e
      simp only [updH, if_true] at h
      cases h
      exact .inl ⟨rfl, rfl⟩
    · simp only [updH, e, if_false] at h
      exact .inr ⟨e, addN_mem h⟩
  have hk : ∀ {x : X} {i : Nat} {r : Res}, (i, r) ∈ (B b).hp x → i ∈ (B b).ids := by
    intro x i r h
    rw [← (B b).keys x]
    exact List.mem_map.2 ⟨_, h, rfl⟩
  refine ⟨by simp only [List.length_cons]; rw [hl.1]; exact hN z, .bptr 0 b 0 :: A.view z, updH (addH ((B b).hp x) noH) 0 (some (M b x)), fun i => if i = 0 then id else i, .cons (.bptr _ _ _ _) hl, fun i r h => ?_, fun i j r s h h' e => ?_, _, hw b x z hp, ?_⟩
  · rcases h0 i r h with ⟨rfl, rfl⟩ | ⟨e, hm⟩
    · exact hid
    · simp only [e, if_false]
      exact hhp _ hm
  · rcases h0 i r h with ⟨rfl, rfl⟩ | ⟨e1, hm⟩
    · rcases h0 j s h' with ⟨rfl, rfl⟩ | ⟨e2, hm2⟩
      · rfl
      · simp only [e2, if_true, if_false] at e
        subst e
        exact absurd (hk hm2) hni
    · rcases h0 j s h' with ⟨rfl, rfl⟩ | ⟨e2, hm2⟩
      · simp only [e1, if_true, if_false] at e
        subst e
        exact absurd (hk hm) hni
      · simpa only [e1, e2, if_false] using e
  · rintro r H' ⟨x', y, hfr, hj, hhp', hpost⟩
    refine ⟨er y, fun i => if i = 0 ∨ i ∈ (B b).ids then none else H' i, updH (addH ((B b).hp x') H) id (some (M b x')), fun i => if i = id then some 0 else if i ∈ (B b).ids then some i else none, hfr, fun j q h => ?_, hK x' y hpost, fun i s hi => ?_, fun i j' k s q hi hj' e1 e2 => ?_⟩
    · by_cases e : j = 0 ∨ j ∈ (B b).ids
      · simp [e] at h
      · simp only [e, if_false] at h
        refine ⟨h, fun i hh => e ?_⟩
        by_cases e1 : i = id
        · simp only [e1, if_true] at hh
          cases hh
          exact .inl rfl
        · simp only [e1, if_false] at hh
          by_cases e2 : i ∈ (B b).ids
          · simp only [e2, if_true] at hh
            cases hh
            exact .inr e2
          · simp [e2] at hh
    · by_cases e : i = id
      · subst e
        simp only [updH, if_true] at hi
        cases hi
        simpa using hj
      · simp only [updH, e, if_false] at hi ⊢
        by_cases e2 : i ∈ (B b).ids
        · simp only [e2, if_true]
          exact hhp' _ (addN_key (by rw [(B b).keys]; exact e2) hi)
        · simp only [e2, if_false]
          rw [addN_off (by rw [(B b).keys]; exact e2)] at hi
          refine ⟨hi, fun k q h he => ?_⟩
          rcases h0 k q h with ⟨rfl, rfl⟩ | ⟨e3, hm⟩
          · simp only [if_true] at he
            exact e he.symm
          · simp only [e3, if_false] at he
            subst he
            exact e2 (hk hm)
    · by_cases c1 : i = id
      · by_cases c2 : j' = id
        · exact c1.trans c2.symm
        · simp only [c1, if_true] at e1
          cases e1
          simp only [c2, if_false] at e2
          by_cases c3 : j' ∈ (B b).ids
          · simp only [c3, if_true] at e2
            cases e2
            exact absurd c3 (h1i b)
          · simp [c3] at e2
      · simp only [c1, if_false] at e1
        by_cases c3 : i ∈ (B b).ids
        · simp only [c3, if_true] at e1
          cases e1
          by_cases c2 : j' = id
          · simp only [c2, if_true] at e2
            cases e2
            exact absurd c3 (h1i b)
          · simp only [c2, if_false] at e2
            by_cases c4 : j' ∈ (B b).ids
            · simp only [c4, if_true] at e2
              cases e2
              rfl
            · simp [c4] at e2
        · simp [c3] at e1
variable {P : Program} {S : Nat → Spc} {f : Nat} {im : List Nat} {cc : CC} {rs : List CRes} {N : Nat}
def WalkBQ (cc : CC) (rs : List CRes) (S : Nat → Spc) (M : Nat → X → Res) (B : Nat → BoxF X) (A : Arg Z) (er : Y → D) (pre : X → Z → Prop) (post : X → Z → X → Y → Prop) : Prop :=
  ∀ b x z, pre x z → vc S cc (retK rs fun r H' => FinBQ M (B b) er b (post x z) r H') (initS (.bptr 0 b 0 :: A.view z)) (updH (addH ((B b).hp x) noH) 0 (some (M b x)))
theorem tri_walkBQ {M : Nat → X → Res} {B : Nat → BoxF X} {A : Arg Z} {er : Y → D} {pre : X → Z → Prop} {post : X → Z → X → Y → Prop} (h1i : ∀ b, 0 ∉ (B b).ids) (hS : ∀ f, Tri P f (S f).pt) (h : FnOk P f im cc rs N) (hN : ∀ z, (A.view z).length + 1 ≤ N) (hw : WalkBQ cc rs S M B A er pre post) : Tri P f (bqC M B A er pre post).pt := by
  obtain ⟨mix, enter, fn, code, h1, h2, h3, h4, h5⟩ := h
  exact tri_of_vc hS mix h1 h2 enter h3 h4 h5 (bq_args h1i hN (V := fun Q ds H => vc S cc (retK rs Q) (initS ds) H) hw)
theorem tri_runBQ {fn : Func} {M : Nat → X → Res} {B : Nat → BoxF X} {A : Arg Z} {er : Y → D} {pre : X → Z → Prop} {post : X → Z → X → Y → Prop} (h1i : ∀ b, 0 ∉ (B b).ids) (hce : CallEnter P f) (hN' : fn.ntmps = N) (hrs : fn.results.toList.mapM (compileRes P) = some rs) (hN : ∀ z, (A.view z).length + 1 ≤ N)
    {V : (D → HMap → Prop) → List D → HMap → Prop}
    (hrun : ∀ (E : Env) (ds' : List D) (H0 : HMap) (Q : D → HMap → Prop) (vs : List Value) (w : World) (R : Ending → World → Prop), E.ds = [] → E.N = N → vs.length = ds'.length → St E (initS ds') H0 { tmps := vs.toArray ++ Array.replicate (fn.ntmps - vs.toArray.size) undef, defers := [] } w → V Q ds' H0 →
      (∀ (a' : Act) (w' : World) (σ' : Sg) (H' : HMap) (dl : List Deferred), St { E with ds := dl } σ' H' a' w' → (resL rs σ' H' fun ds => Q (oneOrTup ds) H') → ∃ v, (results fn a'.tmps).run P w' = .ok v w' ∧ R (.returned v) w') → Calls P f vs.toArray w R)
    (hw : ∀ b x z, pre x z → V (fun r H' => FinBQ M (B b) er b (post x z) r H') (.bptr 0 b 0 :: A.view z) (updH (addH ((B b).hp x) noH) 0 (some (M b x)))) : Tri P f (bqC M B A er pre post).pt :=
  tri_of_run hce hN' hrs hrun (bq_args h1i hN hw)
end
theorem resL_mono {σ : Sg} {H : HMap} : ∀ {rs : List CRes} {F G : List D → Prop}, (∀ ds, F ds → G ds) → resL rs σ H F → resL rs σ H G
  | [], F, G, hFG, h => hFG _ h
  | .tmp t :: rs, F, G, hFG, h => resL_mono (rs := rs) (fun ds h => hFG _ h) h
  | .cell t agg sz :: rs, F, G, hFG, h => readVC_mono (fun d h => resL_mono (rs := rs) (fun ds h => hFG _ h) h) h
/-! ### A writer -/
structure Wtr where
  u : Bool
  v : Value
  s : ByteArray
def pv (b : Nat) (u : Bool) : Value := .pointer (if u then some ⟨b, 0, none⟩ else none)
def bD (s : ByteArray) : List D := s.data.toList.map fun c => .v (.int .u8 c.toNat)
def wtB (el : Nat) (b : Nat) : BoxF Wtr := ⟨[900], fun x => [.v (pv b x.u), .own 900 x.v], fun x => [(900, .row x.v el 1 (bD x.s))], fun _ => rfl⟩
@[simp] theorem wtB_ids (el b : Nat) : (wtB el b).ids = [900] := id rfl
@[simp] theorem wtB_ce (el b : Nat) (x : Wtr) : (wtB el b).ce x = [.v (pv b x.u), .own 900 x.v] := id rfl
@[simp] theorem wtB_hp (el b : Nat) (x : Wtr) : (wtB el b).hp x = [(900, .row x.v el 1 (bD x.s))] := id rfl
theorem u8_inj {a b : UInt8} (h : (a.toNat : Int) = b.toNat) : a = b := UInt8.toNat_inj.1 (by omega)
theorem bD_inj {s t : ByteArray} (h : bD s = bD t) : s = t := by
  obtain ⟨⟨s⟩⟩ := s
  obtain ⟨⟨t⟩⟩ := t
  simp only [bD] at h
  have : s = t := by
    induction s generalizing t with
    | nil => cases t with
      | nil => rfl
      | cons b t => simp at h
    | cons a s ih => cases t with
      | nil => simp at h
      | cons b t =>
        simp only [List.map_cons, List.cons.injEq, D.v.injEq, Value.int.injEq, true_and] at h
        rw [u8_inj h.1, ih t h.2]
  rw [this]
def wtM (el b : Nat) (x : Wtr) : Res := .tbox el b [.v (pv b x.u), .own 900 x.v]
@[simp] theorem wtM_eq (el b : Nat) (x : Wtr) : wtM el b x = .tbox el b [.v (pv b x.u), .own 900 x.v] := id rfl
def LIMW : Nat := 1000000
section
variable {Z : Type}
/-- What writes T z at the end of the writer's text (none: not said). -/
def wrC (tw el : Nat) (A : Arg Z) (r : D) (T : Z → Option ByteArray) : Spc := bqC (Y := Unit) (wtM tw) (wtB el) A (fun _ => r) (fun x z => ∃ t, T z = some t ∧ x.s.size + t.size ≤ LIMW) (fun x z x' _ => ∃ t, T z = some t ∧ x'.s = x.s ++ t)
def wrX (tw el : Nat) (r : D) (T : Z → Option ByteArray) (i b : Nat) (q q9 : Option Res) (o : Option Z) (H : HMap) (K : D → HMap → Prop) : Prop :=
  ∃ x : Wtr, q = some (.tbox tw b [.v (pv b x.u), .own 900 x.v]) ∧ q9 = some (.row x.v el 1 (bD x.s)) ∧ i ≠ 900 ∧ optX o fun z => optX (T z) fun t => x.s.size + t.size ≤ LIMW ∧ ∀ u v, K r (updH (updH H 900 (some (.row v el 1 (bD (x.s ++ t))))) i (some (.tbox tw b [.v (pv b u), .own 900 v])))
@[congr] theorem wrX_cg {tw el : Nat} {r : D} {T : Z → Option ByteArray} {i b : Nat} {q q' q9 q9' : Option Res} {o o' : Option Z} {H : HMap} {K : D → HMap → Prop} (h1 : q = q') (h2 : q9 = q9') (h3 : o = o') : wrX tw el r T i b q q9 o H K = wrX tw el r T i b q' q9' o' H K := by subst h1; subst h2; subst h3; rfl
theorem addH_one (i : Nat) (r : Res) (H : HMap) : addH [(i, r)] H = updH H i (some r) := rfl
@[simp] theorem wrC_pt (tw el : Nat) (A : Arg Z) (r : D) (T : Z → Option ByteArray) (d i b : Nat) (ds : List D) (H : HMap) (K : D → HMap → Prop) : (wrC tw el A r T).pt d (.bptr i b 0 :: ds) H K = wrX tw el r T i b (H i) (H 900) (A.dec ds) H K := by
  refine propext ⟨fun h => ?_, fun h => ?_⟩
  · obtain ⟨id, b', x, z, ds', h1, h2, h3, h4, h5, ⟨t, h6, h7⟩, h8⟩ := h
    cases h1
    refine ⟨x, h3, h4 (900, _) (by simp), by simpa using h5, ?_⟩
    rw [h2]
    show optX (T z) _
    rw [h6]
    refine ⟨h7, fun u v => ?_⟩
    have := h8 ⟨u, v, x.s ++ t⟩ () ⟨t, h6, rfl⟩
    simpa only [wtB_hp, wtM_eq, addH_one] using this
  · obtain ⟨x, h1, h2, h3, h4⟩ := h
    cases hz : A.dec ds with
    | none => rw [hz] at h4; exact h4.elim
    | some z =>
      rw [hz] at h4
      have h4 : optX (T z) _ := h4
      cases ht : T z with
      | none => rw [ht] at h4; exact h4.elim
      | some t =>
        rw [ht] at h4
        refine ⟨i, b, x, z, ds, rfl, hz, h1, fun p hp => ?_, by simpa using h3, ⟨t, ht, h4.1⟩, fun x' y hq => ?_⟩
        · simp at hp
          subst hp
          exact h2
        · obtain ⟨t', h5, h6⟩ := hq
          rw [ht] at h5
          cases h5
          have := h4.2 x'.u x'.v
          rw [← h6] at this
          simpa only [wtB_hp, wtM_eq, addH_one] using this
@[simp] theorem wrX_r (tw el : Nat) (r : D) (T : Z → Option ByteArray) (i b : Nat) (u : Bool) (v : Value) (s : ByteArray) (o : Option Z) (H : HMap) (K : D → HMap → Prop) :
    wrX tw el r T i b (some (.tbox tw b [.v (pv b u), .own 900 v])) (some (.row v el 1 (bD s))) o H K = (i ≠ 900 ∧ optX o fun z => optX (T z) fun t => s.size + t.size ≤ LIMW ∧ ∀ u v, K r (updH (updH H 900 (some (.row v el 1 (bD (s ++ t))))) i (some (.tbox tw b [.v (pv b u), .own 900 v])))) := by
  refine propext ⟨fun ⟨x, h1, h2, h3, h4⟩ => ?_, fun h => ⟨⟨u, v, s⟩, rfl, rfl, h⟩⟩
  simp only [Option.some.injEq, Res.row.injEq, true_and] at h2
  have := bD_inj h2.2
  subst this
  exact ⟨h3, h4⟩
/-- What is to be shown at the end. -/
def FinW (tw el b : Nat) (s : ByteArray) (r : D) (d : D) (H : HMap) : Prop := ∃ u v, FrzTo noH d r ∧ H 0 = some (.tbox tw b [.v (pv b u), .own 900 v]) ∧ H 900 = some (.row v el 1 (bD s))
def WalkW (cc : CC) (rs : List CRes) (S : Nat → Spc) (tw el : Nat) (A : Arg Z) (r : D) (T : Z → Option ByteArray) : Prop :=
  ∀ b u v s z t, T z = some t → s.size + t.size ≤ LIMW → vc S cc (retK rs fun d H' => FinW tw el b (s ++ t) r d H') (initS (.bptr 0 b 0 :: A.view z)) (updH (updH noH 900 (some (.row v el 1 (bD s)))) 0 (some (.tbox tw b [.v (pv b u), .own 900 v])))
theorem fzNo {H : HMap} {d e : D} (h : FrzTo noH d e) : FrzTo H d e := by
  induction h with
  | same d => exact .same d
  | any d => exact .any d
  | nil n => exact .nil n
  | own i j x => exact .own i j x
  | nilown j => exact .nilown j
  | bptr i j b off => exact .bptr i j b off
  | row h => cases h
  | sub h => cases h
  | list hl hk _ ih => exact .list hl hk ih
  | box h => cases h
  | agg hl _ ih => exact .agg hl ih
  | tup hl _ ih => exact .tup hl ih
variable {P : Program} {S : Nat → Spc} {f : Nat} {im : List Nat} {cc : CC} {rs : List CRes} {N : Nat}
theorem finW_bp {tw el b : Nat} {s t : ByteArray} {r d : D} {H : HMap} {z : Z} {T : Z → Option ByteArray} (ht : T z = some t) (h : FinW tw el b (s ++ t) r d H) : FinBQ (Y := Unit) (wtM tw) (wtB el b) (fun _ => r) b (fun x' _ => ∃ t, T z = some t ∧ x'.s = s ++ t) d H := by
  obtain ⟨u, v, h1, h2, h3⟩ := h
  exact ⟨⟨u, v, s ++ t⟩, (), fzNo h1, h2, fun p hp => by simp at hp; subst hp; exact h3, t, ht, rfl⟩
theorem tri_walkW {tw el : Nat} {A : Arg Z} {r : D} {T : Z → Option ByteArray} (hS : ∀ f, Tri P f (S f).pt) (h : FnOk P f im cc rs N) (hN : ∀ z, (A.view z).length + 1 ≤ N) (hw : WalkW cc rs S tw el A r T) : Tri P f (wrC tw el A r T).pt := by
  refine tri_walkBQ (by simp) hS h hN ?_
  rintro b ⟨u, v, s⟩ z ⟨t, ht, hl⟩
  refine vc_mono cc _ _ (fun e σ H h => ?_) (hw b u v s z t ht hl)
  cases e with
  | ex i => exact h
  | _ =>
    simp only [retK] at h ⊢
    exact resL_mono (fun ds h => finW_bp ht h) h
end
end Go.Gv

namespace Go.Gv
set_option linter.unusedSimpArgs false
set_option linter.unusedVariables false
set_option linter.unusedSectionVars false
open Cod (enc dec)
section
variable {tw el : Nat}
def ivPT (tw el : Nat) (G : Nat → Nat → List D → Option ByteArray) (r : D) : PT := fun d ds H K => ∃ (id b : Nat) (x : Wtr) (t : ByteArray), G id b ds = some t ∧ H id = some (.tbox tw b [.v (pv b x.u), .own 900 x.v]) ∧ H 900 = some (.row x.v el 1 (bD x.s)) ∧ id ≠ 900 ∧ x.s.size + t.size ≤ LIMW ∧
  ∀ u v, K r (updH (updH H 900 (some (.row v el 1 (bD (x.s ++ t))))) id (some (.tbox tw b [.v (pv b u), .own 900 v])))
theorem iv_mono (tw el : Nat) (G : Nat → Nat → List D → Option ByteArray) (r : D) : MonoPT (ivPT tw el G r) := fun d ds H K K' hk ⟨id, b, x, t, h1, h2, h3, h4, h5, h6⟩ => ⟨id, b, x, t, h1, h2, h3, h4, h5, fun u v => hk _ _ (h6 u v)⟩
def ivC (tw el : Nat) (G : Nat → Nat → List D → Option ByteArray) (r : D) : Spc := .gen _ (iv_mono tw el G r)
def FinI (tw el id b : Nat) (s : ByteArray) (r d : D) (H : HMap) : Prop := ∃ u v, FrzTo noH d r ∧ H id = some (.tbox tw b [.v (pv b u), .own 900 v]) ∧ H 900 = some (.row v el 1 (bD s))
def WalkI (cc : CC) (rs : List CRes) (S : Nat → Spc) (tw el : Nat) (G : Nat → Nat → List D → Option ByteArray) (r : D) : Prop :=
  ∀ id b u v s ds t, id ≠ 900 → G id b ds = some t → s.size + t.size ≤ LIMW → vc S cc (retK rs fun d H' => FinI tw el id b (s ++ t) r d H') (initS ds) (updH (updH noH 900 (some (.row v el 1 (bD s)))) id (some (.tbox tw b [.v (pv b u), .own 900 v])))
variable {P : Program} {S : Nat → Spc} {f : Nat} {im : List Nat} {cc : CC} {rs : List CRes} {N : Nat}
theorem LeL.refl (ds : List D) : LeL ds ds := ⟨rfl, fun k d d' h h' => by rw [h] at h'; cases h'; exact .same _⟩
theorem tri_walkI {G : Nat → Nat → List D → Option ByteArray} {r : D} (hS : ∀ f, Tri P f (S f).pt) (h : FnOk P f im cc rs N) (hN : ∀ id b ds t, G id b ds = some t → ds.length ≤ N) (hw : WalkI cc rs S tw el G r) : Tri P f (ivC tw el G r).pt := by
  obtain ⟨mix, enter, fn, code, h1, h2, h3, h4, h5⟩ := h
  refine tri_of_vc hS mix h1 h2 enter h3 h4 h5 ?_
  rintro ds H d K ⟨id, b, ⟨u, v, s⟩, t, g1, g2, g3, g4, g5, g6⟩
  simp only at g2 g3 g5 g6
  have hH0 : ∀ i q, updH (updH noH 900 (some (.row v el 1 (bD s)))) id (some (.tbox tw b [.v (pv b u), .own 900 v])) i = some q → (i = id ∧ q = .tbox tw b [.v (pv b u), .own 900 v]) ∨ (i = 900 ∧ q = .row v el 1 (bD s)) := by
    intro i q h
    by_cases e : i = id
    · subst e
      simp only [updH, if_true] at h
      cases h
      exact .inl ⟨rfl, rfl⟩
    · by_cases e9 : i = 900
      · subst e9
        simp [updH, e] at h
        exact .inr ⟨rfl, h.symm⟩
      · simp [updH, e, e9, noH] at h
  refine ⟨hN id b ds t g1, ds, updH (updH noH 900 (some (.row v el 1 (bD s)))) id (some (.tbox tw b [.v (pv b u), .own 900 v])), fun i => i, LeL.refl ds, fun i q h => ?_, fun i j q q' _ _ e => e, _, hw id b u v s ds t g4 g1 g5, ?_⟩
  · rcases hH0 i q h with ⟨rfl, rfl⟩ | ⟨rfl, rfl⟩
    · exact g2
    · exact g3
  · rintro d' H' ⟨u', v', k1, k2, k3⟩
    refine ⟨r, noH, updH (updH H 900 (some (.row v' el 1 (bD (s ++ t))))) id (some (.tbox tw b [.v (pv b u'), .own 900 v'])), fun i => if i = id then some id else if i = 900 then some 900 else none, k1, fun j q h => by simp [noH] at h, g6 u' v', fun i q hi => ?_, fun i j k q q' hi hj e1 e2 => ?_⟩
    · by_cases e : i = id
      · subst e
        simp only [updH, if_true] at hi ⊢
        cases hi
        exact k2
      · by_cases e9 : i = 900
        · subst e9
          simp [updH, e] at hi ⊢
          subst hi
          exact k3
        · simp only [updH, e, e9, if_false] at hi ⊢
          refine ⟨hi, fun k q hk he => ?_⟩
          rcases hH0 k q hk with ⟨rfl, rfl⟩ | ⟨rfl, rfl⟩
          · exact e he.symm
          · exact e9 he.symm
    · by_cases c1 : i = id
      · by_cases c2 : j = id
        · exact c1.trans c2.symm
        · simp only [c1, if_true] at e1
          cases e1
          simp only [c2, if_false] at e2
          by_cases c3 : j = 900
          · simp [c3] at e2
            exact absurd e2.symm g4
          · simp [c3] at e2
      · simp only [c1, if_false] at e1
        by_cases c3 : i = 900
        · simp only [c3, if_true] at e1
          cases e1
          by_cases c2 : j = id
          · simp [c2] at e2
            exact absurd e2 g4
          · simp only [c2, if_false] at e2
            by_cases c4 : j = 900
            · exact c3.trans c4.symm
            · simp [c4] at e2
        · simp [c3] at e1
theorem ivC_use {G : Nat → Nat → List D → Option ByteArray} {r : D} {i b d : Nat} {ds : List D} {H : HMap} {K : D → HMap → Prop} (h : wrX tw el r (fun t : ByteArray => some t) i b (H i) (H 900) (G i b ds) H K) : (ivC tw el G r).pt d ds H K := by
  obtain ⟨x, h1, h2, h3, h4⟩ := h
  cases hg : G i b ds with
  | none => rw [hg] at h4; exact h4.elim
  | some t =>
    rw [hg] at h4
    have h4 : x.s.size + t.size ≤ LIMW ∧ _ := h4
    exact ⟨i, b, x, t, hg, h1, h2, h3, h4.1, h4.2⟩
end
end Go.Gv

namespace Go.Gv
open Go.RowKit
open Cod (enc dec)
/-- A contract of a function that reads what is given, and writes only what is new. -/
theorem tri_calls {P : Program} {f : Nat} {X Y : Type} {A : Arg X} {pre : X → Prop} {er : Y → D} {post : X → Y → Prop} (hce : CallEnter P f)
    (h : ∀ (tp I : Nat → Prop) (w : World) (vs : List Value) (x : X), pre x → (∀ b, I b → b < w.heap.size) → vs.length = (A.view x).length →
      (∀ (k : Nat) (v : Value) (d : D), vs[k]? = some v → (A.view x)[k]? = some d → R tp I w v d) →
      Calls P f vs.toArray w fun e w' => ∃ v y, e = .returned v ∧ post x y ∧ (∀ tp' I', R tp' I' w' v (er y)) ∧ Below w.heap.size w w' ∧ w.drawn ≤ w'.drawn) : Tri P f (spc A pre er post).pt := by
  intro O tp w vs ds H d K hO htl hsat hlen hargs hA
  rw [spc_pt] at hA
  cases hd : A.dec ds with
  | none => rw [hd] at hA; exact hA.elim
  | some x =>
    rw [hd] at hA
    obtain ⟨hp, hK⟩ := hA
    have hle := A.le ds x hd
    refine ⟨hce, (h tp (Imm O tp H w) w vs x hp (fun b hb => hb.1) (by rw [hlen, hle.1]) (fun k v d h1 h2 => ?_)).mono ?_⟩
    · have hlt : k < ds.length := by rw [← hlen]; exact (List.getElem?_eq_some_iff.1 h1).1
      have he := List.getElem?_eq_getElem hlt
      exact (hle.2 k _ d he h2).R (H := noH) (fun i r h => by cases h) (fun _ h => h) (fun i r b h => by cases h) (hargs k _ _ h1 he)
    · rintro e w' ⟨v, y, rfl, hy, hR, hb, hdr⟩
      have hmove : ∀ y e, R tp (Imm O tp H w) w y e → R tp (Imm O tp H w') w' y e := fun y e hr =>
        hr.mono (fun _ h => h) (fun b hb' => ⟨⟨Nat.lt_of_lt_of_le hb'.1 hb.size, hb'.2⟩, hb.block b hb'.1⟩) (fun b hb' => .same (hb.block b (htl b hb')))
      exact ⟨v, er y, H, tp, rfl, hK y hy, fun _ h => h, fun _ h => .inl h, fun b h => Nat.lt_of_lt_of_le (htl b h) hb.size,
        ⟨hb.os, hb.tape, hb.output, hb.size, fun b h1 _ _ => hb.block b h1, fun b h => .same (hb.block b (htl b h)), hdr⟩, fun _ h => .inl h,
        ⟨hsat.dis, hsat.out, fun i r h1 => (hsat.ok i r h1).conv hmove fun b h2 => hb.block b ((hsat.ok i r h1).lt h2)⟩, hR _ _⟩

theorem v_eqq {tp I : Nat → Prop} {w : World} {x y : Value} (h : R tp I w x (.v y)) : x = y := by cases h; rfl
end Go.Gv

namespace Go.Gv
set_option linter.unusedSimpArgs false
set_option linter.unusedVariables false
theorem preB_cut {s x : B} {j : Nat} (h : j ≤ s.size) : preB (s.extract j s.size) 0 x = preB s j x := by
  unfold preB
  rw [Bool.eq_iff_iff, decide_eq_true_eq, decide_eq_true_eq, Nat.zero_add, ByteArray.size_extract]
  refine ⟨fun ⟨h1, h2⟩ => ⟨by omega, ?_⟩, fun ⟨h1, h2⟩ => ⟨by omega, ?_⟩⟩
  · rw [ByteArray.extract_extract, show min (j + x.size) s.size = j + x.size by omega, Nat.add_zero] at h2
    exact h2
  · rw [ByteArray.extract_extract]
    rw [show min (j + x.size) s.size = j + x.size by omega, Nat.add_zero]
    exact h2
def twoL : List B := [⟨#[60, 47]⟩, ⟨#[33, 61]⟩, ⟨#[58, 58]⟩, ⟨#[37, 99]⟩]
def oneS : B := ⟨#[91, 93, 40, 41, 123, 125, 60, 62, 124, 38, 33, 61, 58, 46, 44, 63, 42, 43, 45]⟩
theorem signs_eq : signsL = twoL ++ oneS.data.toList.map fun c => ⟨#[c]⟩ := rfl
theorem preB_one {s : B} {j : Nat} {c d : UInt8} (h : s.data[j]? = some c) : preB s j ⟨#[d]⟩ = decide (c = d) := by
  have hj : j < s.size := (Array.getElem?_eq_some_iff.1 h).1
  unfold preB
  have e : s.extract j (j + 1) = ⟨#[c]⟩ := by
    apply ByteArray.ext
    rw [ByteArray.data_extract]
    apply Array.ext_getElem?
    intro k
    rw [Array.getElem?_extract]
    rcases k with _ | k
    · simp [h]
      intro h2
      have : s.data.size = s.size := rfl
      omega
    · simp
      omega
  show decide (j + 1 ≤ s.size ∧ s.extract j (j + 1) = ⟨#[d]⟩) = _
  rw [e, Bool.eq_iff_iff, decide_eq_true_eq, decide_eq_true_eq]
  refine ⟨fun ⟨_, h2⟩ => ?_, fun h2 => ⟨by omega, by rw [h2]⟩⟩
  have := congrArg (fun b : B => b.data[0]?) h2
  simpa using this
theorem cut_one {s : B} {j : Nat} {c : UInt8} (h : s.data[j]? = some c) : s.extract j (j + 1) = ⟨#[c]⟩ := by
  have := preB_one (d := c) h
  unfold preB at this
  rw [decide_eq_true (rfl : c = c), decide_eq_true_eq] at this
  exact this.2
/-- which sign stands at j -/
theorem find_two {s : B} {j : Nat} (h : ∀ x ∈ twoL, preB s j x = false) : signsL.find? (preB s j) = (oneS.data.toList.map fun c => (⟨#[c]⟩ : B)).find? (preB s j) := by
  rw [signs_eq, List.find?_append]
  have : twoL.find? (preB s j) = none := List.find?_eq_none.2 fun x hx => by rw [h x hx]; simp
  rw [this]
  rfl
theorem find_at {s x : B} {j k : Nat} (hk : twoL[k]? = some x) (h : ∀ y ∈ twoL.take k, preB s j y = false) (hx : preB s j x = true) : signsL.find? (preB s j) = some x := by
  rw [signs_eq, List.find?_append]
  have e : twoL = twoL.take k ++ x :: twoL.drop (k + 1) := by rw [← drop_cons_of hk, List.take_append_drop]
  rw [e, List.find?_append]
  have : (twoL.take k).find? (preB s j) = none := List.find?_eq_none.2 fun x hx => by rw [h x hx]; simp
  rw [this, List.find?_cons, hx]
  rfl
theorem find_one {s : B} {j : Nat} {c : UInt8} (h : s.data[j]? = some c) : ∀ l : List UInt8, (l.map fun c => (⟨#[c]⟩ : B)).find? (preB s j) = if c ∈ l then some ⟨#[c]⟩ else none
  | [] => rfl
  | d :: l => by
    rw [List.map_cons, List.find?_cons, preB_one h, find_one h l]
    by_cases e : c = d
    · subst e; simp
    · simp [e]
theorem idxB_mem (s : B) (c : UInt8) : 0 ≤ idxB s ⟨c.toNat⟩ ↔ c ∈ s.data.toList := by
  unfold idxB
  cases h : s.data.toList.findIdx? (fun x => decide ((x.toNat : Int) = (⟨c.toNat⟩ : U8).val)) with
  | none =>
    rw [List.findIdx?_eq_none_iff] at h
    refine ⟨fun h' => absurd h' (by decide), fun h' => ?_⟩
    have := h c h'
    simp at this
  | some k =>
    refine ⟨fun _ => ?_, fun _ => Int.natCast_nonneg k⟩
    obtain ⟨hk, h1, _⟩ := List.findIdx?_eq_some_iff_getElem.1 h
    simp at h1
    have h1 : ((s.data.toList[k]).toNat : Int) = c.toNat := by simpa using h1
    have : s.data.toList[k] = c := UInt8.toNat_inj.1 (Int.ofNat_inj.1 h1)
    rw [← this]
    exact List.getElem_mem hk
end Go.Gv

namespace Go.Gv
set_option linter.unusedSimpArgs false
set_option linter.unusedVariables false
set_option maxRecDepth 100000
open Cod (enc dec)
variable {S S0 : Nat → Spc}
theorem lexP_end {s : B} {i : Nat} (h : skipF s i = s.size) : lexP s i = (⟨0, E0, s.size⟩, (s.size : Int)) := by
  have : s.data[skipF s i]? = none := by
    rw [h]
    exact Array.getElem?_eq_none (Nat.le_refl _)
  unfold lexP
  simp only [this]
  rw [h]
theorem lexP_at {s : B} {i j : Nat} {c : UInt8} (hj : skipF s i = j) (h : s.data[j]? = some c) : lexP s i =
    if letP ⟨c.toNat⟩ then (⟨2, s.extract j (namF s j), j⟩, (namF s j : Int))
    else if digP ⟨c.toNat⟩ then (⟨3, s.extract j (digF s j), j⟩, (digF s j : Int))
    else if c.toNat = 34 then (if (quoP s j).2 < 0 then (⟨1, E0, j⟩, (s.size : Int)) else (⟨4, (quoP s j).1, j⟩, (quoP s j).2))
    else match signsL.find? (preB s j) with
      | some x => (⟨5, x, j⟩, j + x.size)
      | none => (⟨1, E0, j⟩, (j : Int)) := by
  unfold lexP
  simp only [hj, h]
  rfl
abbrev s_q_quoted : Spc := spc (a2 B Int) (fun x => (0 ≤ x.2 ∧ x.2 < x.1.size) ∧ x.1.size ≤ 100000) (er2 (Y := B) (Z := Int)) fun x y => y = quoP x.1 x.2.toNat
abbrev s_q_lex : Spc := spc (a2 B Int) (fun x => (0 ≤ x.2 ∧ x.2 ≤ x.1.size) ∧ x.1.size ≤ 100000) (er2 (Y := Lxm) (Z := Int)) fun x y => y = lexP x.1 x.2.toNat
theorem w_query_lex (a1' : S0 f_query_lex_1 = s_q_space) (a2' : S0 f_query_lex_2 = s_q_name) (a3' : S0 f_query_digit = s_q_digit) (h1 : S f_query_run = s_q_run S0) (h2 : S f_query_letter = s_q_letter) (h3 : S f_query_digit = s_q_digit) (h4 : S f_query_quoted = s_q_quoted) (h5 : S f_strings_HasPrefix = s_hasPrefix) (h6 : S f_strings_IndexByte = s_indexByte) :
    Walk cc_query_lex rs_query_lex S (a2 B Int) (fun x => (0 ≤ x.2 ∧ x.2 ≤ x.1.size) ∧ x.1.size ≤ 100000) (er2 (Y := Lxm) (Z := Int)) fun x y => y = lexP x.1 x.2.toNat := by
  rintro ⟨s, i⟩ ⟨⟨h0, hi⟩, hbig⟩
  simp only at h0 hi hbig
  have f1 : FunIs S0 (.clo f_query_lex_1 []) spP := funIs_nm a1' fun _ => trivial
  have f2 : FunIs S0 (.clo f_query_lex_2 []) namP := funIs_nm a2' fun _ => trivial
  have f3 : FunIs S0 (.clo f_query_digit []) digP := funIs_nm a3' fun _ => trivial
  have r1 : P_run S0 (s, i, .clo f_query_lex_1 [], ()) := ⟨⟨_, f1⟩, h0, hi⟩
  simp [cc_query_lex, rs_query_lex, h1, r1]
  intro b y hy
  have hy : y = runP spP s i.toNat := hy spP f1
  have hj : runP spP s i.toNat = skipF s i.toNat := run_skip _ _ _
  have hr := runP_rng spP (s := s) (i := i.toNat) (by omega)
  rw [hj] at hy hr
  obtain ⟨j, hjj⟩ : ∃ j, j = skipF s i.toNat := ⟨_, rfl⟩
  rw [← hjj] at hy hr
  subst hy
  refine vc_mid (X := Unit) [0, 1, 4] [4] (fun _ => j < s.size ∧ (s.size : Int) ≤ 9223372036854775807) (fun _ => []) (fun _ => []) ?_ ?_
  · simp
    refine fun hsz => ⟨fun he => ⟨⟨0, E0, j⟩, .same _, ?_⟩, fun h => ⟨by omega, hsz⟩⟩
    have he : j = s.size := by omega
    rw [lexP_end (by rw [← hjj]; exact he), he]
  · rintro - ⟨hlt, hsz⟩
    obtain ⟨c, hc⟩ : ∃ c, s.data[j]? = some c := ⟨s.data[j]'hlt, Array.getElem?_eq_getElem hlt⟩
    have hl := lexP_at hjj.symm hc
    have r2 : P_run S0 (s, (j : Int), .clo f_query_lex_2 [], ()) := ⟨⟨_, f2⟩, by show (0 : Int) ≤ j; omega, by show (j : Int) ≤ s.size; omega⟩
    have r3 : P_run S0 (s, (j : Int), .clo f_query_digit [], ()) := ⟨⟨_, f3⟩, by show (0 : Int) ≤ j; omega, by show (j : Int) ≤ s.size; omega⟩
    have hgc : s.data[j]'hlt = c := by
      have := Array.getElem?_eq_some_iff.1 hc
      exact this.2
    simp [hlt, hc, hgc]
    refine vc_mid (X := Unit) [0, 1, 4, 6] [4] (fun _ => letP ⟨c.toNat⟩ = false ∧ digP ⟨c.toNat⟩ = false ∧ c.toNat ≠ 34) (fun _ => []) (fun _ => []) ?_ ?_
    · have e2 : ∀ y : Int, Q_run S0 (s, (j : Int), .clo f_query_lex_2 [], ()) y → y = namF s j := fun y hy => by
        have : y = runP namP s j := hy namP f2
        rw [this]; exact congrArg _ (run_nam _ _ _)
      have e3 : ∀ y : Int, Q_run S0 (s, (j : Int), .clo f_query_digit [], ()) y → y = digF s j := fun y hy => by
        have : y = runP digP s j := hy digP f3
        rw [this]; exact congrArg _ (run_dig _ _ _)
      have g2 : j ≤ namF s j ∧ namF s j ≤ s.size := by
        have := runP_rng namP hr.2
        rwa [show runP namP s j = namF s j from run_nam _ _ _] at this
      have g3 : j ≤ digF s j ∧ digF s j ≤ s.size := by
        have := runP_rng digP hr.2
        rwa [show runP digP s j = digF s j from run_dig _ _ _] at this
      simp [h1, h2, h3, h4, r2, r3, hlt, hbig, er2, -Bool.forall_bool]
      refine ⟨fun hb y hy => ?_, fun hb => ⟨fun hd y hy => ?_, fun hd => ⟨fun hq => ?_, fun hq => ?_⟩⟩⟩
      · have := e2 y hy
        subst this
        refine ⟨by omega, by omega, ⟨2, s.extract j (namF s j), j⟩, .same _, ?_⟩
        rw [hl, if_pos hb]
      · have := e3 y hy
        subst this
        refine ⟨by omega, by omega, ⟨3, s.extract j (digF s j), j⟩, .same _, ?_⟩
        rw [hl, if_neg (by rw [hb]; simp), if_pos hd]
      · have hq' : c.toNat = 34 := by omega
        refine ⟨fun hn _ => ⟨⟨1, E0, j⟩, .same _, ?_⟩, fun hn => ⟨⟨4, (quoP s j).1, j⟩, .same _, ?_⟩⟩
        · rw [hl, if_neg (by rw [hb]; simp), if_neg (by rw [hd]; simp), if_pos hq', if_pos hn]
        · rw [hl, if_neg (by rw [hb]; simp), if_neg (by rw [hd]; simp), if_pos hq', if_neg (by omega)]
      · exact ⟨hb, hd, by omega⟩
    · rintro - ⟨n1, n2, n3⟩
      have hl : lexP s i.toNat = match signsL.find? (preB s j) with
          | some x => (⟨5, x, j⟩, j + x.size)
          | none => (⟨1, E0, j⟩, (j : Int)) := by
        rw [hl, if_neg (by rw [n1]; simp), if_neg (by rw [n2]; simp), if_neg n3]
      refine vc_mid (X := Unit) [0, 1, 4, 6] [4] (fun _ => ∀ x ∈ twoL, preB s j x = false) (fun _ => []) (fun _ => []) ?_ ?_
      · simp
        have hjs : j ≤ s.size := hr.2
        have two : ∀ x ∈ twoL, x.size = 2 := fun x hx => by simp [twoL] at hx; rcases hx with rfl | rfl | rfl | rfl <;> rfl
        refine vc_range (X := Unit) [0, 1, 4, 6, 71] [4] 4 (fun k _ => ∀ y ∈ twoL.take k, preB s j y = false) (fun _ => []) (fun _ => []) () (by simp) (by simp) (by omega) (by simp) (by simp) (by simp) (by simp) (by simp) ?_ ?_
        · rintro k - hk hP
          have key : ∀ x, twoL[k]? = some x → (preB (s.extract j s.size) 0 x = true → InR .i64 ((j : Int) + 2) ∧ ∃ y : Lxm, y = ⟨5, x, j⟩ ∧ (y, (j : Int) + 2) = lexP s i.toNat) ∧ (preB (s.extract j s.size) 0 x = false → ∀ y ∈ twoL.take (k + 1), preB s j y = false) := fun x hx => by
            rw [preB_cut hjs]
            refine ⟨fun h => ?_, fun h y hy => ?_⟩
            · have h2 := two x (List.mem_of_getElem? hx)
              have h3 : j + x.size ≤ s.size := by unfold preB at h; exact (of_decide_eq_true h).1
              refine ⟨by simp only [InR]; omega, _, rfl, ?_⟩
              rw [hl, find_at hx hP h]
              show _ = (_, (j : Int) + x.size)
              rw [h2]
              rfl
            · rw [take_snoc hx] at hy
              rcases List.mem_append.1 hy with hy | hy
              · exact hP y hy
              · rw [List.mem_singleton.1 hy]; exact h
          obtain rfl | rfl | rfl | rfl : k = 0 ∨ k = 1 ∨ k = 2 ∨ k = 3 := by omega
          · have key := key _ rfl
            simp [h5, hjs, -Bool.forall_bool]
            refine ⟨fun h => ?_, fun h => key.2 h⟩
            obtain ⟨k1, y, rfl, k2⟩ := key.1 h
            exact ⟨k1, _, .same _, k2⟩
          · have key := key _ rfl
            simp [h5, hjs, -Bool.forall_bool]
            refine ⟨fun h => ?_, fun h => key.2 h⟩
            obtain ⟨k1, y, rfl, k2⟩ := key.1 h
            exact ⟨k1, _, .same _, k2⟩
          · have key := key _ rfl
            simp [h5, hjs, -Bool.forall_bool]
            refine ⟨fun h => ?_, fun h => key.2 h⟩
            obtain ⟨k1, y, rfl, k2⟩ := key.1 h
            exact ⟨k1, _, .same _, k2⟩
          · have key := key _ rfl
            simp [h5, hjs, -Bool.forall_bool]
            refine ⟨fun h => ?_, fun h => key.2 h⟩
            obtain ⟨k1, y, rfl, k2⟩ := key.1 h
            exact ⟨k1, _, .same _, k2⟩
        · rintro - hP
          simp
          exact fun x hx => hP x (by rw [show twoL.take 4 = twoL from rfl]; exact hx)
      · rintro - htw
        have hf : signsL.find? (preB s j) = if c ∈ oneS.data.toList then some ⟨#[c]⟩ else none := by rw [find_two htw, find_one hc]
        rw [hf] at hl
        have hm := idxB_mem oneS c
        unfold oneS at hm hl
        have c256 : (c.toNat : Int) < 256 := by have := c.toNat_lt; omega
        simp [h6, c256]
        refine ⟨fun h => ⟨by simp only [InR]; omega, by omega, by omega, by simp only [InR]; omega, ⟨5, s.extract j (j + 1), j⟩, .same _, ?_⟩, fun h => ⟨⟨1, E0, j⟩, .same _, ?_⟩⟩
        · rw [hl, if_pos (hm.1 h), cut_one hc]
          rfl
        · rw [hl, if_neg (fun h' => by have := hm.2 h'; omega)]
end Go.Gv

namespace Go.Gv
set_option linter.unusedSimpArgs false
set_option linter.unusedVariables false
set_option maxRecDepth 100000
open Cod (enc dec)
variable {S S0 : Nat → Spc}
def bDs (l : List UInt8) : List D := l.map fun c => .v (.int .u8 c.toNat)
theorem asBy_c (c : UInt8) : asBy (.v (.int .u8 c.toNat)) = some c := by simp [asBy]
theorem byL_bDs (l : List UInt8) : byL (bDs l) = true := by
  simp [byL, bDs, List.all_eq_true]
  intro c _
  rw [asBy_c]; rfl
theorem byS_bDs (l : List UInt8) : byS (bDs l) = ⟨l.toArray⟩ := by
  unfold byS bDs
  rw [List.map_map]
  congr 2
  conv => rhs; rw [← List.map_id l]
  refine List.map_congr_left fun c _ => ?_
  simp only [Function.comp]
  rw [asBy_c]; rfl
theorem quoNG_fuel : ∀ (n m : Nat) (s : B) (j : Nat) (v : B), s.size - j ≤ n → s.size - j ≤ m → quoNG n s j v = quoNG m s j v
  | 0, 0, s, j, v, _, _ => rfl
  | 0, m + 1, s, j, v, h, _ => by
    have : s.data[j]? = none := Array.getElem?_eq_none (by show s.size ≤ j; omega)
    simp only [quoNG, this]
  | n + 1, 0, s, j, v, _, h => by
    have : s.data[j]? = none := Array.getElem?_eq_none (by show s.size ≤ j; omega)
    simp only [quoNG, this]
  | n + 1, m + 1, s, j, v, h, h' => by
    simp only [quoNG]
    rw [quoNG_fuel n m s (j + 1) _ (by omega) (by omega), quoNG_fuel n m s (j + 2) _ (by omega) (by omega)]
theorem quoG_step {s : B} {j : Nat} {v : B} {c : UInt8} (hc : s.data[j]? = some c) : quoG s j v = if c.toNat = 34 then (match s.data[j + 1]? with
    | some d => if d.toNat = 34 then quoG s (j + 2) (v ++ s.extract (j + 1) (j + 2)) else some (j, v)
    | none => some (j, v)) else quoG s (j + 1) (v ++ s.extract j (j + 1)) := by
  have hlt : j < s.size := (Array.getElem?_eq_some_iff.1 hc).1
  unfold quoG
  rw [quoNG_fuel (s.size - j) (s.size - (j + 1) + 1) s j v (by omega) (by omega)]
  simp only [quoNG, hc]
  rw [quoNG_fuel (s.size - (j + 2)) (s.size - (j + 1)) s (j + 2) _ (by omega) (by omega)]
  by_cases h : c.toNat = 34
  · rw [if_pos h, if_pos h]
    cases s.data[j + 1]? <;> rfl
  · rw [if_neg h, if_neg h]
theorem quoG_end {s : B} {j : Nat} {v : B} (h : s.size ≤ j) : quoG s j v = none := by
  unfold quoG
  rw [show s.size - j = 0 by omega]
  rfl
theorem push_one (l : List UInt8) (c : UInt8) : (⟨l.toArray⟩ : B) ++ ⟨#[c]⟩ = ⟨(l ++ [c]).toArray⟩ := by
  show ByteArray.append _ _ = _
  apply ByteArray.ext
  show ((⟨l.toArray⟩ : B) ++ (⟨#[c]⟩ : B)).data = _
  rw [ByteArray.data_append]
  simp
theorem w_query_quoted : Walk cc_query_quoted rs_query_quoted S (a2 B Int) (fun x => (0 ≤ x.2 ∧ x.2 < x.1.size) ∧ x.1.size ≤ 100000) (er2 (Y := B) (Z := Int)) fun x y => y = quoP x.1 x.2.toNat := by
  rintro ⟨s, i⟩ ⟨⟨h0, hi⟩, hb⟩
  simp only at h0 hi hb
  simp [cc_query_quoted, rs_query_quoted]
  refine ⟨by simp only [InR]; omega, ?_⟩
  refine vc_while (X := Nat × Value × List UInt8) [0] [] (fun x => i.toNat < x.1 ∧ x.2.2.length ≤ x.1 ∧ x.1 ≤ s.size + 1 ∧ quoG s x.1 ⟨x.2.2.toArray⟩ = quoG s (i.toNat + 1) ⟨#[]⟩) (fun x => [(6, .own 43 x.2.1), (7, enc (x.1 : Int))]) (fun x => [(43, .row x.2.1 ty_uint8 1 (bDs x.2.2))]) (fun x => s.size + 1 - x.1) (i.toNat + 1, .slice none 0 0, []) ⟨by omega, by simp, by omega, rfl⟩ (by simp; omega) (by simp [isNilRow, bDs]) ?_
  rintro ⟨k, v, l⟩ ⟨hk, hl, hks, hq⟩
  simp only at hk hl hks hq
  simp
  have hlen : (bDs l).length = l.length := by simp [bDs]
  have done : ∀ {c : UInt8}, s.data[k]? = some c → c.toNat = 34 → (∀ d, s.data[k + 1]? = some d → d.toNat ≠ 34) → (byS (bDs l), (k : Int) + 1) = quoP s i.toNat := by
    intro c hc h34 hno
    unfold quoP
    rw [← hq, quoG_step hc, if_pos h34, byS_bDs]
    cases hd : s.data[k + 1]? with
    | none => rfl
    | some d =>
      simp only
      rw [if_neg (hno d hd)]
  have more : ∀ (v : Value) (a : Nat) (c : UInt8), k < a → a ≤ s.size + 1 → quoG s a ⟨(l ++ [c]).toArray⟩ = quoG s (i.toNat + 1) ⟨#[]⟩ → ∀ z : Int, z = a →
      ∃ (a : Nat) (a_1 : Value) (b : List UInt8), (i.toNat < a ∧ b.length ≤ a ∧ a ≤ s.size + 1 ∧ quoG s a ⟨b.toArray⟩ = quoG s (i.toNat + 1) ⟨#[]⟩) ∧
        ((v = a_1 ∧ z = ↑a) ∧ (v = a_1 ∧ bDs l ++ [D.v (Value.int IntKind.u8 ↑c.toNat)] = bDs b ∨ isNilRow (Res.row a_1 ty_uint8 1 (bDs b)))) ∧ s.size + 1 - a < s.size + 1 - k := by
    intro v a c h1 h2 h3 z hz
    exact ⟨a, v, l ++ [c], ⟨by omega, by simp; omega, h2, h3⟩, ⟨⟨rfl, hz⟩, .inl ⟨rfl, by simp [bDs]⟩⟩, by omega⟩
  refine fun hsz => ⟨fun hlt => ⟨hlt, fun c hc => ⟨fun h34 => ⟨by simp only [InR]; omega, fun _ => ⟨fun hne => ⟨by simp only [InR]; omega, by omega, by omega, fun d hd => ⟨fun hn => ⟨byL_bDs l, by simp only [InR]; omega, ?_⟩, fun hy => ⟨by simp only [InR]; omega, by omega, by omega, fun d' hd' => ⟨by omega, fun v => ⟨by simp only [InR]; omega, ?_⟩⟩⟩⟩⟩, fun he => ⟨byL_bDs l, by simp only [InR]; omega, ?_⟩⟩⟩, fun h34 => ⟨hlt, fun c' hc' => ⟨by omega, fun v => ⟨by simp only [InR]; omega, ?_⟩⟩⟩⟩⟩, fun hge => ?_⟩
  · exact done hc (by omega) fun d' hd' => by rw [hd] at hd'; cases hd'; omega
  · rw [hd] at hd'
    cases hd'
    refine more v (k + 2) d (by omega) (by omega) ?_ _ (by omega)
    rw [← hq, quoG_step hc, if_pos (by omega), hd]
    simp only
    rw [if_pos (by omega), cut_one hd, push_one]
  · exact done hc (by omega) fun d' hd' => by
      have := (Array.getElem?_eq_some_iff.1 hd').1
      have : k + 1 < s.size := this
      omega
  · rw [hc] at hc'
    cases hc'
    refine more v (k + 1) c (by omega) (by omega) ?_ _ (by omega)
    rw [← hq, quoG_step hc, if_neg (by omega), cut_one hc, push_one]
  · unfold quoP
    rw [← hq, quoG_end hge]
end Go.Gv

namespace Go.Gv
set_option linter.unusedSimpArgs false
set_option linter.unusedVariables false
set_option maxRecDepth 100000
open Cod (enc dec)
open Go.Proofs Go.RowKit
theorem idxB_lib (s : B) (c : Int) (c0 : 0 ≤ c) (c1 : c < 256) : Lib.indexByte s.data.toList c.toNat.toUInt8 = idxB s ⟨c⟩ := by
  unfold idxB
  have e : ∀ x : UInt8, (x == c.toNat.toUInt8) = decide ((x.toNat : Int) = c) := fun x => by
    have h1 : c.toNat.toUInt8.toNat = c.toNat := by
      rw [Nat.toUInt8, UInt8.toNat_ofNat']
      omega
    rw [Bool.eq_iff_iff]
    simp only [beq_iff_eq, decide_eq_true_eq]
    constructor
    · rintro rfl
      omega
    · intro h
      exact UInt8.toNat_inj.1 (by omega)
  have key : ∀ l : List UInt8, Lib.indexByte l c.toNat.toUInt8 = match l.findIdx? (fun x => decide ((x.toNat : Int) = c)) with
    | some k => (k : Int)
    | none => -1 := by
    intro l
    induction l with
    | nil => rfl
    | cons x l ih =>
      rw [Lib.indexByte, List.findIdx?_cons, e x]
      by_cases h : (x.toNat : Int) = c
      · simp [h]
      · simp only [h, decide_false, Bool.false_eq_true, if_false]
        rw [ih]
        cases l.findIdx? (fun x => decide ((x.toNat : Int) = c)) with
        | none => rfl
        | some k =>
          have : ¬ ((k : Int) = -1) := by omega
          simp [this]
  exact key _
theorem calls_IndexByte (s : ByteArray) (c : Int) (w : World) : Calls Tryz.prog 180 #[.string s, .int .u8 c] w fun e w' => e = .returned (.int .i64 (Lib.indexByte s.data.toList c.toNat.toUInt8)) ∧ w' = w := by
  go_enter Tryz.func180, Tryz.ntmps180
  go_wp2
  rw [run_callFunc_extern Tryz.func190 (by kernel_rfl) (by kernel_rfl) (by kernel_rfl) (e := Extern.BytealgIndexByte.indexByte) (by kernel_rfl), Lib.run_indexByteString]
  simp only [Result.andThen]
  rw [Oper.upon_value]
  go_wp2
  go_ret
  exact ⟨rfl, rfl⟩
theorem t_stringslite_IndexByte : Tri Tryz.prog f_internal_stringslite_IndexByte s_indexByte.pt := by
  refine tri_calls (callEnter Tryz.func180 (by kernel_rfl) rfl) fun tp I w vs x hp hI hl hv => ?_
  obtain ⟨s, ⟨c⟩⟩ := x
  obtain ⟨c0, c1⟩ := hp
  have hview : (a2 B U8).view (s, ⟨c⟩) = [.v (.string s), .v (.int .u8 c)] := rfl
  rw [hview] at hl hv
  match vs, hl with
  | [v0, v1], _ =>
    have e0 := v_eqq (hv 0 v0 _ rfl rfl)
    have e1 := v_eqq (hv 1 v1 _ rfl rfl)
    subst e0; subst e1
    refine (calls_IndexByte s c w).mono ?_
    rintro e w' ⟨rfl, rfl⟩
    refine ⟨_, idxB s ⟨c⟩, rfl, rfl, fun tp' I' => ?_, Below.refl _ _, Nat.le_refl _⟩
    rw [idxB_lib s c c0 c1]
    exact .int _ _
end Go.Gv

namespace Go.Gv
set_option linter.unusedSimpArgs false
set_option linter.unusedVariables false
set_option maxRecDepth 100000
open Cod (enc dec)
open Go.Proofs Go.RowKit
theorem copyCheck_used (b : Nat) (w : World) (h0 : w.cell? ⟨b, 0, none⟩ = some (.pointer (some ⟨b, 0, none⟩))) :
    Calls Tryz.prog 119 #[.pointer (some ⟨b, 0, none⟩)] w fun e w' => e = .returned (.tuple #[]) ∧ w' = w := by
  obtain ⟨j, hj, hjs⟩ := Option.map_eq_some_iff.1 (show (Tryz.prog.info? 106).map (·.size) = some 2 by kernel_rfl)
  have t104 : Tryz.prog.underlying 104 = some (.pointer 106) := by kernel_rfl
  go_enter Tryz.func119, Tryz.ntmps119
  go_wp2
  rw [Lib.run_neq_ptr_same w _ t104 hj]
  go_wp2
  go_end0
  exact ⟨rfl, rfl⟩
theorem copyCheck_fresh (b : Nat) (w : World) (h0 : w.cell? ⟨b, 0, none⟩ = some (.pointer none)) (hsh : w.shape? b = some (108, 2)) (hfz : w.frozen? ⟨b, 0, none⟩ = false) :
    Calls Tryz.prog 119 #[.pointer (some ⟨b, 0, none⟩)] w fun e w' => e = .returned (.tuple #[]) ∧ w' = w.setCell ⟨b, 0, none⟩ (.pointer (some ⟨b, 0, none⟩)) := by
  obtain ⟨j, hj, hjs⟩ := Option.map_eq_some_iff.1 (show (Tryz.prog.info? 106).map (·.size) = some 2 by kernel_rfl)
  have t104 : Tryz.prog.underlying 104 = some (.pointer 106) := by kernel_rfl
  have t155 : Tryz.prog.underlying 155 = some .unsafePointer := by kernel_rfl
  have hlies : liesAt Tryz.prog Tryz.prog.depth 108 (2 / Tryz.prog.cellsOf 108) 0 106 1 = true := by kernel_rfl
  go_enter Tryz.func119, Tryz.ntmps119
  go_wp2
  rw [Lib.run_to_unsafe w ⟨b, 0, none⟩ t104 t155 hj (by rw [hjs]; decide) hsh (Nat.zero_lt_succ 1)]
  simp only [Result.andThen]
  rw [Oper.upon_value]
  go_wp2
  rw [run_callFunc_extern Tryz.func148 (by kernel_rfl) (by kernel_rfl) (by kernel_rfl) (e := Extern.AbiNoEscape.same) (by kernel_rfl)]
  rw [Lib.run_noEscape]
  simp only [Result.andThen]
  rw [Oper.upon_value]
  go_wp2
  rw [Lib.run_from_unsafe w ⟨b, 0, none⟩ t155 t104 hj hsh hlies]
  simp only [Result.andThen]
  rw [Oper.upon_value]
  go_wp2
  go_end0
  exact ⟨rfl, rfl⟩
/-! ### append(b, s...) -/
section
variable {P : Program} {w : World}
theorem app_run_str (t u ty e : TypeId) (i : TypeInfo) (ht : P.underlying t = some (.slice e)) (hu : P.underlying u = some .string) (hi : P.info? e = some i) (hz : i.zero = some (.int .u8 0)) (hsize : i.size = 1) (hby : i.bytes = 1)
    (v : Value) (n : Nat) (xs : List Value) (hown : w.ownsRow 0 e 1 v n xs) (s : ByteArray) (hb : n + s.size ≤ 140737488355328) :
    ∃ v' w', (Builtin.append_ #[t, u] ty #[v, .string s]).run P w = .ok v' w' ∧ w'.ownsRow 0 e 1 v' (n + s.size) (xs ++ Lib.strCells s) ∧ GrB w w' v.ownBlock ∧ (∀ b, v'.ownBlock = some b → w.heap.size ≤ b ∨ v.ownBlock = some b) := by
  have hm : n + s.size ≤ maxLen := by simp only [maxLen]; omega
  have hxl : xs.length = n := by simpa using hown.1
  have hlen : (xs ++ Lib.strCells s).length = (n + s.size) * 1 := by rw [List.length_append, hxl, Lib.strCells_length, Nat.mul_one]
  have grown : ∀ (old : Nat), old < n + s.size → ∀ (row : Option Nat),
      (w.drew.alloc (.cells (xs.toArray ++ (Lib.strCells s).toArray ++ Builtin.zeroCells (Value.int .u8 0).cells (grownCap w (n + s.size) old e - (n + s.size))) e)).ownsRow 0 e 1
        (.slice (some ⟨w.heap.size, 0, none⟩) (n + s.size) (grownCap w (n + s.size) old e)) (n + s.size) (xs ++ Lib.strCells s) ∧
      GrB w (w.drew.alloc (.cells (xs.toArray ++ (Lib.strCells s).toArray ++ Builtin.zeroCells (Value.int .u8 0).cells (grownCap w (n + s.size) old e - (n + s.size))) e)) row := by
    intro old ho row
    have hge := grownCap_ge w (n + s.size) old e
    have hcm : grownCap w (n + s.size) old e ≤ maxLen := grownCap_le_maxLen w (n + s.size) old e hm
    refine ⟨⟨hlen, .inr ⟨w.heap.size, _, _, rfl, Nat.zero_le _, heap_alloc_new w.drew _, hge, hcm, ?_, ?_⟩⟩, ⟨⟨rfl, rfl, rfl, by simp, fun k hk _ => RowKit.Below.heap_alloc w.drew _ k hk⟩, Nat.le_succ _⟩⟩
    · have hz1 : (Value.int IntKind.u8 0).cells.size = 1 := rfl
      simp only [Array.size_append, List.size_toArray, size_zeroCells, hz1, hxl, Lib.strCells_length]
      omega
    · simp only [Array.toList_append, List.append_assoc]
      rw [← List.append_assoc, ← hlen]
      exact List.take_left
  rcases hown.2 with ⟨rfl, rfl⟩ | ⟨g, cap, cur, rfl, hbg, hg, hnc, hcm, hcs, htake⟩
  · have hx : xs = [] := List.eq_nil_of_length_eq_zero hxl
    subst hx
    by_cases hm0 : s.size = 0
    · have hn : Lib.strCells s = [] := List.eq_nil_of_length_eq_zero (by rw [Lib.strCells_length]; exact hm0)
      refine ⟨.slice none 0 0, w, ?_, by rw [hm0, hn]; exact World.ownsRow_nil w 0 e 1, grownBy_refl _ _, fun b hb => by simp [Value.ownBlock] at hb⟩
      have hf := Lib.run_firstCells_string (P := P) w 1 s
      rw [hm0] at hf
      simp [Builtin.append_, run_underlying ht, run_underlying hu, sizeOf, typeInfo, hi, hsize, Builtin.lenOf, hm0, hf]
    · have hr := run_append_nil_string (P := P) w t u ty e i (.int .u8 0) ht hu hi hz s (by omega) (by simp only [maxLen] at hm; omega) (by rw [hby]; omega)
      have hgr := grown 0 (by omega) (Value.ownBlock (.slice none 0 0))
      simp only [Nat.zero_add, List.nil_append, Array.empty_append] at hgr ⊢
      have e1 : (s.data.map fun b => Value.int .u8 b.toNat) = (Lib.strCells s).toArray := by
        apply Array.ext'
        simp [Lib.strCells]
      rw [e1] at hr
      exact ⟨_, _, hr, hgr.1, hgr.2, fun b hb => .inl (by simp [Value.ownBlock] at hb; omega)⟩
  · by_cases hroom : n + s.size ≤ cap
    · have hcs' : cur.size = cap := by simpa using hcs
      have hr := Lib.run_append_room_string (P := P) w t u ty e i ht hu hi hsize g n cap cur hg s hroom (by omega)
      refine ⟨_, _, hr, ⟨hlen, .inr ⟨g, cap, _, rfl, hbg, setRow_heap w g cur _ e _ hg, hroom, hcm, ?_, ?_⟩⟩, grownBy_setRow _ _ _, fun b hb => .inr hb⟩
      · simp only [List.size_toArray, List.length_append, List.length_take, List.length_drop, Array.length_toList, Lib.strCells_length]
        omega
      · have ht' : cur.toList.take n = xs := by simpa using htake
        rw [ht', ← hlen]
        exact List.take_left
    · have holds : ∀ j u, xs[j]? = some u → w.cell? ((⟨g, 0, none⟩ : Addr).add j) = some u := hown.cells (g := g) rfl
      have hr := Lib.run_append_grow_string (P := P) w t u ty e i (.int .u8 0) ht hu hi hz ⟨g, 0, none⟩ n cap xs (by rw [hsize]; simpa using hxl) holds s (by omega) (by omega) (by rw [hby]; exact growslice_fits (by omega) (by omega))
      have hgr := grown cap (by omega) (Value.ownBlock (.slice (some ⟨g, 0, none⟩) n cap))
      exact ⟨_, _, hr, hgr.1, hgr.2, fun b hb => .inl (by simp [Value.ownBlock] at hb; omega)⟩
theorem wpList_app_str {ops : Array Oper} {rest : List Oper} {o : Oper} {a : Act} {Q : Exit → Act → World → Prop} (hgd : o.guard = none) (sl x : Operand) (t u : TypeId)
    (ho : o.op = .call { callee := .builtin .append, args := #[sl, x], argTypes := #[t, u] })
    (e : TypeId) (i : TypeInfo) (ht : P.underlying t = some (.slice e)) (hu : P.underlying u = some .string) (hi : P.info? e = some i) (hz : i.zero = some (.int .u8 0))
    (hsize : i.size = 1) (hby : i.bytes = 1)
    (v : Value) (n : Nat) (xs : List Value) (hs : a.eval sl = v) (hown : w.ownsRow 0 e 1 v n xs) (s : ByteArray) (hx : a.eval x = .string s) (hbytes : n + s.size ≤ 140737488355328)
    (h : ∀ v' w', w'.ownsRow 0 e 1 v' (n + s.size) (xs ++ Lib.strCells s) → GrB w w' v.ownBlock → (∀ b, v'.ownBlock = some b → w.heap.size ≤ b ∨ v.ownBlock = some b) → wpList P ops Q rest (a.put o.dst v') w') : wpList P ops Q (o :: rest) a w := by
  refine wpList_plain hgd fun K hK => ?_
  obtain ⟨v', w', hr, h2, h3, h4⟩ := app_run_str (P := P) (w := w) t u o.type e i ht hu hi hz hsize hby v n xs hown s hbytes
  unfold Oper.wp execOp
  simp only [ho, resolve, invoke, builtin, Sem.run_bind, Sem.run_pure, Result.andThen_ok, List.map_toArray, List.map_cons, List.map_nil, hs, hx, hr]
  exact hK _ _ (h v' w' h2 h3 h4)
end
/-! ### WriteString -/
/-- the world behind copyCheck -/
def ccW (b : Nat) (u : Bool) (w : World) : World := if u then w else w.setCell ⟨b, 0, none⟩ (.pointer (some ⟨b, 0, none⟩))
theorem copyCheck_all (b : Nat) (u : Bool) (v : Value) (w : World) (hbk : w.heap[b]? = some (.cells #[pv b u, v] 108 (0, 0))) : Calls Tryz.prog 119 #[.pointer (some ⟨b, 0, none⟩)] w fun e w' => e = .returned (.tuple #[]) ∧ w' = ccW b u w := by
  cases u with
  | true => exact copyCheck_used b w (by rw [Lib.cell_of_heap hbk]; rfl)
  | false => exact copyCheck_fresh b w (by rw [Lib.cell_of_heap hbk]; rfl) (by simp [World.shape?, hbk]) (Lib.frozen_of_heap hbk 0)
theorem ccW_other {b : Nat} {u : Bool} {w : World} (k : Nat) (h : k ≠ b) : (ccW b u w).heap[k]? = w.heap[k]? := by
  cases u with
  | true => rfl
  | false => exact heap_setCell_other w ⟨b, 0, none⟩ k _ h
theorem calls_WriteString (b : Nat) (u : Bool) (v : Value) (n : Nat) (xs : List Value) (t : ByteArray) (w : World) (hbk : w.heap[b]? = some (.cells #[pv b u, v] 108 (0, 0))) (hown : w.ownsRow 0 5 1 v n xs) (hne : v.ownBlock ≠ some b) (hb : n + t.size ≤ 140737488355328) :
    Calls Tryz.prog 60 #[.pointer (some ⟨b, 0, none⟩), .string t] w fun e w' => e = .returned (.tuple #[.int .i64 t.size, .nilIface]) ∧
      ∃ v' w2, w2.ownsRow 0 5 1 v' (n + t.size) (xs ++ Lib.strCells t) ∧ GrB (ccW b u w) w2 v.ownBlock ∧ (∀ b, v'.ownBlock = some b → w.heap.size ≤ b ∨ v.ownBlock = some b) ∧ w' = w2.setCell ⟨b, 1, none⟩ v' := by
  have hbk1 : (ccW b u w).heap[b]? = some (.cells #[.pointer (some ⟨b, 0, none⟩), v] 108 (0, 0)) := by
    cases u with
    | true => exact hbk
    | false => exact (heap_setCell_same w b 0 _ 108 _ hbk).trans (by rfl)
  have hoth := ccW_other (b := b) (u := u) (w := w)
  have hown1 : (ccW b u w).ownsRow 0 5 1 v n xs := by
    obtain ⟨g1, g2⟩ := hown
    refine ⟨g1, ?_⟩
    rcases g2 with h | ⟨g, cap, cur, rfl, h2, h3, h4⟩
    · exact .inl h
    · exact .inr ⟨g, cap, cur, rfl, h2, by rw [hoth g (fun e => hne (by rw [e]; rfl))]; exact h3, h4⟩
  have hsz1 : (ccW b u w).heap.size = w.heap.size := by
    cases u with
    | true => rfl
    | false => simp [ccW]
  obtain ⟨i0, hi, hi2⟩ := Option.map_eq_some_iff.1 (show (Tryz.prog.info? 5).map (fun i => (i.zero, i.size, i.bytes)) = some (some (.int .u8 0), 1, 1) by kernel_rfl)
  have hz0 : i0.zero = some (.int .u8 0) := by simpa using congrArg (·.1) hi2
  have hz1 : i0.size = 1 := by simpa using congrArg (·.2.1) hi2
  have hz2 : i0.bytes = 1 := by simpa using congrArg (·.2.2) hi2
  have t50 : Tryz.prog.underlying 50 = some (.slice 5) := by kernel_rfl
  have t9 : Tryz.prog.underlying 9 = some .string := by kernel_rfl
  have c0 : (ccW b u w).cell? ⟨b, 0, none⟩ = some (.pointer (some ⟨b, 0, none⟩)) := by rw [Lib.cell_of_heap hbk1]; rfl
  have c1 : (ccW b u w).cell? ⟨b, 1, none⟩ = some v := by rw [Lib.cell_of_heap hbk1]; rfl
  go_enter Tryz.func60, Tryz.ntmps60
  go_wp2_with (go_at_call 119; refine (copyCheck_all b u v w hbk).mono ?_)
  rintro e w1 ⟨rfl, rfl⟩
  go_wp2_with (at_builtin; refine wpList_app_str rfl _ _ 50 9 rfl 5 i0 t50 t9 hi hz0 hz1 hz2 v n xs rfl hown1 t rfl hb ?_)
  intro v' w2 hown2 hg hfr
  have hb2 : w2.heap[b]? = some (.cells #[.pointer (some ⟨b, 0, none⟩), v] 108 (0, 0)) := by
    rw [hg.block b (by rw [hsz1]; exact (Array.getElem?_eq_some_iff.1 hbk).1) (fun e => hne e.symm)]
    exact hbk1
  have d1 : w2.cell? ⟨b, 1, none⟩ = some v := by rw [Lib.cell_of_heap hb2]; rfl
  have f1 : w2.frozen? ⟨b, 1, none⟩ = false := Lib.frozen_of_heap hb2 1
  obtain ⟨ao, n', cap, rfl⟩ : ∃ ao n' cap, v' = .slice ao n' cap := by
    rcases hown2.2 with ⟨hv, _⟩ | ⟨g, cap, cur, hv, _⟩
    · exact ⟨_, _, _, hv⟩
    · exact ⟨_, _, _, hv⟩
  go_wp2
  go_ret2
  exact ⟨rfl, _, w2, hown2, hg, hfr, rfl⟩
end Go.Gv
