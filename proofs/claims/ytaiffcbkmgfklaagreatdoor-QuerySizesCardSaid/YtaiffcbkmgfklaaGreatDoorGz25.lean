/- A part of the framework and of the walks: W67 W43 W3 W30 C3 W38 V9 V10 V14 W79 Asm5. -/
import Derived.Recover
import Derived.Tactics2
import Derived.Test.YtaiffcbkmgfklaaGreatDoorGz19
import Derived.Test.YtaiffcbkmgfklaaGreatDoorGz24
import Derived.Test.YtaiffcbkmgfklaaGreatDoorGz17
import Derived.Test.YtaiffcbkmgfklaaGreatDoorGz18
import Derived.Test.YtaiffcbkmgfklaaGreatDoorGz16
import Derived.Test.YtaiffcbkmgfklaaGreatDoorGz15
import Derived.Test.YtaiffcbkmgfklaaGreatDoorGz23
import Derived.Test.YtaiffcbkmgfklaaGreatDoorGz13
import Derived.Test.YtaiffcbkmgfklaaGreatDoorGz22
import Derived.Test.YtaiffcbkmgfklaaGreatDoorGz21

namespace Go.Gv
set_option linter.unusedSimpArgs false
set_option linter.unusedVariables false
set_option maxRecDepth 100000
open Cod (enc dec)
open Go.Proofs
/-- The deferred function where nothing panicked. -/
theorem idle_Parse (v2 v3 v4 : Value) (w : World) : CallsD Tryz.prog 27 #[v2, v3, v4] .returning w fun e u' w' => e = .returned (.tuple #[]) ∧ u' = .returning ∧ w' = w := by
  refine callsD_of_wpS Tryz.func27 rfl fun c₀ cs hu => ?_
  apply wpS_seq
  apply wpS_region
  simp [wpOpsS, go_sem, recoverD, hu, Tryz.ntmps27, Exit.thenS]
  apply wpS_seq
  apply wpS_region
  simp [wpOpsS, go_sem, recoverD, hu, Tryz.ntmps27, Exit.thenS]
  refine wpS_cond (t := false) (by simp [Act.eval, Array.replicate]) ?_
  simp only [Bool.false_eq_true, if_false]
  refine wpS_of_wp (wp_skip ?_)
  cases c₀
  simp_all [bodyPostS, results, Tryz.results27]

/-! ### The parts of its text -/
def ccPA : CC := .reg [.op (some 2) none (.alloc 38 [(.int .i64 0), (.int .i64 0), (.string ⟨#[]⟩), (.string ⟨#[]⟩), (.string ⟨#[]⟩), (.string ⟨#[]⟩), (.bool false), (.slice none 0 0), (.string ⟨#[]⟩), (.string ⟨#[]⟩), (.int .i64 0), (.int .i64 0), (.slice none 0 0), (.int .i64 0), (.string ⟨#[]⟩), (.string ⟨#[]⟩), (.string ⟨#[]⟩), (.string ⟨#[]⟩), (.string ⟨#[]⟩), (.bool false), (.int .i64 0), (.int .i64 0), (.slice none 0 0), (.slice none 0 0), (.slice none 0 0), (.int .i64 0)]), .op (some 3) none (.alloc 3 [(.int .i64 0)]), .op (some 4) none (.alloc 39 [(.int .i64 0)])]
def ccPB : CC := .seq (.reg [.op (some 5) none (.mv (.tmp 0)), .op (some 6) none (.slen (.tmp 5)), .op (some 7) none (.cmp .gtr (.tmp 6) (.const (.int .i64 400)))])
  (.keep [0, 2, 3, 4, 7] [2, 3, 4] (.ite (.tmp 7) (.seq (.reg [.op (some 8) none (.build [(.int .i64 0), (.int .i64 0), (.string ⟨#[]⟩), (.string ⟨#[]⟩), (.string ⟨#[]⟩), (.string ⟨#[]⟩), (.bool false), (.slice none 0 0), (.string ⟨#[]⟩), (.string ⟨#[]⟩), (.int .i64 0), (.int .i64 0), (.slice none 0 0), (.int .i64 0), (.string ⟨#[]⟩), (.string ⟨#[]⟩), (.string ⟨#[]⟩), (.string ⟨#[]⟩), (.string ⟨#[]⟩), (.bool false), (.int .i64 0), (.int .i64 0), (.slice none 0 0), (.slice none 0 0), (.slice none 0 0), (.int .i64 0)] []), .op none none (.store none 26 (.tmp 2) (.tmp 8)), .op none none (.store none 1 (.tmp 3) (.const (.int .i64 0))), .op none none (.store none 1 (.tmp 4) (.const (.int .i64 2)))]) .ret) .skip))
def ccPD : CC := .keep [0, 2, 3, 4] [2, 3, 4] (.seq (.reg [.op (some 10) none (.mv (.tmp 0)), .op (some 11) none (.build [(.string ⟨#[]⟩), (.int .i64 0), (.int .i64 0), (.string ⟨#[]⟩), (.int .i64 0)] [(0, 1, (.tmp 10))]), .op (some 12) none (.box 69 false (.tmp 11)),
  .op (some 13) none (.call f_query_reader_query [(.tmp 12)]), .op none none (.store none 26 (.tmp 2) (.tmp 13)), .op none none (.store none 1 (.tmp 3) (.const (.int .i64 0))), .op none none (.store none 1 (.tmp 4) (.const (.int .i64 0)))]) .ret)
def rsP : List CRes := [.cell 2 true 26, .cell 3 false 1, .cell 4 false 1]
def codeA : Code → Option Code
  | .seq a _ => some a
  | _ => none
def codeB : Code → Option Code
  | .seq _ (.seq a _) => some a
  | _ => none
def codeD : Code → Option Code
  | .seq _ (.seq _ (.seq _ a)) => some a
  | _ => none
theorem ok_PA : ((Tryz.f11.body.bind codeA).bind fun c => compileC Tryz.prog [] 14 c) = some (strip ccPA) := by kernel_rfl
theorem ok_PB : ((Tryz.f11.body.bind codeB).bind fun c => compileC Tryz.prog [] 14 c) = some (strip ccPB) := by kernel_rfl
theorem ok_PD : ((Tryz.f11.body.bind codeD).bind fun c => compileC Tryz.prog [] 14 c) = some (strip ccPD) := by kernel_rfl
theorem ok_PR : Tryz.f11.results.toList.mapM (compileRes Tryz.prog) = some rsP := by kernel_rfl
def nrm (F : Sg → HMap → Prop) : Ex → Sg → HMap → Prop
  | .norm, σ, H => F σ H
  | _, _, _ => False
def VP (S : Nat → Spc) (Q : D → HMap → Prop) (ds : List D) (H0 : HMap) : Prop :=
  vc S ccPA (nrm fun σ H => vc S ccPB (nrm fun σ H => vc S ccPD (fun e σ H => match e with | .ret => resL rsP σ H fun ds => Q (oneOrTup ds) H | _ => False) (upd σ 9 .any) H) σ H) (initS ds) H0
theorem St.defer {E : Env} {σ : Sg} {H : HMap} {a : Act} {w : World} (h : St E σ H a w) (x : Value) (dl : List Deferred) (h9 : 9 < E.N) : St { E with ds := dl } (upd σ 9 .any) H { (a.put (some 9) x) with defers := dl } w := by
  obtain ⟨h1, h2, tp, h3, h4⟩ := h
  refine ⟨rfl, by rw [← h2]; simp [Act.put], tp, ⟨h3.1, h3.2, h3.3, h3.4, h3.5, h3.6, h3.7⟩, fun t => ?_⟩
  have := rel_put (σ := σ) (Q := R tp (Imm E.O tp H w) w) (a := a) h2 h4 (some 9) (fun t ht => by cases ht; exact h9) (x := x) (d := .any) (.any x) t
  exact this
theorem results_pf {S : Nat → Spc} (hS : ∀ f, Tri Tryz.prog f (S f).pt) (E : Env) (ds' : List D) (H0 : HMap) (Q : D → HMap → Prop) (vs : List Value) (w : World) (R : Ending → World → Prop) (hds : E.ds = []) (hN : E.N = 14)
    (hst : St E (initS ds') H0 { tmps := vs.toArray ++ Array.replicate (Tryz.f11.ntmps - vs.toArray.size) undef, defers := [] } w) (hV : VP S Q ds' H0)
    (hfin : ∀ (a' : Act) (w' : World) (σ' : Sg) (H' : HMap) (dl : List Deferred), St { E with ds := dl } σ' H' a' w' → (resL rsP σ' H' fun ds => Q (oneOrTup ds) H') → ∃ v, (results Tryz.f11 a'.tmps).run Tryz.prog w' = .ok v w' ∧ R (.returned v) w') : Calls Tryz.prog 11 vs.toArray w R := by
  have hmf : ∀ (fn : Fn) (first cap : Array Value) (w : World), (Instr.makeFunc fn first cap).run Tryz.prog w = .ok (.func fn first cap) w := fun _ _ _ _ => rfl
  refine calls_of_wp_defers Tryz.func11 rfl ?_
  apply wp_seq
  refine wp_mono (vc_sound (E := E) (im := []) hS mixed ccPA _ (by rw [hN]; exact ok_PA) _ _ _ _ _ hst hV) ?_
  intro e a1 w1 hP
  cases e with
  | normal => ?_
  | ret => obtain ⟨_, _, _, h⟩ := hP; exact h.elim
  | exit i => obtain ⟨_, _, _, h⟩ := hP; exact h.elim
  | _ => exact hP.elim
  obtain ⟨σ1, H1, hst1, hV1⟩ := hP
  apply wp_seq
  refine wp_mono (vc_sound (E := E) (im := []) hS mixed ccPB _ (by rw [hN]; exact ok_PB) _ _ _ _ _ hst1 hV1) ?_
  intro e a2 w2 hP
  cases e with
  | normal => ?_
  | ret => obtain ⟨_, _, _, h⟩ := hP; exact h.elim
  | exit i => obtain ⟨_, _, _, h⟩ := hP; exact h.elim
  | _ => exact hP.elim
  obtain ⟨σ2, H2, hst2, hV2⟩ := hP
  apply wp_seq
  have hsz : a2.tmps.size = 14 := by rw [hst2.2.1, hN]
  have hde : a2.defers = [] := by rw [hst2.1, hds]
  refine wp_region_list ?_
  refine wpList_plain rfl fun K hK => ?_
  simp [go_sem, hmf]
  refine hK _ _ ?_
  refine wpList_plain rfl fun K hK => ?_
  simp [go_sem, hsz]
  refine hK _ _ ?_
  refine wpList_nil ?_
  have hst3 := St.defer hst2 (Value.func (Fn.func 27) #[] #[a2.tmps[2], a2.tmps[3], a2.tmps[4]]) ({ target := Target.fn (Fn.func 27) #[a2.tmps[2], a2.tmps[3], a2.tmps[4]], args := #[] } :: a2.defers) (by rw [hN]; decide)
  refine wp_mono (vc_sound (E := { E with ds := { target := Target.fn (Fn.func 27) #[a2.tmps[2], a2.tmps[3], a2.tmps[4]], args := #[] } :: a2.defers }) (im := []) hS mixed ccPD _ (by show compileC _ _ E.N _ = _; rw [hN]; exact ok_PD) _ _ _ _ _ hst3 hV2) ?_
  intro e a3 w3 hP
  cases e with
  | ret => ?_
  | normal => obtain ⟨_, _, _, h⟩ := hP; exact h.elim
  | exit i => obtain ⟨_, _, _, h⟩ := hP; exact h.elim
  | _ => exact hP.elim
  obtain ⟨σ3, H3, hst4, hres⟩ := hP
  show Leaves Tryz.prog Tryz.f11 a3.tmps R a3.defers .returning w3
  have hd3 : a3.defers = { target := Target.fn (Fn.func 27) #[a2.tmps[2], a2.tmps[3], a2.tmps[4]], args := #[] } :: a2.defers := hst4.1
  rw [hd3, hde]
  refine leaves_cons (f := 27) (args := #[a2.tmps[2], a2.tmps[3], a2.tmps[4]]) (by simp) (by simp [go_sem]) ?_
  refine (idle_Parse _ _ _ w3).mono ?_
  rintro e u' w'' ⟨rfl, rfl, rfl⟩
  obtain ⟨v, h1, h2⟩ := hfin a3 w'' σ3 H3 _ hst4 hres
  exact ⟨v, h1, h2⟩
/-- What Parse gives (n: how deep). -/
def Q_qParse (n : Nat) (s : B) (y : Qry × Int × Int) : Prop := ∃ s' q, queryR n ⟨s, 0, 0, E0, 0⟩ = some (s', q) ∧ y = (q, 0, 0)
abbrev s_qParse (n : Nat) : Spc := spc (a1 B) (fun s => s.size ≤ 400 ∧ ∃ r, queryR n ⟨s, 0, 0, E0, 0⟩ = some r) (er3 (Y := Qry) (Z := Int) (W := Int)) (Q_qParse n)
theorem v_Parse {S : Nat → Spc} (n : Nat) (h : S f_query_reader_query = s_rquery n) (s : B) (hp : s.size ≤ 400 ∧ ∃ r, queryR n ⟨s, 0, 0, E0, 0⟩ = some r) : VP S (fun r H' => Fin (er3 (Y := Qry) (Z := Int) (W := Int)) (Q_qParse n s) r H') ((a1 B).view s) noH := by
  obtain ⟨hsz, ⟨s', q⟩, hq⟩ := hp
  have hsz' : ¬ (400 : Int) < s.size := by omega
  simp [VP, ccPA, ccPB, ccPD, rsP, nrm, hsz', h, hq]
  intro b b1 b2 _ b3
  have hq' : queryR n { txt := s, fin := 0, kind := 0, text := { data := #[] }, pos := 0 } = some (s', q) := hq
  rw [hq']
  exact ⟨q, .same _, s', q, hq, rfl⟩
theorem enter_Parse : CallEnter Tryz.prog f_query_Parse := callEnter Tryz.func11 (by kernel_rfl) rfl
theorem t_query_Parse {S : Nat → Spc} (hS : ∀ f, Tri Tryz.prog f (S f).pt) (n : Nat) (h : S f_query_reader_query = s_rquery n) : Tri Tryz.prog f_query_Parse (s_qParse n).pt :=
  tri_run (V := VP S) enter_Parse (N := 14) rfl ok_PR (fun x => by simp) (fun E ds' H0 Q vs w R h1 h2 _ h3 h4 h5 => results_pf hS E ds' H0 Q vs w R h1 h2 h3 h4 h5) (v_Parse n h)
end Go.Gv

namespace Go.Gv
set_option linter.unusedSimpArgs false
set_option linter.unusedVariables false
set_option maxRecDepth 100000
open Cod (enc dec)
variable {S S0 : Nat → Spc}
abbrev s_m_PatternA : Spc := spc (aT (a2 Int (List B))) (fun x => -10 ≤ x.2.1 ∧ x.2.1 ≤ 100 ∧ x.2.2.length ≤ 1000) (enc (X := Pat)) Q_pat
end Go.Gv

namespace Go.Gv
set_option linter.unusedSimpArgs false
set_option linter.unusedVariables false
set_option maxRecDepth 100000
open Cod (enc dec)
variable {S S0 : Nat → Spc}

end Go.Gv

namespace Go.Gv
set_option linter.unusedSimpArgs false
set_option linter.unusedVariables false
set_option maxRecDepth 100000
open Cod (enc dec)
variable {S S0 : Nat → Spc}
end Go.Gv

namespace Go.Gv
open Go.Proofs

end Go.Gv

namespace Go.Gv
set_option linter.unusedSimpArgs false
set_option linter.unusedVariables false
set_option maxRecDepth 100000
open Cod (enc dec)
variable {S S0 : Nat → Spc}
end Go.Gv

namespace Go.Gv
set_option linter.unusedSimpArgs false
end Go.Gv

namespace Go.Gv
set_option linter.unusedSimpArgs false
set_option linter.unusedVariables false
theorem validN_small {s : B} {c d : UInt8} (h : s = ⟨#[c]⟩ ∨ s = ⟨#[c, d]⟩) (hc : begB c.toNat = true) (hd : begB d.toNat = true) : validN s = true := by
  refine (validN_iff s).2 ?_
  have hc' : conB c.toNat = true := by unfold conB; rw [hc]; rfl
  have hd' : conB d.toNat = true := by unfold conB; rw [hd]; rfl
  rcases h with rfl | rfl
  · refine ⟨by show 1 ≤ 1; decide, by show 1 ≤ 32; decide, fun x hx => ?_, fun k x hx => ?_⟩
    · cases hx; exact hc
    · rcases k with _ | k
      · cases hx; exact hc'
      · simp at hx
  · refine ⟨by show 1 ≤ 2; decide, by show 2 ≤ 32; decide, fun x hx => ?_, fun k x hx => ?_⟩
    · cases hx; exact hc
    · rcases k with _ | _ | k
      · cases hx; exact hc'
      · cases hx; exact hd'
      · simp at hx
theorem validN_gen : validN b_s = true ∧ validN b_np = true ∧ validN b_t = true ∧ validN b_x = true ∧ validN b_y = true :=
  ⟨validN_small (c := 115) (d := 115) (.inl rfl) (by decide) (by decide), validN_small (c := 110) (d := 112) (.inr rfl) (by decide) (by decide), validN_small (c := 116) (d := 116) (.inl rfl) (by decide) (by decide),
   validN_small (c := 120) (d := 120) (.inl rfl) (by decide) (by decide), validN_small (c := 121) (d := 121) (.inl rfl) (by decide) (by decide)⟩
def seqP (ks : List Pat) : Pat := ⟨4, Cond0, ⟨#[]⟩, ⟨#[]⟩, 0, 0, ks⟩
theorem labOk_nil : LabOk [] := fun l h => by simp at h
end Go.Gv

namespace Go.Gv
set_option linter.unusedSimpArgs false
set_option linter.unusedVariables false
/-- Widths of generated patterns are small. -/
theorem wp_wid {lb : List B} : ∀ n p, WP lb n p → n ≤ 4 → 0 ≤ (widP p).1 ∧ (widP p).1 ≤ 3 ^ n ∧ -1 ≤ (widP p).2 ∧ (widP p).2 ≤ 3 ^ n := by
  refine wp_ind fun n p hp ih hn => ?_
  have hb : (1 : Int) ≤ 3 ^ n := Int.pow_pos (by omega)
  rcases wp_cases hp with (⟨h1, h2, h3, h4, h5, h6⟩ | ⟨h1, h2, h3, h4, h5, h6, h7⟩) | ⟨m, rfl, (⟨h1, h2, h3, h4, h5, h6, a, b, h7, _⟩ | ⟨h1, h2, h3, h4, h5, a, h7, _⟩)⟩
  · rw [widP1 h1]; simp only; omega
  · rw [widP2 h1]; simp only; omega
  · obtain ⟨m1, e1, _, a1⟩ := ih a (by rw [h7]; simp)
    obtain ⟨m2, e2, _, a2⟩ := ih b (by rw [h7]; simp)
    have e1 : m1 = m := by omega
    have e2 : m2 = m := by omega
    subst e1; subst e2
    have a1 := a1 (by omega)
    have a2 := a2 (by omega)
    rw [widP4 h1 h7, Int.pow_succ]
    have : (3 : Int) ^ m2 ≤ 81 := by
      have : m2 = 0 ∨ m2 = 1 ∨ m2 = 2 ∨ m2 = 3 ∨ m2 = 4 := by omega
      rcases this with rfl | rfl | rfl | rfl | rfl <;> decide
    simp only [widPs, widC]
    generalize (3 : Int) ^ m2 = t at *
    generalize widP a = u at *
    generalize widP b = v at *
    obtain ⟨u1, u2⟩ := u
    obtain ⟨v1, v2⟩ := v
    simp only at *
    split <;> split <;> simp only <;> omega
  · obtain ⟨m1, e1, _, a1⟩ := ih a (by rw [h7]; simp)
    have e1 : m1 = m := by omega
    subst e1
    have a1 := a1 (by omega)
    rw [widP6 h1 h7, Int.pow_succ]
    have : (3 : Int) ^ m1 ≤ 81 := by
      have : m1 = 0 ∨ m1 = 1 ∨ m1 = 2 ∨ m1 = 3 ∨ m1 = 4 := by omega
      rcases this with rfl | rfl | rfl | rfl | rfl <;> decide
    simp only [Reps, List.mem_cons, Prod.mk.injEq, List.not_mem_nil, or_false] at h5
    generalize (3 : Int) ^ m1 = t at *
    generalize widP a = u at *
    obtain ⟨u1, u2⟩ := u
    simp only at *
    rcases h5 with ⟨e1, e2⟩ | ⟨e1, e2⟩ | ⟨e1, e2⟩ | ⟨e1, e2⟩ | ⟨e1, e2⟩ | ⟨e1, e2⟩ | ⟨e1, e2⟩ <;> rw [e1, e2] <;> simp <;> (repeat' split) <;> omega
def altP (ks : List Pat) : Pat := ⟨5, Cond0, ⟨#[]⟩, ⟨#[]⟩, 0, 0, ks⟩
/-- Two generated patterns, one behind the other, or one or the other. -/
theorem two_sizes {p r : Pat} (hp : WP [] 2 p) (hr : WP [] 2 r) :
    patB validN p = true ∧ patB validN r = true ∧ patB validN (seqP [p, r]) = true ∧ patB validN (altP [p, r]) = true ∧
    sizeP (seqP [p, r]) = sizeP p + sizeP r ∧ sizeP (altP [p, r]) = sizeP p + sizeP r ∧
    widP (seqP [p, r]) = ((widP p).1 + (widP r).1, if (widP p).2 = -1 ∨ (widP r).2 = -1 then -1 else (widP p).2 + (widP r).2) ∧
    widP (altP [p, r]) = (min (widP p).1 (widP r).1, if (widP p).2 = -1 ∨ (widP r).2 = -1 then -1 else max (widP p).2 (widP r).2) := by
  have hs : WP [] 3 (seqP [p, r]) := .inr (.inl ⟨.inl rfl, rfl, rfl, rfl, rfl, rfl, p, r, rfl, hp, hr⟩)
  have ha : WP [] 3 (altP [p, r]) := .inr (.inl ⟨.inr rfl, rfl, rfl, rfl, rfl, rfl, p, r, rfl, hp, hr⟩)
  have s1 := wp_size 2 p hp (by omega)
  have s2 := wp_size 2 r hr (by omega)
  have w1 := wp_wid 2 p hp (by omega)
  have w2 := wp_wid 2 r hr (by omega)
  refine ⟨wp_patB labOk_nil validN_gen 2 p hp (by omega), wp_patB labOk_nil validN_gen 2 r hr (by omega), wp_patB labOk_nil validN_gen 3 _ hs (by omega), wp_patB labOk_nil validN_gen 3 _ ha (by omega), ?_, ?_, ?_, ?_⟩
  · rw [sizeP_eq, sizeN, if_neg (show ¬ (seqP [p, r]).kids = [] from fun h => by cases h), if_neg (by show ¬ (4 : Int) = 6; decide)]
    show sizePs [p, r] 0 = _
    simp only [sizePs]
    omega
  · rw [sizeP_eq, sizeN, if_neg (show ¬ (altP [p, r]).kids = [] from fun h => by cases h), if_neg (by show ¬ (5 : Int) = 6; decide)]
    show sizePs [p, r] 0 = _
    simp only [sizePs]
    omega
  · rw [widP4 (p := seqP [p, r]) (.inl rfl) rfl, show decide ((seqP [p, r]).op = 4) = true from rfl]
    simp only [widPs, widC]
    generalize widP p = u at *
    generalize widP r = v at *
    obtain ⟨u1, u2⟩ := u
    obtain ⟨v1, v2⟩ := v
    simp only at *
    refine Prod.ext ?_ ?_ <;> simp <;> (repeat' split) <;> omega
  · rw [widP4 (p := altP [p, r]) (.inr rfl) rfl, show decide ((altP [p, r]).op = 4) = false from rfl]
    simp only [widPs, widC]
    generalize widP p = u at *
    generalize widP r = v at *
    obtain ⟨u1, u2⟩ := u
    obtain ⟨v1, v2⟩ := v
    simp only at *
    refine Prod.ext ?_ ?_ <;> simp <;> (repeat' split) <;> omega
end Go.Gv

namespace Go.Gv
set_option linter.unusedSimpArgs false
set_option linter.unusedVariables false
set_option maxRecDepth 100000
open Cod (enc dec)
variable {S S0 : Nat → Spc}
def knownY : Qry := ⟨knownP, GlobE, [], 0⟩
theorem known_wp : WP [] 1 knownP := .inr (.inl ⟨.inl rfl, rfl, rfl, rfl, rfl, rfl, _, _, rfl, wp0 (.inr ⟨.inl rfl, rfl, rfl, by simp [Types, b_s], rfl, rfl, rfl⟩), wp0 (.inl ⟨rfl, .inl rfl, rfl, rfl, rfl, rfl⟩)⟩)
theorem known_pat : patB validN knownP = true := wp_patB labOk_nil validN_gen 1 _ known_wp (by omega)
theorem known_leaves : leavesP knownP = [⟨1, ⟨2, ⟨#[119, 111, 114, 100]⟩, E0, ⟨#[84, 104, 101]⟩, E0, true, []⟩, E0, E0, 0, 0, []⟩] := by
  rw [leavesP_eq, if_neg (by decide)]
  show [_, _].flatMap leavesP = _
  simp only [List.flatMap_cons, List.flatMap_nil, List.append_nil]
  rw [leavesP_eq, if_neg (by decide), leavesP_eq, if_pos rfl]
  rfl
theorem known_text : patT 10 knownP = some knownQ := by kernel_rfl
theorem known_fmt : FmtP 10 knownY := by
  have h := known_pat
  unfold patB at h
  simp only [Bool.and_eq_true] at h
  refine ⟨by rw [Bool.and_eq_true]; exact h.1.1, rfl, rfl, rfl, ⟨?_, ?_⟩, ?_, knownQ, known_text, by unfold LIMW; decide, by decide⟩
  · show 0 + (leavesP knownP).length ≤ _
    rw [known_leaves]
    decide
  · intro y hy
    have hy : y ∈ leavesP knownP := hy
    rw [known_leaves] at hy
    simp only [List.mem_singleton] at hy
    subst hy
    exact ⟨1, by show 0 ≤ 1000000; decide, fun k hk => by simp at hk⟩
  · intro x hx
    have hx : x ∈ (leavesP knownP).map cloneP := hx
    rw [known_leaves] at hx
    simp only [List.map_cons, List.map_nil, List.mem_singleton] at hx
    subst hx
    exact ⟨rfl, rfl, rfl, rfl⟩
theorem known_size : sizeP knownP = 2 := by kernel_rfl
abbrev s_known23 : Spc := spc a0 (fun _ => True) (enc (X := Bool)) fun _ y => y = true
theorem w_law23_known (h1 : S f_query_Parse = s_qParse 10) (h2 : S f_query_Size = s_r23_Size) (h3 : S f_query_Format = s_Format 10) : Walk cc_law23_known rs_law23_known S a0 (fun _ => True) (enc (X := Bool)) fun _ y => y = true := by
  rintro ⟨⟩ -
  have e1 : (⟨#[60, 115, 62, 32, 91, 119, 111, 114, 100, 61, 34, 84, 104, 101, 34, 37, 99, 93]⟩ : B) = knownQ := rfl
  simp [cc_law23_known, rs_law23_known, h1, h2, h3, -Bool.forall_bool, -Bool.exists_bool]
  rw [e1]
  refine ⟨⟨by decide, _, _, known_read⟩, fun a k e hq => ?_⟩
  obtain ⟨s', q, hq1, hq2⟩ := hq
  have hr := known_read
  rw [show (⟨knownQ, 0, 0, E0, 0⟩ : Rdr) = { txt := knownQ, fin := 0, kind := 0, text := E0, pos := 0 } from rfl] at hr
  rw [hr] at hq1
  simp only [Option.some.injEq, Prod.mk.injEq] at hq1 hq2
  obtain ⟨_, rfl⟩ := hq1
  obtain ⟨rfl, rfl, rfl⟩ := hq2
  refine ⟨fun _ => ⟨fun _ => ⟨fun _ _ => ⟨fun _ => ⟨by decide, fun p hp => ?_⟩, rfl⟩, rfl⟩, rfl⟩, rfl⟩
  have hp : some (⟨1, ⟨2, ⟨#[119, 111, 114, 100]⟩, E0, ⟨#[84, 104, 101]⟩, E0, true, []⟩, E0, E0, 0, 0, []⟩ : Pat) = some p := hp
  cases hp
  refine ⟨fun _ => ⟨fun _ => ⟨known_fmt, fun y hy => ?_⟩, ?_⟩, rfl⟩
  · have hy : patT 10 knownP = some y := hy
    rw [known_text] at hy
    cases hy
    rfl
  · show (if patB validN knownP = true then sizeP knownP else 0) = 2
    rw [if_pos known_pat, known_size]
/-! ### QuerySizes -/
theorem w_law23_QuerySizes (h1 : S f_m_New = s_m_New) (h2 : S f_m_Tape_Pattern = s_m_PatternA) (h3 : S f_query_Width = s_Width) (h4 : S f_query_Size = s_r23_Size) (h5 : S f_law23_known = s_known23) :
    Walk cc_law23_QuerySizes rs_law23_QuerySizes S (a1 (List Int)) (fun _ => True) (enc (X := Bool)) fun _ y => y = true := by
  rintro l -
  simp [cc_law23_QuerySizes, rs_law23_QuerySizes, h1, h2, h3, h4, h5, er2, -Bool.forall_bool, -Bool.exists_bool]
  intro L p hp r hr
  have hp : WP [] 2 p := hp.1
  have hr : WP [] 2 r := hr.1
  have s1 := wp_size 2 p hp (by omega)
  have s2 := wp_size 2 r hr (by omega)
  have w1 := wp_wid 2 p hp (by omega)
  have w2 := wp_wid 2 r hr (by omega)
  obtain ⟨k1, k2, k3, k4, k5, k6, k7, k8⟩ := two_sizes hp hr
  have e4 : (⟨4, ⟨0, ⟨#[]⟩, ⟨#[]⟩, ⟨#[]⟩, ⟨#[]⟩, false, []⟩, ⟨#[]⟩, ⟨#[]⟩, 0, 0, [p, r]⟩ : Pat) = seqP [p, r] := rfl
  have e5 : (⟨5, ⟨0, ⟨#[]⟩, ⟨#[]⟩, ⟨#[]⟩, ⟨#[]⟩, false, []⟩, ⟨#[]⟩, ⟨#[]⟩, 0, 0, [p, r]⟩ : Pat) = altP [p, r] := rfl
  simp only [e4, e5, k1, k2, k3, k4, k5, k6, k7, k8, if_true, true_and, and_true, forall_const, InR]
  generalize widP p = u at *
  generalize widP r = v at *
  obtain ⟨u1, u2⟩ := u
  obtain ⟨v1, v2⟩ := v
  simp only at *
  clear k7 k8 k5 k6
  by_cases q1 : u2 = -1 <;> by_cases q2 : v2 = -1 <;> simp [q1, q2] <;> omega
end Go.Gv

namespace Go.Gv
open Go.Proofs Cod
set_option maxRecDepth 100000
set_option linter.unusedVariables false
theorem tri_ex {P : Program} {f : Nat} {A : Nat → PT} {A' : PT} (h : ∀ n, Tri P f (A n)) (hs : ∀ d ds H K, A' d ds H K → ∃ n, A n d ds H K) : Tri P f A' :=
  fun O tp w vs ds H d K a b c e g hA => (hs d ds H K hA).elim fun n hn => h n O tp w vs ds H d K a b c e g hn
theorem tri_void {P : Program} {f : Nat} {A : PT} (hs : ∀ d ds H K, ¬ A d ds H K) : Tri P f A := fun O tp w vs ds H d K a b c e g hA => absurd hA (hs d ds H K)
theorem spc_ex {X Y : Type} {A : Arg X} {pre : Nat → X → Prop} {pre' : X → Prop} {er : Y → D} {post : X → Y → Prop} (hx : ∀ x, pre' x → ∃ n, pre n x) : ∀ d ds H K, (spc A pre' er post).pt d ds H K → ∃ n, (spc A (pre n) er post).pt d ds H K := by
  intro d ds H K h
  rw [spc_pt] at h
  cases e : A.dec ds with
  | none => rw [e] at h; exact h.elim
  | some x =>
    rw [e] at h
    obtain ⟨h1, h2⟩ := h
    obtain ⟨n, hn⟩ := hx x h1
    exact ⟨n, by rw [spc_pt, e]; exact ⟨hn, h2⟩⟩
theorem spc_void {P : Program} {f : Nat} {X Y : Type} {A : Arg X} {pre : X → Prop} {er : Y → D} {post : X → Y → Prop} (hx : ∀ x, ¬ pre x) : Tri P f (spc A pre er post).pt := tri_void fun d ds H K h => by
  rw [spc_pt] at h
  cases e : A.dec ds with
  | none => rw [e] at h; exact h.elim
  | some x => rw [e] at h; exact hx x h.1
theorem pd0 {p : Pat} (h : pDep p ≤ 0) : False := by rw [pDep_eq] at h; omega
theorem rd_void {P : Program} {f : Nat} {Y Z : Type} {A : Arg Z} {er : Y → D} {F : Rdr → Z → Option (Rdr × Y)} (hx : ∀ s z, F s z = none) : Tri P f (rdF A er F).pt := tri_void fun d ds H K ⟨id, b, x, z, ds', h1, h2, h3, h4, h5, hp, h7⟩ => by
  obtain ⟨r, hr⟩ := hp
  rw [hx] at hr
  cases hr
theorem wr_void {P : Program} {f : Nat} {Z : Type} {tw el : Nat} {A : Arg Z} {r : D} {T : Z → Option ByteArray} (hx : ∀ z, T z = none) : Tri P f (wrC tw el A r T).pt := tri_void fun d ds H K ⟨id, b, x, z, ds', h1, h2, h3, h4, h5, hp, h7⟩ => by
  obtain ⟨t, ht, _⟩ := hp
  rw [hx] at ht
  cases ht
theorem t_m_Mod : Tri Tryz.prog f_m_Mod (s_m_Mod).pt :=
  tri_walk (S := tab []) (tab_ok tab_nil) ok_m_Mod (fun _ => Nat.le_of_ble_eq_true rfl) (w_m_Mod)
theorem t_m_Tape_Next : Tri Tryz.prog f_m_Tape_Next s_m_Next.pt := tri_next (S := tab [(f_m_Mod, s_m_Mod)]) (tab_ok (tab_cons t_m_Mod tab_nil)) rfl ok_m_Tape_Next (by decide)
theorem t_m_New : Tri Tryz.prog f_m_New s_m_New.pt := tri_new (tri_walkFB (S := tab []) (tab_ok tab_nil) ok_m_New (by decide) w_m_New)
theorem u_m_Type : Tri Tryz.prog f_m_Type (s_m_TypeN).pt :=
  tri_walk (S := tab [(f_m_Mod, s_m_Mod)]) (tab_ok (tab_cons t_m_Mod tab_nil)) ok_m_Type (fun _ => Nat.le_of_ble_eq_true rfl) (w_m_TypeN rfl)
theorem r_m_Tape_inner : ∀ n, Tri Tryz.prog f_m_Tape_inner (s_m_inner n).pt
  | 0 => spc_void fun x h => absurd h.1 (Nat.not_lt_zero _)
  | n + 1 => tri_walk (S := tab [(f_m_Tape_Next, s_m_Next), (f_m_Type, s_m_TypeN), (f_m_Tape_inner, s_m_inner n)]) (tab_ok (tab_cons t_m_Tape_Next (tab_cons u_m_Type (tab_cons (r_m_Tape_inner n) tab_nil)))) ok_m_Tape_inner (fun _ => Nat.le_of_ble_eq_true rfl) (w_m_inner n rfl rfl rfl)
theorem u_m_Tape_inner : Tri Tryz.prog f_m_Tape_inner (s_m_innerA).pt :=
  tri_ex (fun n => r_m_Tape_inner n) (spc_ex (fun x h => h))
theorem u_m_Tape_Cond : Tri Tryz.prog f_m_Tape_Cond (s_m_Cond).pt :=
  tri_walk (S := tab [(f_m_Tape_Next, s_m_Next), (f_m_Tape_inner, s_m_innerA)]) (tab_ok (tab_cons t_m_Tape_Next (tab_cons u_m_Tape_inner tab_nil))) ok_m_Tape_Cond (fun _ => Nat.le_of_ble_eq_true rfl) (w_m_Cond rfl rfl)
theorem r_m_Tape_Pattern : ∀ n, Tri Tryz.prog f_m_Tape_Pattern (s_m_Pattern n).pt
  | 0 => spc_void fun x h => absurd h.1 (Nat.not_lt_zero _)
  | n + 1 => tri_walk (S := tab [(f_m_Tape_Next, s_m_Next), (f_m_Type, s_m_TypeN), (f_m_Tape_Cond, s_m_Cond), (f_m_Tape_Pattern, s_m_Pattern n)]) (tab_ok (tab_cons t_m_Tape_Next (tab_cons u_m_Type (tab_cons u_m_Tape_Cond (tab_cons (r_m_Tape_Pattern n) tab_nil))))) ok_m_Tape_Pattern (fun _ => Nat.le_of_ble_eq_true rfl) (w_m_Pattern n rfl rfl rfl rfl)
theorem u_m_Tape_Pattern : Tri Tryz.prog f_m_Tape_Pattern (s_m_PatternA).pt :=
  tri_ex (fun n => r_m_Tape_Pattern n) (spc_ex (fun x h => ⟨x.2.1.toNat + 1, Nat.lt_succ_self _, h⟩))
theorem u_markup_begins : Tri Tryz.prog f_markup_begins (s_begins).pt :=
  tri_walk (S := tab []) (tab_ok tab_nil) ok_markup_begins (fun _ => Nat.le_of_ble_eq_true rfl) (w_markup_begins)
theorem u_markup_goesOn : Tri Tryz.prog f_markup_goesOn (s_goesOn).pt :=
  tri_walk (S := tab [(f_markup_begins, s_begins)]) (tab_ok (tab_cons u_markup_begins tab_nil)) ok_markup_goesOn (fun _ => Nat.le_of_ble_eq_true rfl) (w_markup_goesOn rfl)
theorem u_markup_ValidName : Tri Tryz.prog f_markup_ValidName (s_validN).pt :=
  tri_walk (S := tab [(f_markup_begins, s_begins), (f_markup_goesOn, s_goesOn)]) (tab_ok (tab_cons u_markup_begins (tab_cons u_markup_goesOn tab_nil))) ok_markup_ValidName (fun _ => Nat.le_of_ble_eq_true rfl) (w_markup_ValidName rfl rfl)
theorem u_query_zero : Tri Tryz.prog f_query_zero (s_zero).pt :=
  tri_walk (S := tab []) (tab_ok tab_nil) ok_query_zero (fun _ => Nat.le_of_ble_eq_true rfl) (w_query_zero)
theorem u_query_node : Tri Tryz.prog f_query_node (s_node).pt :=
  tri_walk (S := tab [(f_query_zero, s_zero)]) (tab_ok (tab_cons u_query_zero tab_nil)) ok_query_node (fun _ => Nat.le_of_ble_eq_true rfl) (w_query_node rfl)
theorem u_query_named : Tri Tryz.prog f_query_named (s_named).pt :=
  tri_walk (S := tab [(f_markup_ValidName, s_validN)]) (tab_ok (tab_cons u_markup_ValidName tab_nil)) ok_query_named (fun _ => Nat.le_of_ble_eq_true rfl) (w_query_named rfl)
theorem u_query_ranged : Tri Tryz.prog f_query_ranged (s_ranged).pt :=
  tri_walk (S := tab []) (tab_ok tab_nil) ok_query_ranged (fun _ => Nat.le_of_ble_eq_true rfl) (w_query_ranged)
def N31 : Nat → Spc := tab [(f_query_node, s_node), (f_query_named, s_named), (f_query_ranged, s_ranged)]
def Sh1 (n : Nat) : Nat → Spc := tab [(f_query_shallow_1, s_sh1 n)]
theorem con_of {S : Nat → Spc} (h : ∀ f, Tri Tryz.prog f (S f).pt) : Tri Tryz.prog f_slices_ContainsFunc_Pattern (s_ConP S).pt :=
  tri_walk (S := tab [(f_slices_IndexFunc_Pattern, s_IdxP S)]) (tab_ok (tab_cons (tri_walk (S := S) h ok_slices_IndexFunc_Pattern (fun _ => Nat.le_of_ble_eq_true rfl) w_slices_IndexFunc_Pattern) tab_nil)) ok_slices_ContainsFunc_Pattern (fun _ => Nat.le_of_ble_eq_true rfl) (w_slices_ContainsFunc_Pattern rfl)
theorem r_query_shallow : ∀ n, Tri Tryz.prog f_query_shallow (s_shallow n).pt
  | 0 => spc_void fun x h => pd0 h.1
  | n + 1 =>
    have h1 : Tri Tryz.prog f_query_shallow_1 (s_sh1 n).pt := tri_walk (S := tab [(f_query_shallow, s_shallow n)]) (tab_ok (tab_cons (r_query_shallow n) tab_nil)) ok_query_shallow_1 (fun _ => Nat.le_of_ble_eq_true rfl) (w_query_shallow_1 n rfl)
    tri_walk (S := tab [(f_slices_ContainsFunc_Pattern, s_ConP (Sh1 n))]) (tab_ok (tab_cons (con_of (S := Sh1 n) (tab_ok (tab_cons h1 tab_nil))) tab_nil)) ok_query_shallow (fun _ => Nat.le_of_ble_eq_true rfl) (w_query_shallow (S0 := Sh1 n) n rfl rfl)
theorem u_query_shallow : Tri Tryz.prog f_query_shallow (s_shallowA).pt :=
  tri_ex (fun n => r_query_shallow n) (spc_ex (fun x h => ⟨pDep x.1, Nat.le_refl _, h⟩))
def Ev1 (n : Nat) : Nat → Spc := tab [(f_query_every_1, s_ev1 N31 n)]
def Ev2 (n : Nat) : Nat → Spc := tab [(f_slices_ContainsFunc_Pattern, s_ConP (Ev1 n)), (f_query_node, s_node), (f_query_named, s_named), (f_query_ranged, s_ranged)]
theorem n31_ev2 (n : Nat) (d : D) (f : Pat → Bool) (h : FunIs N31 d f) : FunIs (Ev2 n) d f := by
  obtain ⟨g, c, pc, a, b, e⟩ := h
  refine ⟨g, c, pc, a, ?_, e⟩
  by_cases hg : g = f_slices_ContainsFunc_Pattern
  · subst hg
    have : N31 f_slices_ContainsFunc_Pattern = Spc.none := rfl
    rw [this] at b
    cases b
  · rw [← b]
    unfold Ev2 N31
    rw [tab, if_neg hg]
theorem r_query_every : ∀ n, Tri Tryz.prog f_query_every (s_every N31 n).pt
  | 0 => spc_void fun x h => by obtain ⟨f, h1, h2⟩ := h; exact pd0 h2
  | n + 1 =>
    have h1 : Tri Tryz.prog f_query_every_1 (s_ev1 N31 n).pt := tri_walk (S := tab [(f_query_every, s_every N31 n)]) (tab_ok (tab_cons (r_query_every n) tab_nil)) ok_query_every_1 (fun _ => Nat.le_of_ble_eq_true rfl) (w_query_every_1 (S0 := N31) n rfl)
    tri_walk (S := Ev2 n) (tab_ok (tab_cons (con_of (S := Ev1 n) (tab_ok (tab_cons h1 tab_nil))) (tab_cons u_query_node (tab_cons u_query_named (tab_cons u_query_ranged tab_nil))))) ok_query_every (fun _ => Nat.le_of_ble_eq_true rfl) (w_query_every (S0 := Ev1 n) (N := N31) n (n31_ev2 n) rfl rfl)
theorem u_query_every : Tri Tryz.prog f_query_every (s_everyA N31).pt :=
  tri_ex (fun n => r_query_every n) (spc_ex (fun x h => by obtain ⟨f, h⟩ := h; exact ⟨pDep x.1, f, h, Nat.le_refl _⟩))
theorem u_query_Shape : Tri Tryz.prog f_query_Shape (s_Shape).pt :=
  tri_walk (S := tab [(f_query_shallow, s_shallowA), (f_query_every, s_everyA N31)]) (tab_ok (tab_cons u_query_shallow (tab_cons u_query_every tab_nil))) ok_query_Shape (fun _ => Nat.le_of_ble_eq_true rfl) (w_query_Shape (N := N31) rfl rfl rfl)
theorem u_query_right : Tri Tryz.prog f_query_right (s_r23_IsPattern).pt :=
  tri_walk (S := tab [(f_query_Shape, s_Shape), (f_query_every, s_everyA N31)]) (tab_ok (tab_cons u_query_Shape (tab_cons u_query_every tab_nil))) ok_query_right (fun _ => Nat.le_of_ble_eq_true rfl) (w_query_right (N := N31) rfl rfl rfl rfl)
theorem r_query_size : ∀ n, Tri Tryz.prog f_query_size (s_size n).pt
  | 0 => spc_void fun x h => pd0 h.1
  | n + 1 => tri_walk (S := tab [(f_query_size, s_size n)]) (tab_ok (tab_cons (r_query_size n) tab_nil)) ok_query_size (fun _ => Nat.le_of_ble_eq_true rfl) (w_query_size n rfl)
theorem u_query_size : Tri Tryz.prog f_query_size (s_sizeA).pt :=
  tri_ex (fun n => r_query_size n) (spc_ex (fun x h => ⟨pDep x, Nat.le_refl _, h⟩))
theorem r_query_width : ∀ n, Tri Tryz.prog f_query_width (s_width n).pt
  | 0 => spc_void fun x h => pd0 h.1
  | n + 1 => tri_walk (S := tab [(f_query_width, s_width n)]) (tab_ok (tab_cons (r_query_width n) tab_nil)) ok_query_width (fun _ => Nat.le_of_ble_eq_true rfl) (w_query_width n rfl)
theorem u_query_width : Tri Tryz.prog f_query_width (s_widthA).pt :=
  tri_ex (fun n => r_query_width n) (spc_ex (fun x h => ⟨pDep x, Nat.le_refl _, h⟩))
theorem u_query_Size : Tri Tryz.prog f_query_Size (s_r23_Size).pt :=
  tri_walk (S := tab [(f_query_right, s_r23_IsPattern), (f_query_size, s_sizeA)]) (tab_ok (tab_cons u_query_right (tab_cons u_query_size tab_nil))) ok_query_Size (fun _ => Nat.le_of_ble_eq_true rfl) (w_query_Size rfl rfl)
theorem u_query_Width : Tri Tryz.prog f_query_Width (s_Width).pt :=
  tri_walk (S := tab [(f_query_right, s_r23_IsPattern), (f_query_width, s_widthA)]) (tab_ok (tab_cons u_query_right (tab_cons u_query_width tab_nil))) ok_query_Width (fun _ => Nat.le_of_ble_eq_true rfl) (w_query_Width rfl rfl)
theorem u_query_letter : Tri Tryz.prog f_query_letter (s_q_letter).pt :=
  tri_walk (S := tab []) (tab_ok tab_nil) ok_query_letter (fun _ => Nat.le_of_ble_eq_true rfl) (w_query_letter)
theorem u_query_digit : Tri Tryz.prog f_query_digit (s_q_digit).pt :=
  tri_walk (S := tab []) (tab_ok tab_nil) ok_query_digit (fun _ => Nat.le_of_ble_eq_true rfl) (w_query_digit)
theorem u_query_lex_1 : Tri Tryz.prog f_query_lex_1 (s_q_space).pt :=
  tri_walk (S := tab []) (tab_ok tab_nil) ok_query_lex_1 (fun _ => Nat.le_of_ble_eq_true rfl) (w_query_lex_1)
theorem u_query_lex_2 : Tri Tryz.prog f_query_lex_2 (s_q_name).pt :=
  tri_walk (S := tab [(f_query_letter, s_q_letter), (f_query_digit, s_q_digit)]) (tab_ok (tab_cons u_query_letter (tab_cons u_query_digit tab_nil))) ok_query_lex_2 (fun _ => Nat.le_of_ble_eq_true rfl) (w_query_lex_2 rfl rfl)
def Lx : Nat → Spc := tab [(f_query_lex_1, s_q_space), (f_query_lex_2, s_q_name), (f_query_digit, s_q_digit)]
theorem u_query_run : Tri Tryz.prog f_query_run (s_q_run Lx).pt := tri_walk (S := Lx) (tab_ok (tab_cons u_query_lex_1 (tab_cons u_query_lex_2 (tab_cons u_query_digit tab_nil)))) ok_query_run (fun _ => Nat.le_of_ble_eq_true rfl) w_query_run
theorem u_internal_stringslite_HasPrefix : Tri Tryz.prog f_internal_stringslite_HasPrefix (s_hasPrefix).pt :=
  tri_walk (S := tab []) (tab_ok tab_nil) ok_internal_stringslite_HasPrefix (fun _ => Nat.le_of_ble_eq_true rfl) (w_stringslite_HasPrefix)
theorem u_strings_HasPrefix : Tri Tryz.prog f_strings_HasPrefix (s_hasPrefix).pt :=
  tri_walk (S := tab [(f_internal_stringslite_HasPrefix, s_hasPrefix)]) (tab_ok (tab_cons u_internal_stringslite_HasPrefix tab_nil)) ok_strings_HasPrefix (fun _ => Nat.le_of_ble_eq_true rfl) (w_strings_HasPrefix rfl)
theorem u_strings_IndexByte : Tri Tryz.prog f_strings_IndexByte (s_indexByte).pt :=
  tri_walk (S := tab [(f_internal_stringslite_IndexByte, s_indexByte)]) (tab_ok (tab_cons t_stringslite_IndexByte tab_nil)) ok_strings_IndexByte (fun _ => Nat.le_of_ble_eq_true rfl) (w_strings_IndexByte rfl)
theorem u_slices_Index_string : Tri Tryz.prog f_slices_Index_string (s_idx_string).pt :=
  tri_walk (S := tab []) (tab_ok tab_nil) ok_slices_Index_string (fun _ => Nat.le_of_ble_eq_true rfl) (w_slices_Index_string)
theorem u_slices_Contains_string : Tri Tryz.prog f_slices_Contains_string (s_has_string).pt :=
  tri_walk (S := tab [(f_slices_Index_string, s_idx_string)]) (tab_ok (tab_cons u_slices_Index_string tab_nil)) ok_slices_Contains_string (fun _ => Nat.le_of_ble_eq_true rfl) (w_slices_Contains_string rfl)
theorem u_query_quoted : Tri Tryz.prog f_query_quoted (s_q_quoted).pt :=
  tri_walk (S := tab []) (tab_ok tab_nil) ok_query_quoted (fun _ => Nat.le_of_ble_eq_true rfl) (w_query_quoted)
theorem u_query_lex : Tri Tryz.prog f_query_lex (s_q_lex).pt :=
  tri_walk (S := tab [(f_query_run, s_q_run Lx), (f_query_letter, s_q_letter), (f_query_digit, s_q_digit), (f_query_quoted, s_q_quoted), (f_strings_HasPrefix, s_hasPrefix), (f_strings_IndexByte, s_indexByte)]) (tab_ok (tab_cons u_query_run (tab_cons u_query_letter (tab_cons u_query_digit (tab_cons u_query_quoted (tab_cons u_strings_HasPrefix (tab_cons u_strings_IndexByte tab_nil))))))) ok_query_lex (fun _ => Nat.le_of_ble_eq_true rfl) (w_query_lex (S0 := Lx) rfl rfl rfl rfl rfl rfl rfl rfl rfl)
theorem u_query_reader_next : Tri Tryz.prog f_query_reader_next (s_rnext).pt :=
  tri_walkRDF (S := tab [(f_query_lex, s_q_lex)]) (tab_ok (tab_cons u_query_lex tab_nil)) ok_query_reader_next (fun _ => Nat.le_of_ble_eq_true rfl) (w_reader_next rfl)
theorem u_query_reader_peek : Tri Tryz.prog f_query_reader_peek (s_rpeek).pt :=
  tri_walkRDF (S := tab [(f_query_lex, s_q_lex)]) (tab_ok (tab_cons u_query_lex tab_nil)) ok_query_reader_peek (fun _ => Nat.le_of_ble_eq_true rfl) (w_reader_peek rfl)
theorem u_query_reader_sign : Tri Tryz.prog f_query_reader_sign (s_rsign).pt :=
  tri_walkRDF (S := tab []) (tab_ok tab_nil) ok_query_reader_sign (fun _ => Nat.le_of_ble_eq_true rfl) (w_reader_sign)
theorem u_query_reader_take : Tri Tryz.prog f_query_reader_take (s_rtake).pt :=
  tri_walkRDF (S := tab [(f_query_reader_next, s_rnext), (f_query_reader_sign, s_rsign)]) (tab_ok (tab_cons u_query_reader_next (tab_cons u_query_reader_sign tab_nil))) ok_query_reader_take (fun _ => Nat.le_of_ble_eq_true rfl) (w_reader_take rfl rfl)
theorem u_query_reader_word : Tri Tryz.prog f_query_reader_word (s_rword).pt :=
  tri_walkRDF (S := tab [(f_slices_Contains_string, s_has_string)]) (tab_ok (tab_cons u_slices_Contains_string tab_nil)) ok_query_reader_word (fun _ => Nat.le_of_ble_eq_true rfl) (w_reader_word rfl)
theorem u_query_reader_must : Tri Tryz.prog f_query_reader_must (s_rmust).pt :=
  tri_walkRDF (S := tab [(f_query_reader_take, s_rtake)]) (tab_ok (tab_cons u_query_reader_take tab_nil)) ok_query_reader_must (fun _ => Nat.le_of_ble_eq_true rfl) (w_reader_must rfl)
theorem u_query_reader_text : Tri Tryz.prog f_query_reader_text (s_rtext).pt :=
  tri_walkRDF (S := tab [(f_query_reader_next, s_rnext)]) (tab_ok (tab_cons u_query_reader_next tab_nil)) ok_query_reader_text (fun _ => Nat.le_of_ble_eq_true rfl) (w_reader_text rfl)
theorem u_query_reader_name : Tri Tryz.prog f_query_reader_name (s_rname).pt :=
  tri_walkRDF (S := tab [(f_query_reader_text, s_rtext)]) (tab_ok (tab_cons u_query_reader_text tab_nil)) ok_query_reader_name (fun _ => Nat.le_of_ble_eq_true rfl) (w_reader_name rfl)
theorem u_query_reader_fold : Tri Tryz.prog f_query_reader_fold (s_rfold).pt :=
  tri_walkRDF (S := tab [(f_query_reader_take, s_rtake)]) (tab_ok (tab_cons u_query_reader_take tab_nil)) ok_query_reader_fold (fun _ => Nat.le_of_ble_eq_true rfl) (w_reader_fold rfl)
theorem u_query_conds : Tri Tryz.prog f_query_conds (s_conds).pt :=
  tri_walk (S := tab []) (tab_ok tab_nil) ok_query_conds (fun _ => Nat.le_of_ble_eq_true rfl) (w_conds)
theorem u_query_reader_atom : Tri Tryz.prog f_query_reader_atom (s_ratom).pt :=
  tri_walkRDF (S := tab [(f_query_reader_take, s_rtake), (f_query_reader_name, s_rname), (f_query_reader_must, s_rmust), (f_query_reader_text, s_rtext), (f_query_reader_word, s_rword), (f_query_reader_next, s_rnext), (f_query_reader_fold, s_rfold)]) (tab_ok (tab_cons u_query_reader_take (tab_cons u_query_reader_name (tab_cons u_query_reader_must (tab_cons u_query_reader_text (tab_cons u_query_reader_word (tab_cons u_query_reader_next (tab_cons u_query_reader_fold tab_nil)))))))) ok_query_reader_atom (fun _ => Nat.le_of_ble_eq_true rfl) (w_reader_atom rfl rfl rfl rfl rfl rfl rfl)
theorem a_query_reader_and {N : Rdr → Option (Rdr × Cond)} (h : Tri Tryz.prog f_query_reader_not (s_rnot N).pt) : Tri Tryz.prog f_query_reader_and (s_rand N).pt :=
  tri_walkRDF (S := tab [(f_query_reader_take, s_rtake), (f_query_reader_not, s_rnot N), (f_query_conds, s_conds)]) (tab_ok (tab_cons u_query_reader_take (tab_cons h (tab_cons u_query_conds tab_nil)))) ok_query_reader_and (fun _ => Nat.le_of_ble_eq_true rfl) (w_reader_and N rfl rfl rfl)
theorem a_query_reader_or {N : Rdr → Option (Rdr × Cond)} (h : Tri Tryz.prog f_query_reader_not (s_rnot N).pt) : Tri Tryz.prog f_query_reader_or (s_ror N).pt :=
  tri_walkRDF (S := tab [(f_query_reader_take, s_rtake), (f_query_reader_and, s_rand N), (f_query_conds, s_conds)]) (tab_ok (tab_cons u_query_reader_take (tab_cons (a_query_reader_and h) (tab_cons u_query_conds tab_nil)))) ok_query_reader_or (fun _ => Nat.le_of_ble_eq_true rfl) (w_reader_or N rfl rfl rfl)
theorem r_query_reader_not : ∀ n, Tri Tryz.prog f_query_reader_not (s_rnot (notRN n)).pt
  | 0 => rd_void fun s z => rfl
  | n + 1 => tri_walkRDF (S := tab [(f_query_reader_take, s_rtake), (f_query_reader_not, s_rnot (notRN n)), (f_query_reader_must, s_rmust), (f_query_reader_or, s_ror (notRN n)), (f_query_reader_atom, s_ratom)]) (tab_ok (tab_cons u_query_reader_take (tab_cons (r_query_reader_not n) (tab_cons u_query_reader_must (tab_cons (a_query_reader_or (r_query_reader_not n)) (tab_cons u_query_reader_atom tab_nil)))))) ok_query_reader_not (fun _ => Nat.le_of_ble_eq_true rfl) (w_reader_not (notRN n) (orR (notRN n)) rfl rfl rfl rfl rfl)
theorem u_query_patterns : Tri Tryz.prog f_query_patterns (s_patterns).pt :=
  tri_walk (S := tab []) (tab_ok tab_nil) ok_query_patterns (fun _ => Nat.le_of_ble_eq_true rfl) (w_patterns)
theorem u_query_reader_begins : Tri Tryz.prog f_query_reader_begins (s_rbegins).pt :=
  tri_walkRDF (S := tab [(f_query_reader_sign, s_rsign), (f_query_reader_word, s_rword), (f_query_reader_peek, s_rpeek)]) (tab_ok (tab_cons u_query_reader_sign (tab_cons u_query_reader_word (tab_cons u_query_reader_peek tab_nil)))) ok_query_reader_begins (fun _ => Nat.le_of_ble_eq_true rfl) (w_reader_begins rfl rfl rfl)
theorem r_query_reader_alt : ∀ n, Tri Tryz.prog f_query_reader_alt (s_ralt (altRN n)).pt
  | 0 => rd_void fun s z => rfl
  | n + 1 =>
    have h0 : Tri Tryz.prog f_query_reader_token (s_rtoken (orR (notRN (n + 1)))).pt := tri_walkRDF (S := tab [(f_query_reader_take, s_rtake), (f_query_reader_sign, s_rsign), (f_query_reader_must, s_rmust), (f_query_reader_or, s_ror (notRN (n + 1))), (f_query_reader_text, s_rtext), (f_query_reader_fold, s_rfold)]) (tab_ok (tab_cons u_query_reader_take (tab_cons u_query_reader_sign (tab_cons u_query_reader_must (tab_cons (a_query_reader_or (r_query_reader_not (n + 1))) (tab_cons u_query_reader_text (tab_cons u_query_reader_fold tab_nil))))))) ok_query_reader_token (fun _ => Nat.le_of_ble_eq_true rfl) (w_reader_token (orR (notRN (n + 1))) rfl rfl rfl rfl rfl rfl)
    have h1 : Tri Tryz.prog f_query_reader_item (s_ritem (altRN n) (orR (notRN (n + 1)))).pt := tri_walkRDF (S := tab [(f_query_reader_take, s_rtake), (f_query_reader_name, s_rname), (f_query_reader_must, s_rmust), (f_query_reader_token, s_rtoken (orR (notRN (n + 1)))), (f_query_reader_alt, s_ralt (altRN n))]) (tab_ok (tab_cons u_query_reader_take (tab_cons u_query_reader_name (tab_cons u_query_reader_must (tab_cons h0 (tab_cons (r_query_reader_alt n) tab_nil)))))) ok_query_reader_item (fun _ => Nat.le_of_ble_eq_true rfl) (w_reader_item (altRN n) (orR (notRN (n + 1))) rfl rfl rfl rfl rfl)
    have h2 : Tri Tryz.prog f_query_reader_rep (s_rrep (altRN n) (orR (notRN (n + 1)))).pt := tri_walkRDF (S := tab [(f_query_reader_take, s_rtake), (f_query_reader_item, s_ritem (altRN n) (orR (notRN (n + 1))))]) (tab_ok (tab_cons u_query_reader_take (tab_cons h1 tab_nil))) ok_query_reader_rep (fun _ => Nat.le_of_ble_eq_true rfl) (w_reader_rep _ _ rfl rfl)
    have h3 : Tri Tryz.prog f_query_reader_seq (s_rseq (altRN n) (orR (notRN (n + 1)))).pt := tri_walkRDF (S := tab [(f_query_reader_begins, s_rbegins), (f_query_reader_rep, s_rrep (altRN n) (orR (notRN (n + 1)))), (f_query_patterns, s_patterns)]) (tab_ok (tab_cons u_query_reader_begins (tab_cons h2 (tab_cons u_query_patterns tab_nil)))) ok_query_reader_seq (fun _ => Nat.le_of_ble_eq_true rfl) (w_reader_seq _ _ rfl rfl rfl)
    tri_walkRDF (S := tab [(f_query_reader_take, s_rtake), (f_query_reader_seq, s_rseq (altRN n) (orR (notRN (n + 1)))), (f_query_patterns, s_patterns)]) (tab_ok (tab_cons u_query_reader_take (tab_cons h3 (tab_cons u_query_patterns tab_nil)))) ok_query_reader_alt (fun _ => Nat.le_of_ble_eq_true rfl) (w_reader_alt _ _ rfl rfl rfl)
theorem u_query_filterWords : Tri Tryz.prog f_query_filterWords (s_qfilts).pt :=
  tri_walk (S := tab []) (tab_ok tab_nil) ok_query_filterWords (fun _ => Nat.le_of_ble_eq_true rfl) (w_qfilts)
theorem u_query_reader_query : Tri Tryz.prog f_query_reader_query (s_rquery 10).pt :=
  tri_walkRDF (S := tab [(f_query_reader_next, s_rnext), (f_query_reader_alt, s_ralt (altRN 10)), (f_query_reader_take, s_rtake), (f_query_reader_sign, s_rsign), (f_query_reader_word, s_rword), (f_query_filterWords, s_qfilts)]) (tab_ok (tab_cons u_query_reader_next (tab_cons (r_query_reader_alt 10) (tab_cons u_query_reader_take (tab_cons u_query_reader_sign (tab_cons u_query_reader_word (tab_cons u_query_filterWords tab_nil))))))) ok_query_reader_query (fun _ => Nat.le_of_ble_eq_true rfl) (w_reader_query 10 rfl rfl rfl rfl rfl rfl)
theorem u_query_Parse : Tri Tryz.prog f_query_Parse (s_qParse 10).pt := t_query_Parse (S := tab [(f_query_reader_query, s_rquery 10)]) (tab_ok (tab_cons u_query_reader_query tab_nil)) 10 rfl
theorem u_strings_Replace : Tri Tryz.prog f_strings_Replace (s_replace).pt :=
  tri_walk (S := tab [(f_strings_Count, s_count0)]) (tab_ok (tab_cons t_strings_Count tab_nil)) ok_strings_Replace (fun _ => Nat.le_of_ble_eq_true rfl) (w_strings_Replace rfl)
theorem u_strings_ReplaceAll : Tri Tryz.prog f_strings_ReplaceAll (s_replAll).pt :=
  tri_walk (S := tab [(f_strings_Replace, s_replace)]) (tab_ok (tab_cons u_strings_Replace tab_nil)) ok_strings_ReplaceAll (fun _ => Nat.le_of_ble_eq_true rfl) (w_strings_ReplaceAll rfl)
theorem u_query_writer_str : Tri Tryz.prog f_query_writer_str (s_wStr).pt :=
  tri_walkW (S := tab [(f_strings_ReplaceAll, s_replAll), (f_strings_Builder_WriteString, s_wstr)]) (tab_ok (tab_cons u_strings_ReplaceAll (tab_cons t_WriteString tab_nil))) ok_query_writer_str (fun _ => Nat.le_of_ble_eq_true rfl) (w_writer_str rfl rfl)
theorem u_query_writer_value : Tri Tryz.prog f_query_writer_value (s_wValue).pt :=
  tri_walkW (S := tab [(f_query_writer_str, s_wStr), (f_strings_Builder_WriteString, s_wstr)]) (tab_ok (tab_cons u_query_writer_str (tab_cons t_WriteString tab_nil))) ok_query_writer_value (fun _ => Nat.le_of_ble_eq_true rfl) (w_writer_value rfl rfl)
theorem u_query_writer_cond : Tri Tryz.prog f_query_writer_cond (s_wCond).pt :=
  tri_walkW (S := tab [(f_query_writer_value, s_wValue), (f_strings_Builder_WriteString, s_wstr)]) (tab_ok (tab_cons u_query_writer_value (tab_cons t_WriteString tab_nil))) ok_query_writer_cond (fun _ => Nat.le_of_ble_eq_true rfl) (w_writer_cond rfl rfl)
theorem u_query_writer_token : Tri Tryz.prog f_query_writer_token (s_wTok).pt :=
  tri_walkW (S := tab [(f_query_writer_cond, s_wCond), (f_strings_Builder_WriteString, s_wstr)]) (tab_ok (tab_cons u_query_writer_cond (tab_cons t_WriteString tab_nil))) ok_query_writer_token (fun _ => Nat.le_of_ble_eq_true rfl) (w_writer_token rfl rfl)
theorem r_query_writer_pattern : ∀ n, Tri Tryz.prog f_query_writer_pattern (s_wPat (patT n)).pt
  | 0 => wr_void fun z => rfl
  | n + 1 =>
    have h1 : Tri Tryz.prog f_query_writer_pattern_2 (s_wCl (patCT (patT n))).pt := tri_walkI (S := tab [(f_query_writer_pattern, s_wPat (patT n))]) (tab_ok (tab_cons (r_query_writer_pattern n) tab_nil)) ok_query_writer_pattern_2 (fun id b ds t h => by unfold clG at h; split at h <;> first | (exact Nat.le_of_ble_eq_true rfl) | cases h) (w_writer_pattern_2 (patT n) rfl)
    have h2 : Tri Tryz.prog f_query_writer_in (s_wIn (CTp (patT n))).pt := tri_walkI (S := tab [(f_strings_Builder_WriteString, s_wstr), (f_query_writer_pattern_2, s_wCl (patCT (patT n)))]) (tab_ok (tab_cons t_WriteString (tab_cons h1 tab_nil))) ok_query_writer_in (fun id b ds t h => by unfold inG at h; split at h <;> first | (exact Nat.le_of_ble_eq_true rfl) | cases h) (w_writer_in (CTp (patT n)) rfl fun g cs t h => by
      unfold CTp at h
      split at h
      · rename_i e; subst e; rfl
      · cases h)
    tri_walkW (S := tab [(f_query_writer_token, s_wTok), (f_strings_Builder_WriteString, s_wstr), (f_query_writer_in, s_wIn (CTp (patT n)))]) (tab_ok (tab_cons u_query_writer_token (tab_cons t_WriteString (tab_cons h2 tab_nil)))) ok_query_writer_pattern (fun _ => Nat.le_of_ble_eq_true rfl) (w_writer_pattern (patT n) rfl rfl rfl)
theorem r_query_copied : ∀ n, Tri Tryz.prog f_query_copied (s_copied n).pt
  | 0 => spc_void fun x h => h
  | n + 1 => tri_walk (S := tab [(f_query_copied, s_copied n)]) (tab_ok (tab_cons (r_query_copied n) tab_nil)) ok_query_copied (fun _ => Nat.le_of_ble_eq_true rfl) (w_query_copied n rfl)
theorem u_query_copied : Tri Tryz.prog f_query_copied (s_copiedA).pt :=
  tri_ex (fun n => r_query_copied n) (spc_ex (fun x h => h))
theorem u_query_clone : Tri Tryz.prog f_query_clone (s_clone).pt :=
  tri_walk (S := tab [(f_query_copied, s_copiedA)]) (tab_ok (tab_cons u_query_copied tab_nil)) ok_query_clone (fun _ => Nat.le_of_ble_eq_true rfl) (w_query_clone rfl)
theorem r_query_leaves : ∀ n, Tri Tryz.prog f_query_leaves (i_leavesQ n).pt
  | 0 => tri_void fun d ds H K ⟨id, v, l, a, x, h1, h2, h3, h4, h5⟩ => pd0 h4.1
  | n + 1 => tri_walkI2 (S := tab [(f_query_leaves, i_leavesQ n), (f_query_clone, s_clone)]) (tab_ok (tab_cons (r_query_leaves n) (tab_cons u_query_clone tab_nil))) ok_query_leaves (by decide) (w_query_leaves n rfl rfl)
theorem u_query_leaves_i : Tri Tryz.prog f_query_leaves i_leavesQA.pt := tri_ex (fun n => r_query_leaves n) fun d ds H K ⟨id, v, l, a, x, h1, h2, h3, h4, h5⟩ => ⟨pDep x, id, v, l, a, x, h1, h2, h3, ⟨Nat.le_refl _, h4⟩, h5⟩
theorem u_query_leaves : Tri Tryz.prog f_query_leaves s_leavesQ.pt := tri_or (tri_walkF (S := tab [(f_query_leaves, i_leavesQA), (f_query_clone, s_clone)]) (tab_ok (tab_cons u_query_leaves_i (tab_cons u_query_clone tab_nil))) ok_query_leaves (fun _ => Nat.le_of_ble_eq_true rfl) (w_query_leavesF rfl rfl)) u_query_leaves_i
theorem u_condition_shape : Tri Tryz.prog f_condition_shape (s_cshape).pt :=
  tri_walk (S := tab []) (tab_ok tab_nil) ok_condition_shape (fun _ => Nat.le_of_ble_eq_true rfl) (w_condition_shape)
theorem u_condition_Shape_1 : Tri Tryz.prog f_condition_Shape_1 (s_cShape1).pt :=
  tri_walk (S := tab [(f_condition_shape, s_cshape)]) (tab_ok (tab_cons u_condition_shape tab_nil)) ok_condition_Shape_1 (fun _ => Nat.le_of_ble_eq_true rfl) (w_condition_Shape_1 rfl)
theorem u_condition_measure : Tri Tryz.prog f_condition_measure (s_cmeasure).pt :=
  tri_walk (S := tab []) (tab_ok tab_nil) ok_condition_measure (fun _ => Nat.le_of_ble_eq_true rfl) (w_condition_measure)
theorem u_condition_walk : Tri Tryz.prog f_condition_walk (s_cwalk).pt :=
  tri_walk (S := tab [(f_condition_Shape_1, s_cShape1)]) (tab_ok (tab_cons u_condition_Shape_1 tab_nil)) ok_condition_walk (fun _ => Nat.le_of_ble_eq_true rfl) (w_condition_walk rfl)
theorem u_condition_Shape : Tri Tryz.prog f_condition_Shape (s_cShape).pt :=
  tri_walk (S := tab [(f_condition_measure, s_cmeasure), (f_condition_walk, s_cwalk)]) (tab_ok (tab_cons u_condition_measure (tab_cons u_condition_walk tab_nil))) ok_condition_Shape (fun _ => Nat.le_of_ble_eq_true rfl) (w_condition_Shape rfl rfl)
theorem u_query_Format_1 : Tri Tryz.prog f_query_Format_1 (s_Format1).pt :=
  tri_walk (S := tab [(f_condition_Shape, s_cShape)]) (tab_ok (tab_cons u_condition_Shape tab_nil)) ok_query_Format_1 (fun _ => Nat.le_of_ble_eq_true rfl) (w_query_Format_1 rfl)
theorem u_query_none : Tri Tryz.prog f_query_none (s_none).pt :=
  tri_walk (S := tab []) (tab_ok tab_nil) ok_query_none (fun _ => Nat.le_of_ble_eq_true rfl) (w_query_none)
theorem u_query_Sound : Tri Tryz.prog f_query_Sound (s_Sound).pt :=
  tri_walk (S := tab [(f_query_none, s_none)]) (tab_ok (tab_cons u_query_none tab_nil)) ok_query_Sound (fun _ => Nat.le_of_ble_eq_true rfl) (w_query_Sound rfl)
theorem u_slices_IndexFunc_Filter : Tri Tryz.prog f_slices_IndexFunc_Filter (s_IdxF).pt :=
  tri_walk (S := tab []) (tab_ok tab_nil) ok_slices_IndexFunc_Filter (fun _ => Nat.le_of_ble_eq_true rfl) (w_slices_IndexFunc_Filter)
theorem u_slices_ContainsFunc_Filter : Tri Tryz.prog f_slices_ContainsFunc_Filter (s_ConF).pt :=
  tri_walk (S := tab [(f_slices_IndexFunc_Filter, s_IdxF)]) (tab_ok (tab_cons u_slices_IndexFunc_Filter tab_nil)) ok_slices_ContainsFunc_Filter (fun _ => Nat.le_of_ble_eq_true rfl) (w_slices_ContainsFunc_Filter rfl)
def Fm1 : Nat → Spc := tab [(f_query_Format_1, s_Format1)]
theorem u_query_Format : Tri Tryz.prog f_query_Format (s_Format 10).pt :=
  tri_walk (S := tab [(f_query_Shape, s_Shape), (f_slices_ContainsFunc_Filter, s_ConF), (f_query_Sound, s_Sound), (f_query_leaves, s_leavesQ), (f_slices_ContainsFunc_Pattern, s_ConP Fm1), (f_query_writer_pattern, s_wPat (patT 10)), (f_strings_Builder_String, s_string)]) (tab_ok (tab_cons u_query_Shape (tab_cons u_slices_ContainsFunc_Filter (tab_cons u_query_Sound (tab_cons u_query_leaves (tab_cons (con_of (S := Fm1) (tab_ok (tab_cons u_query_Format_1 tab_nil))) (tab_cons (r_query_writer_pattern 10) (tab_cons t_String tab_nil)))))))) ok_query_Format (fun _ => Nat.le_of_ble_eq_true rfl) (w_query_Format (S0 := Fm1) 10 rfl rfl rfl rfl rfl rfl rfl rfl)
theorem u_law23_known : Tri Tryz.prog f_law23_known (s_known23).pt :=
  tri_walk (S := tab [(f_query_Parse, s_qParse 10), (f_query_Size, s_r23_Size), (f_query_Format, s_Format 10)]) (tab_ok (tab_cons u_query_Parse (tab_cons u_query_Size (tab_cons u_query_Format tab_nil)))) ok_law23_known (fun _ => Nat.le_of_ble_eq_true rfl) (w_law23_known rfl rfl rfl)
theorem t_law23_Sizes : Tri Tryz.prog f_law23_QuerySizes (spc (a1 (List Int)) (fun _ => True) enc (fun _ (y : Bool) => y = true)).pt :=
  tri_walk (S := tab [(f_m_New, s_m_New), (f_m_Tape_Pattern, s_m_PatternA), (f_query_Width, s_Width), (f_query_Size, s_r23_Size), (f_law23_known, s_known23)]) (tab_ok (tab_cons t_m_New (tab_cons u_m_Tape_Pattern (tab_cons u_query_Width (tab_cons u_query_Size (tab_cons u_law23_known tab_nil)))))) ok_law23_QuerySizes (fun _ => Nat.le_of_ble_eq_true rfl) (w_law23_QuerySizes rfl rfl rfl rfl rfl)
end Go.Gv
