/- A part of the framework and of the walks: T18 T19 T20 T21 T22 W35 W76 W32 W36. -/
import Derived.Test.YtaiffcbkmgfklaaGreatDoorGz16
import Derived.Test.YtaiffcbkmgfklaaGreatDoorGz14

namespace Go.Gv
set_option linter.unusedSimpArgs false
set_option linter.unusedVariables false

/-- r is known at least as well as r' (Hf: what is given up). -/
def RFz (Hf : HMap) : Res → Res → Prop
  | .box b cs, .box b' cs' => b = b' ∧ cs.length = cs'.length ∧ ∀ (m : Nat) (c c' : D), cs[m]? = some c → cs'[m]? = some c' → FrzTo Hf c c'
  | .row x el n es, .row x' el' n' es' => x = x' ∧ el = el' ∧ n = n' ∧ es.length = es'.length ∧ (∀ d ∈ es', d.kn = true ∧ d.cells.length = n) ∧ ∀ (m : Nat) (c c' : D), es[m]? = some c → es'[m]? = some c' → ∀ (j : Nat) (e e' : D), c.cells[j]? = some e → c'.cells[j]? = some e' → FrzTo Hf e e'
  | .tbox el b cs, .tbox el' b' cs' => el = el' ∧ b = b' ∧ cs.length = cs'.length ∧ ∀ (m : Nat) (c c' : D), cs[m]? = some c → cs'[m]? = some c' → FrzTo Hf c c'
  | r, r' => r = r'

theorem RFz.blk {Hf : HMap} {r r' : Res} (h : RFz Hf r r') : r'.blk = r.blk := by
  cases r <;> cases r' <;> simp only [RFz] at h
  · obtain ⟨rfl, _⟩ := h; rfl
  all_goals first
    | (obtain ⟨rfl, rfl, rfl, _⟩ := h; rfl)
    | (obtain ⟨rfl, rfl, _⟩ := h; rfl)
    | (cases h; done)
    | (cases h; rfl)

theorem RFz.ok {tp I I' : Nat → Prop} {w : World} {Hf : HMap} {r r' : Res} (h : RFz Hf r r') (hr : ResOk (R tp I w) w r) (hok : ∀ i q, Hf i = some q → ResOk (R tp I w) w q) (hI : ∀ b, I b → I' b) (hb : ∀ i q b, Hf i = some q → q.blk = some b → I' b) : ResOk (R tp I' w) w r' := by
  have fz : ∀ {c c' : D} {y : Value}, FrzTo Hf c c' → R tp I w y c → R tp I' w y c' := fun h hr => h.R (H := noH) hok hI hb hr
  have same : ResOk (R tp I' w) w r := hr.conv (fun x d hr => hr.mono (fun _ h => h) (fun b hb => ⟨hI b hb, rfl⟩) (fun b _ => .refl _ _)) (fun _ _ => rfl)
  cases r with
  | box b cs =>
    cases r' with
    | box b' cs' =>
      obtain ⟨rfl, hl, hc⟩ := h
      obtain ⟨xs, el, h1, h2, h3⟩ := hr
      refine ⟨xs, el, h1, h2.trans hl, fun k y c hy hc' => ?_⟩
      have hk : k < cs.length := by rw [hl]; exact (List.getElem?_eq_some_iff.1 hc').1
      have h4 := h3 k y cs[k] hy (List.getElem?_eq_getElem hk)
      exact ⟨h4.1, fz (hc k _ _ (List.getElem?_eq_getElem hk) hc') h4.2⟩
    | row x el n es => cases h
    | iter b s p => cases h
    | tbox b s p => cases h
  | iter b s p =>
    cases r' with
    | box b' cs' => cases h
    | row x el n es => cases h
    | iter b' s' p' => cases h; exact same
    | tbox b' s' p' => cases h
  | tbox b s p =>
    cases r' with
    | box b' cs' => cases h
    | row x el n es => cases h
    | iter b' s' p' => cases h
    | tbox b' s' cs' =>
      obtain ⟨rfl, rfl, hl, hc⟩ := h
      obtain ⟨xs, h1, h2, h3⟩ := hr
      refine ⟨xs, h1, h2.trans hl, fun k y c hy hc' => ?_⟩
      have hk : k < p.length := by rw [hl]; exact (List.getElem?_eq_some_iff.1 hc').1
      have h4 := h3 k y p[k] hy (List.getElem?_eq_getElem hk)
      exact ⟨h4.1, fz (hc k _ _ (List.getElem?_eq_getElem hk) hc') h4.2⟩
  | row x el n es =>
    cases r' with
    | box b' cs' => cases h
    | iter b' s' p' => cases h
    | tbox b' s' p' => cases h
    | row x' el' n' es' =>
      obtain ⟨rfl, rfl, rfl, hl, hkn, hc⟩ := h
      obtain ⟨xs, h1, h2, h3⟩ := hr
      refine ⟨xs, hl ▸ h1, hkn, fun k y c hy hc' => ?_⟩
      have hw : ∀ d ∈ es, d.cells.length = n := fun d hd => (h2 d hd).2
      have hw' : ∀ d ∈ es', d.cells.length = n := fun d hd => (hkn d hd).2
      have hfl := flat_length hw
      have hfl' := flat_length hw'
      have hk : k < (flat es).length := by
        have := (List.getElem?_eq_some_iff.1 hc').1
        rw [hfl, hl, ← hfl']; exact this
      have hk2 : k < es.length * n := by rw [← hfl]; exact hk
      have hn : 0 < n := by
        rcases Nat.eq_zero_or_pos n with e | e
        · subst e; simp at hk2
        · exact e
      have h4 := h3 k y (flat es)[k] hy (List.getElem?_eq_getElem hk)
      refine ⟨h4.1, fz ?_ h4.2⟩
      have hdm : k = (k / n) * n + k % n := by have := Nat.div_add_mod k n; rw [Nat.mul_comm] at this; omega
      have hmod : k % n < n := Nat.mod_lt _ hn
      have g1 := flat_get hw (i := k / n) (j := k % n) hmod
      have g2 := flat_get hw' (i := k / n) (j := k % n) hmod
      rw [← hdm] at g1 g2
      rw [hc'] at g2
      rw [List.getElem?_eq_getElem hk] at g1
      cases e1 : es[k / n]? with
      | none => rw [e1] at g1; cases g1
      | some c1 =>
        cases e2 : es'[k / n]? with
        | none => rw [e2] at g2; cases g2
        | some c2 =>
          rw [e1] at g1
          rw [e2] at g2
          exact hc _ c1 c2 e1 e2 _ _ _ g1.symm g2.symm
def RFe (Hf : HMap) (r r' : Res) : Prop := r = r' ∨ RFz Hf r r'
theorem RFe.blk {Hf : HMap} {r r' : Res} (h : RFe Hf r r') : r'.blk = r.blk := by
  rcases h with rfl | h
  · rfl
  · exact h.blk
theorem RFe.ok {tp I I' : Nat → Prop} {w : World} {Hf : HMap} {r r' : Res} (h : RFe Hf r r') (hr : ResOk (R tp I w) w r) (hok : ∀ i q, Hf i = some q → ResOk (R tp I w) w q) (hI : ∀ b, I b → I' b) (hb : ∀ i q b, Hf i = some q → q.blk = some b → I' b) : ResOk (R tp I' w) w r' := by
  rcases h with rfl | h
  · exact hr.conv (fun x d hr => hr.mono (fun _ h => h) (fun b hb => ⟨hI b hb, rfl⟩) (fun b _ => .refl _ _)) (fun _ _ => rfl)
  · exact h.ok hr hok hI hb
theorem isNilRow.blk' {r : Res} (h : isNilRow r) : r.blk = none := by
  cases r with
  | box b c => exact h.elim
  | iter b s p => exact h.elim
  | tbox b s p => exact h.elim
  | row x el n es => obtain ⟨rfl, rfl⟩ := h; rfl

theorem wk_all {σ σ' : Sg} {H H' Hf : HMap} (ρ : Nat → Nat) (h1 : ∀ t, FrzTo Hf (σ t) (σ' t)) (h2 : ∀ i r, H' i = some r → (∃ r0, H (ρ i) = some r0 ∧ RFe Hf r0 r) ∨ isNilRow r)
    (h3 : ∀ i j r s, H' i = some r → H' j = some s → ρ i = ρ j → i = j ∨ isNilRow r ∨ isNilRow s) (h4 : ∀ i r, Hf i = some r → H i = some r ∧ ∀ j r', H' j = some r' → ρ j = i → isNilRow r') : Wk σ H σ' H' := by
  intro E a w ⟨hd, hN, tp, h, hr⟩
  have hblk : ∀ i r c, H' i = some r → r.blk = some c → ∃ r0, H (ρ i) = some r0 ∧ r0.blk = some c ∧ ¬ isNilRow r := fun i r c k1 k2 => by
    have hn : ¬ isNilRow r := fun hn => by rw [hn.blk'] at k2; cases k2
    rcases h2 i r k1 with ⟨r0, k3, k4⟩ | k3
    · exact ⟨r0, k3, k4.blk ▸ k2, hn⟩
    · exact absurd k3 hn
  have hown : ∀ c, owns H' c → owns H c := fun c ⟨i, r, k1, k2⟩ => by
    obtain ⟨r0, k3, k4, _⟩ := hblk i r c k1 k2
    exact ⟨ρ i, r0, k3, k4⟩
  have himm : ∀ c, Imm E.O tp H w c → Imm E.O tp H' w c := fun c hb => ⟨hb.1, hb.2.1, hb.2.2.1, fun ho => hb.2.2.2 (hown c ho)⟩
  have hfok : ∀ i q, Hf i = some q → ResOk (R tp (Imm E.O tp H w) w) w q := fun i q hq => h.sat.ok i q (h4 i q hq).1
  have hfb : ∀ i q b, Hf i = some q → q.blk = some b → Imm E.O tp H' w b := fun i q b hq hb => by
    obtain ⟨k1, k2⟩ := h4 i q hq
    have ho := h.sat.out i q b k1 hb
    refine ⟨(h.sat.ok i q k1).lt hb, ho.1, ho.2, fun ⟨j, s, k3, k4⟩ => ?_⟩
    obtain ⟨s0, k5, k6, k7⟩ := hblk j s b k3 k4
    exact k7 (k2 j s k3 (h.sat.dis (ρ j) i s0 q b k5 k1 k6 hb))
  have move : ∀ x d, R tp (Imm E.O tp H w) w x d → R tp (Imm E.O tp H' w) w x d := fun x d hr =>
    hr.mono (fun _ h => h) (fun b hb => ⟨himm b hb, rfl⟩) (fun b _ => .refl _ _)
  refine ⟨hd, hN, tp, ⟨h.hO, h.tpx, h.tpn, h.tpl, h.step, fun b hb => h.loc b (hown b hb), ⟨fun i j r s c k1 k2 k3 k4 => ?_, fun i r c k1 k2 => ?_, fun i r k1 => ?_⟩⟩, fun t => (h1 t).R (H := noH) hfok himm hfb (hr t)⟩
  · obtain ⟨r0, a1, a2, a3⟩ := hblk i r c k1 k3
    obtain ⟨s0, b1, b2, b3⟩ := hblk j s c k2 k4
    rcases h3 i j r s k1 k2 (h.sat.dis _ _ r0 s0 c a1 b1 a2 b2) with e | e | e
    · exact e
    · exact absurd e a3
    · exact absurd e b3
  · obtain ⟨r0, a1, a2, _⟩ := hblk i r c k1 k2
    exact h.sat.out _ r0 c a1 a2
  · rcases h2 i r k1 with ⟨r0, k3, k4⟩ | k3
    · exact k4.ok (h.sat.ok _ r0 k3) hfok himm hfb
    · cases r with
      | box b c => exact k3.elim
      | iter b s p => exact k3.elim
      | tbox b s p => exact k3.elim
      | row x el n es =>
        obtain ⟨rfl, rfl⟩ := k3
        exact ⟨[], World.ownsRow_nil _ _ _ _, by simp, fun k y c h => by simp at h⟩
def MatchF (Hf : HMap) : List (Nat × D) → Sg → Prop
  | [], _ => True
  | (t, d) :: l, σ => FrzTo Hf (σ t) d ∧ MatchF Hf l σ
@[simp] theorem matchF_n (Hf : HMap) (σ : Sg) : MatchF Hf [] σ = True := id rfl
@[simp] theorem matchF_c (Hf : HMap) (t : Nat) (d : D) (l : List (Nat × D)) (σ : Sg) : MatchF Hf ((t, d) :: l) σ = (FrzTo Hf (σ t) d ∧ MatchF Hf l σ) := id rfl
/-- Resource i is what was resource j: (i, j) in rn. -/
def rnm (rn : List (Nat × Nat)) (i : Nat) : Nat := (rn.lookup i).getD i
def MatchR (Hf : HMap) (rn : List (Nat × Nat)) : List (Nat × Res) → HMap → Prop
  | [], _ => True
  | (i, r) :: l, H => ((∃ r0, H (rnm rn i) = some r0 ∧ RFe Hf r0 r) ∨ isNilRow r) ∧ MatchR Hf rn l H
@[simp] theorem matchR_n (Hf : HMap) (rn : List (Nat × Nat)) (H : HMap) : MatchR Hf rn [] H = True := id rfl
@[simp] theorem matchR_c (Hf : HMap) (rn : List (Nat × Nat)) (i : Nat) (r : Res) (l : List (Nat × Res)) (H : HMap) : MatchR Hf rn ((i, r) :: l) H = (((∃ r0, H (rnm rn i) = some r0 ∧ RFe Hf r0 r) ∨ isNilRow r) ∧ MatchR Hf rn l H) := id rfl
/-- What is given up. -/
def gvH (gv : List Nat) (H : HMap) : HMap := fun i => if i ∈ gv then H i else none
def Inj (rn : List (Nat × Nat)) (ids gv : List Nat) : Prop := (∀ i ∈ ids, ∀ j ∈ ids, rnm rn i = rnm rn j → i = j) ∧ (∀ i ∈ ids, rnm rn i ∉ gv)
instance (rn : List (Nat × Nat)) (ids gv : List Nat) : Decidable (Inj rn ids gv) := by unfold Inj; infer_instance
theorem addH_mem {l : List (Nat × Res)} {H : HMap} {i : Nat} {r : Res} (h : addH l H i = some r) : (i, r) ∈ l ∨ (i ∉ l.map (·.1) ∧ H i = some r) := by
  induction l with
  | nil => exact .inr ⟨by simp, h⟩
  | cons p l ih =>
    obtain ⟨j, q⟩ := p
    simp only [addH, updH] at h
    split at h
    · rename_i e; subst e; cases h; exact .inl (by simp)
    · rename_i e
      rcases ih h with h | ⟨h1, h2⟩
      · exact .inl (by simp [h])
      · exact .inr ⟨by simp [e, h1], h2⟩
theorem matchR_mem {Hf : HMap} {rn : List (Nat × Nat)} {l : List (Nat × Res)} {H : HMap} {i : Nat} {r : Res} (h : MatchR Hf rn l H) (hm : (i, r) ∈ l) : (∃ r0, H (rnm rn i) = some r0 ∧ RFe Hf r0 r) ∨ isNilRow r := by
  induction l with
  | nil => simp at hm
  | cons p l ih =>
    obtain ⟨j, q⟩ := p
    rcases List.mem_cons.1 hm with e | hm
    · cases e; exact h.1
    · exact ih h.2 hm
theorem wk_matchG {σ0 σ : Sg} {H0 H : HMap} {ks hk gv : List Nat} {rn : List (Nat × Nat)} {sl : List (Nat × D)} {hp : List (Nat × Res)} (hi : Inj rn (hp.map (·.1) ++ hk) gv) (hid : ∀ i ∈ hk, i ∉ hp.map (·.1) → rnm rn i = i)
    (h1 : MatchF (gvH gv H) sl σ) (h2 : KeptS ks σ0 σ) (h3 : MatchR (gvH gv H) rn hp H) (h4 : KeptH hk H0 H) : Wk σ H (addS sl (keepS ks σ0)) (addH hp (keepH hk H0)) := by
  have hmem : ∀ i r, addH hp (keepH hk H0) i = some r → i ∈ hp.map (·.1) ++ hk := fun i r h => by
    rcases addH_mem h with h | ⟨_, h⟩
    · exact List.mem_append.2 (.inl (List.mem_map.2 ⟨_, h, rfl⟩))
    · rw [keepH_at] at h
      split at h
      · rename_i e; exact List.mem_append.2 (.inr e)
      · cases h
  refine wk_all (Hf := gvH gv H) (rnm rn) (fun t => ?_) (fun i r h => ?_) (fun i j r s k1 k2 e => .inl (hi.1 i (hmem i r k1) j (hmem j s k2) e)) (fun i r h => ?_)
  · clear hi hid h3 hmem
    induction sl with
    | nil =>
      rw [addS_n, keepS_at]
      split
      · rename_i h; rw [← h2 t h]; exact .same _
      · exact .any _
    | cons p sl ih =>
      obtain ⟨s, d⟩ := p
      simp only [addS, upd]
      split
      · rename_i e; subst e; exact h1.1
      · exact ih h1.2
  · rcases addH_mem h with h | ⟨h5, h⟩
    · exact matchR_mem h3 h
    · rw [keepH_at] at h
      split at h
      · rename_i e
        rw [hid i e h5, h4 i e]
        exact .inl ⟨r, h, .inl rfl⟩
      · cases h
  · simp only [gvH] at h
    split at h
    · rename_i e
      exact ⟨h, fun j r' k1 k2 => absurd e (k2 ▸ hi.2 j (hmem j r' k1))⟩
    · cases h

@[simp] theorem rnm_n (i : Nat) : rnm [] i = i := id rfl
@[simp] theorem rnm_c (i j : Nat) (l : List (Nat × Nat)) (k : Nat) : rnm ((i, j) :: l) k = if k = i then j else rnm l k := by
  simp only [rnm, List.lookup]
  by_cases e : k = i
  · subst e; simp
  · have : (k == i) = false := by simpa using e
    simp [this, e]
def FzL (Hf : HMap) : List D → List D → Prop
  | [], [] => True
  | a :: l, b :: r => FrzTo Hf a b ∧ FzL Hf l r
  | _, _ => False
@[simp] theorem fzL_n (Hf : HMap) : FzL Hf [] [] = True := id rfl
@[simp] theorem fzL_c (Hf : HMap) (a b : D) (l r : List D) : FzL Hf (a :: l) (b :: r) = (FrzTo Hf a b ∧ FzL Hf l r) := id rfl
theorem FzL.get {Hf : HMap} : ∀ {l r : List D}, FzL Hf l r → l.length = r.length ∧ ∀ (m : Nat) (c c' : D), l[m]? = some c → r[m]? = some c' → FrzTo Hf c c'
  | [], [], _ => ⟨rfl, fun m c c' h => by simp at h⟩
  | a :: l, b :: r, h => by
    obtain ⟨h1, h2⟩ := h
    have ih := FzL.get h2
    refine ⟨by simp [ih.1], fun m c c' e1 e2 => ?_⟩
    cases m with
    | zero => simp at e1 e2; subst e1; subst e2; exact h1
    | succ m => simp at e1 e2; exact ih.2 m c c' e1 e2
@[simp] theorem rfe_box (Hf : HMap) (b : Nat) (cs cs' : List D) : RFe Hf (.box b cs) (.box b cs') = (cs = cs' ∨ FzL Hf cs cs') := by
  refine propext ⟨fun h => ?_, fun h => ?_⟩
  · rcases h with h | ⟨_, hl, hc⟩
    · cases h; exact .inl rfl
    · right
      induction cs generalizing cs' with
      | nil => cases cs' with
        | nil => trivial
        | cons b r => simp at hl
      | cons a l ih => cases cs' with
        | nil => simp at hl
        | cons b r => exact ⟨hc 0 a b rfl rfl, ih r (by simpa using hl) fun m c c' h1 h2 => hc (m + 1) c c' (by simpa using h1) (by simpa using h2)⟩
  · rcases h with rfl | h
    · exact .inl rfl
    · exact .inr ⟨rfl, h.get.1, h.get.2⟩
def BackG (σ0 : Sg) (H0 : HMap) (ks hk gv : List Nat) (rn : List (Nat × Nat)) (sl : List (Nat × D)) (hp : List (Nat × Res)) (σ : Sg) (H : HMap) : Prop := MatchF (gvH gv H) sl σ ∧ KeptS ks σ0 σ ∧ MatchR (gvH gv H) rn hp H ∧ KeptH hk H0 H
@[simp] theorem backG_eq (σ0 : Sg) (H0 : HMap) (ks hk gv : List Nat) (rn : List (Nat × Nat)) (sl : List (Nat × D)) (hp : List (Nat × Res)) (σ : Sg) (H : HMap) : BackG σ0 H0 ks hk gv rn sl hp σ H = (MatchF (gvH gv H) sl σ ∧ KeptS ks σ0 σ ∧ MatchR (gvH gv H) rn hp H ∧ KeptH hk H0 H) := id rfl
section
variable {S : Nat → Spc} {σ : Sg} {H : HMap} {K : Ex → Sg → HMap → Prop}
end
end Go.Gv

namespace Go.Gv
set_option linter.unusedSimpArgs false
set_option linter.unusedVariables false
section
variable {X Y : Type}
variable {P : Program} {S : Nat → Spc} {f : Nat} {im : List Nat} {cc : CC} {rs : List CRes} {N : Nat}
end
end Go.Gv

namespace Go.Gv
set_option linter.unusedSimpArgs false
set_option linter.unusedVariables false
section
variable {S : Nat → Spc} {σ : Sg} {H : HMap} {K : Ex → Sg → HMap → Prop}
theorem vc_whileG {X : Type} (ks hk gv0 gv : List Nat) (rn0 rn : List (Nat × Nat)) (P : X → Prop) (sl : X → List (Nat × D)) (hp : X → List (Nat × Res)) (m : X → Nat) (x0 : X) (ids : List Nat) (hids : ∀ x, (hp x).map (·.1) = ids)
    (hi0 : Inj rn0 (ids ++ hk) gv0 ∧ ∀ i ∈ hk, i ∉ ids → rnm rn0 i = i) (hi : Inj rn (ids ++ hk) gv ∧ ∀ i ∈ hk, i ∉ ids → rnm rn i = i) {k : Nat} {b : CC} (h0 : P x0)
    (hs : MatchF (gvH gv0 H) (sl x0) σ) (hh : MatchR (gvH gv0 H) rn0 (hp x0) H)
    (hr : ∀ x, P x → vc S b (whlK P (fun y => BackG σ H ks hk gv rn (sl y) (hp y)) m x K) (addS (sl x) (keepS ks σ)) (addH (hp x) (keepH hk H))) : vc S (.loop k b) K σ H := by
  rw [e_loop]
  refine ⟨⟨X, P, fun x => addS (sl x) (keepS ks σ), fun x => addH (hp x) (keepH hk H), m⟩, ⟨x0, h0, wk_matchG (by rw [hids x0]; exact hi0.1) (by rw [hids x0]; exact hi0.2) hs (fun _ _ => rfl) hh (fun _ _ => rfl)⟩, fun x hx => vc_mono b _ _ (fun e σ' H' h => ?_) (hr x hx)⟩
  cases e with
  | norm =>
    obtain ⟨y, h1, h2, h3⟩ := h
    exact ⟨y, h1, wk_matchG (by rw [hids y]; exact hi.1) (by rw [hids y]; exact hi.2) h2.1 h2.2.1 h2.2.2.1 h2.2.2.2, h3⟩
  | ex i => exact h
  | ret => exact h
end
end Go.Gv

namespace Go.Gv
set_option linter.unusedSimpArgs false
set_option linter.unusedVariables false
end Go.Gv

namespace Go.Gv
set_option linter.unusedSimpArgs false
set_option linter.unusedVariables false
set_option linter.unusedSectionVars false
open Cod (enc dec)

section
variable {X Y : Type} [Cod X] [Cod Y]
def i2PT (pre : X → List Y → Prop) (post : X → List Y → List Y → Prop) (el n : Nat) : PT := fun d ds H K => ∃ id v l a x, ds = [a, .own id v] ∧ dec a = some x ∧ H id = some (.row v el n (l.map enc)) ∧ pre x l ∧
  ∀ v' l', post x l l' → K (.own id v') (updH H id (some (.row v' el n (l'.map enc))))
theorem i2_mono (pre : X → List Y → Prop) (post : X → List Y → List Y → Prop) (el n : Nat) : MonoPT (i2PT pre post el n) := fun d ds H K K' hk ⟨id, v, l, a, x, h1, h2, h3, h4, h5⟩ => ⟨id, v, l, a, x, h1, h2, h3, h4, fun v' l' hp => hk _ _ (h5 v' l' hp)⟩
/-- A function of x and of a slice of the caller's own, which it gives back changed. -/
def i2C (pre : X → List Y → Prop) (post : X → List Y → List Y → Prop) (el n : Nat) : Spc := .gen _ (i2_mono pre post el n)
def i2X (pre : X → List Y → Prop) (post : X → List Y → List Y → Prop) (el n id : Nat) (v : Value) (o : Option X) (r : Option Res) (H : HMap) (K : D → HMap → Prop) : Prop := ∃ l, r = some (.row v el n (l.map enc)) ∧ optX o fun x => pre x l ∧ ∀ v' l', post x l l' → K (.own id v') (updH H id (some (.row v' el n (l'.map enc))))
@[congr] theorem i2X_cg {pre : X → List Y → Prop} {post : X → List Y → List Y → Prop} {el n id : Nat} {v : Value} {o o' : Option X} {r r' : Option Res} {H : HMap} {K : D → HMap → Prop} (h1 : o = o') (h2 : r = r') : i2X pre post el n id v o r H K = i2X pre post el n id v o' r' H K := by subst h1; subst h2; rfl
@[simp] theorem i2C_pt (pre : X → List Y → Prop) (post : X → List Y → List Y → Prop) (el n : Nat) (d i : Nat) (a : D) (v : Value) (H : HMap) (K : D → HMap → Prop) : (i2C pre post el n).pt d [a, .own i v] H K = i2X pre post el n i v (dec a) (H i) H K := by
  refine propext ⟨fun h => ?_, fun h => ?_⟩
  · obtain ⟨id, v, l, a, x, h1, h2, h3, h4, h5⟩ := h
    cases h1
    refine ⟨l, h3, ?_⟩
    rw [h2]
    exact ⟨h4, h5⟩
  · obtain ⟨l, h1, h2⟩ := h
    cases hd : dec (X := X) a with
    | none => rw [hd] at h2; exact h2.elim
    | some x => rw [hd] at h2; exact ⟨i, v, l, a, x, rfl, hd, h1, h2.1, h2.2⟩
@[simp] theorem i2X_r (pre : X → List Y → Prop) (post : X → List Y → List Y → Prop) (el n id : Nat) (v : Value) (o : Option X) (l : List Y) (H : HMap) (K : D → HMap → Prop) : i2X pre post el n id v o (some (.row v el n (l.map enc))) H K = optX o fun x => pre x l ∧ ∀ v' l', post x l l' → K (.own id v') (updH H id (some (.row v' el n (l'.map enc)))) := by
  refine propext ⟨fun ⟨l', h1, h2⟩ => ?_, fun h => ⟨l, rfl, h⟩⟩
  simp at h1
  subst h1
  exact h2
def WalkI2 (cc : CC) (rs : List CRes) (S : Nat → Spc) (pre : X → List Y → Prop) (post : X → List Y → List Y → Prop) (el n : Nat) : Prop :=
  ∀ v l x, pre x l → vc S cc (retK rs fun r H' => FinF el n (post x l) r H') (initS [enc x, .own 1 v]) (updH noH 1 (some (.row v el n (l.map enc))))
variable {P : Program} {S : Nat → Spc} {f : Nat} {im : List Nat} {cc : CC} {rs : List CRes} {N : Nat} {el n : Nat}
theorem tri_walkI2 {pre : X → List Y → Prop} {post : X → List Y → List Y → Prop} (hS : ∀ f, Tri P f (S f).pt) (h : FnOk P f im cc rs N) (hN : 2 ≤ N) (hw : WalkI2 cc rs S pre post el n) : Tri P f (i2C pre post el n).pt := by
  obtain ⟨mix, enter, fn, code, h1, h2, h3, h4, h5⟩ := h
  refine tri_of_vc hS mix h1 h2 enter h3 h4 h5 ?_
  rintro ds H d K ⟨id, v, l, a, x, rfl, hd, hid, hp, hK⟩
  have hl := Cod.le _ _ hd
  refine ⟨hN, [enc x, .own 1 v], updH noH 1 (some (.row v el n (l.map enc))), fun _ => id, .cons hl (.cons (.own _ _ _) .nil), fun i r h => ?_, fun i j r s h h' _ => ?_, _, hw v l x hp, ?_⟩
  · by_cases e : i = 1
    · subst e
      simp only [updH, if_true] at h
      cases h
      exact hid
    · simp [updH, e] at h
  · have a : i = 1 := by
      by_cases e : i = 1
      · exact e
      · simp [updH, e] at h
    have b : j = 1 := by
      by_cases e : j = 1
      · exact e
      · simp [updH, e] at h'
    exact a.trans b.symm
  · rintro r H' ⟨j, v', l', rfl, hj, hpost⟩
    refine ⟨.own id v', noH, updH H id (some (.row v' el n (l'.map enc))), fun i => if i = id then some j else none, .own _ _ _, fun j q h => by simp at h, hK v' l' hpost, fun i s hi => ?_, fun i j' k s q hi hj' e1 e2 => ?_⟩
    · by_cases e : i = id
      · subst e
        simp only [updH, if_true] at hi
        cases hi
        simpa using hj
      · simp only [updH, e, if_false] at hi ⊢
        exact ⟨hi, fun k q h he => e he.symm⟩
    · have a : i = id := by
        by_cases e : i = id
        · exact e
        · simp [e] at e1
      have b : j' = id := by
        by_cases e : j' = id
        · exact e
        · simp [e] at e2
      exact a.trans b.symm
end

/-! ### A box, more arguments, a result, resources of fixed names -/
section
variable {X Y Z : Type}
structure BoxF (X : Type) where
  ids : List Nat
  ce : X → List D
  hp : X → List (Nat × Res)
  keys : ∀ x, (hp x).map (·.1) = ids
theorem addN_mem : ∀ {l : List (Nat × Res)} {i : Nat} {s : Res}, addH l noH i = some s → (i, s) ∈ l
  | [], i, s, h => by simp [addH, noH] at h
  | (j, r) :: l, i, s, h => by
    simp only [addH, updH] at h
    by_cases e : i = j
    · subst e
      simp only [if_true] at h
      cases h
      simp
    · simp only [e, if_false] at h
      exact List.mem_cons_of_mem _ (addN_mem h)
theorem addN_key : ∀ {l : List (Nat × Res)} {H : HMap} {i : Nat} {s : Res}, i ∈ l.map (·.1) → addH l H i = some s → (i, s) ∈ l
  | (j, r) :: l, H, i, s, hi, h => by
    simp only [addH, updH] at h
    by_cases e : i = j
    · subst e
      simp only [if_true] at h
      cases h
      simp
    · simp only [e, if_false] at h
      simp [e] at hi
      refine List.mem_cons_of_mem _ (addN_key (H := H) ?_ h)
      simpa using hi
theorem addN_off : ∀ {l : List (Nat × Res)} {H : HMap} {i : Nat}, i ∉ l.map (·.1) → addH l H i = H i
  | [], H, i, _ => rfl
  | (j, r) :: l, H, i, hi => by
    simp only [List.map_cons, List.mem_cons, not_or] at hi
    simp only [addH, updH, hi.1, if_false]
    exact addN_off hi.2
def bpPT (B : BoxF X) (A : Arg Z) (er : Y → D) (pre : X → Z → Prop) (post : X → Z → X → Y → Prop) : PT := fun d ds H K => ∃ id b x z ds', ds = .bptr id b 0 :: ds' ∧ A.dec ds' = some z ∧ H id = some (.box b (B.ce x)) ∧ (∀ p ∈ B.hp x, H p.1 = some p.2) ∧ id ∉ B.ids ∧ pre x z ∧
  ∀ x' y, post x z x' y → K (er y) (updH (addH (B.hp x') H) id (some (.box b (B.ce x'))))
theorem bp_mono (B : BoxF X) (A : Arg Z) (er : Y → D) (pre : X → Z → Prop) (post : X → Z → X → Y → Prop) : MonoPT (bpPT B A er pre post) := fun d ds H K K' hk ⟨id, b, x, z, ds', h1, h2, h3, h4, h5, h6, h7⟩ => ⟨id, b, x, z, ds', h1, h2, h3, h4, h5, h6, fun x' y hp => hk _ _ (h7 x' y hp)⟩
def bpC (B : BoxF X) (A : Arg Z) (er : Y → D) (pre : X → Z → Prop) (post : X → Z → X → Y → Prop) : Spc := .gen _ (bp_mono B A er pre post)
def FinBP (B : BoxF X) (er : Y → D) (b : Nat) (post : X → Y → Prop) (r : D) (H : HMap) : Prop := ∃ x y, FrzTo (fun i => if i = 0 ∨ i ∈ B.ids then none else H i) r (er y) ∧ H 0 = some (.box b (B.ce x)) ∧ (∀ p ∈ B.hp x, H p.1 = some p.2) ∧ post x y
def WalkBP (cc : CC) (rs : List CRes) (S : Nat → Spc) (B : BoxF X) (A : Arg Z) (er : Y → D) (pre : X → Z → Prop) (post : X → Z → X → Y → Prop) : Prop :=
  ∀ b x z, pre x z → vc S cc (retK rs fun r H' => FinBP B er b (post x z) r H') (initS (.bptr 0 b 0 :: A.view z)) (updH (addH (B.hp x) noH) 0 (some (.box b (B.ce x))))
variable {P : Program} {S : Nat → Spc} {f : Nat} {im : List Nat} {cc : CC} {rs : List CRes} {N : Nat}
theorem tri_walkBP {B : BoxF X} {A : Arg Z} {er : Y → D} {pre : X → Z → Prop} {post : X → Z → X → Y → Prop} (h1i : 0 ∉ B.ids) (hS : ∀ f, Tri P f (S f).pt) (h : FnOk P f im cc rs N) (hN : ∀ z, (A.view z).length + 1 ≤ N) (hw : WalkBP cc rs S B A er pre post) : Tri P f (bpC B A er pre post).pt := by
  obtain ⟨mix, enter, fn, code, h1, h2, h3, h4, h5⟩ := h
  refine tri_of_vc hS mix h1 h2 enter h3 h4 h5 ?_
  rintro ds H d K ⟨id, b, x, z, ds', rfl, hd, hid, hhp, hni, hp, hK⟩
  have hl := A.le ds' z hd
  have h0 : ∀ i r, updH (addH (B.hp x) noH) 0 (some (.box b (B.ce x))) i = some r → i = 0 ∧ r = .box b (B.ce x) ∨ i ≠ 0 ∧ (i, r) ∈ B.hp x := by
    intro i r h
    by_cases e : i = 0
    · subst e
      simp only [updH, if_true] at h
      cases h
      exact .inl ⟨rfl, rfl⟩
    · simp only [updH, e, if_false] at h
      exact .inr ⟨e, addN_mem h⟩
  have hk : ∀ {x : X} {i : Nat} {r : Res}, (i, r) ∈ B.hp x → i ∈ B.ids := by
    intro x i r h
    rw [← B.keys x]
    exact List.mem_map.2 ⟨_, h, rfl⟩
  refine ⟨by simp only [List.length_cons]; rw [hl.1]; exact hN z, .bptr 0 b 0 :: A.view z, updH (addH (B.hp x) noH) 0 (some (.box b (B.ce x))), fun i => if i = 0 then id else i, .cons (.bptr _ _ _ _) hl, fun i r h => ?_, fun i j r s h h' e => ?_, _, hw b x z hp, ?_⟩
  · rcases h0 i r h with ⟨rfl, rfl⟩ | ⟨e, hm⟩
    · exact hid
    · simp only [e, if_false]
      exact hhp _ hm
  · rcases h0 i r h with ⟨rfl, rfl⟩ | ⟨e1, hm⟩
    · rcases h0 j s h' with ⟨rfl, rfl⟩ | ⟨e2, hm2⟩
      · rfl
      · simp only [e2, if_true, if_false] at e
        subst e
        exact absurd (hk hm2) hni
    · rcases h0 j s h' with ⟨rfl, rfl⟩ | ⟨e2, hm2⟩
      · simp only [e1, if_true, if_false] at e
        subst e
        exact absurd (hk hm) hni
      · simpa only [e1, e2, if_false] using e
  · rintro r H' ⟨x', y, hfr, hj, hhp', hpost⟩
    refine ⟨er y, fun i => if i = 0 ∨ i ∈ B.ids then none else H' i, updH (addH (B.hp x') H) id (some (.box b (B.ce x'))), fun i => if i = id then some 0 else if i ∈ B.ids then some i else none, hfr, fun j q h => ?_, hK x' y hpost, fun i s hi => ?_, fun i j' k s q hi hj' e1 e2 => ?_⟩
    · by_cases e : j = 0 ∨ j ∈ B.ids
      · simp [e] at h
      · simp only [e, if_false] at h
        refine ⟨h, fun i hh => e ?_⟩
        by_cases e1 : i = id
        · simp only [e1, if_true] at hh
          cases hh
          exact .inl rfl
        · simp only [e1, if_false] at hh
          by_cases e2 : i ∈ B.ids
          · simp only [e2, if_true] at hh
            cases hh
            exact .inr e2
          · simp [e2] at hh
    · by_cases e : i = id
      · subst e
        simp only [updH, if_true] at hi
        cases hi
        simpa using hj
      · simp only [updH, e, if_false] at hi ⊢
        by_cases e2 : i ∈ B.ids
        · simp only [e2, if_true]
          exact hhp' _ (addN_key (by rw [B.keys]; exact e2) hi)
        · simp only [e2, if_false]
          rw [addN_off (by rw [B.keys]; exact e2)] at hi
          refine ⟨hi, fun k q h he => ?_⟩
          rcases h0 k q h with ⟨rfl, rfl⟩ | ⟨e3, hm⟩
          · simp only [if_true] at he
            exact e he.symm
          · simp only [e3, if_false] at he
            subst he
            exact e2 (hk hm)
    · by_cases c1 : i = id
      · by_cases c2 : j' = id
        · exact c1.trans c2.symm
        · simp only [c1, if_true] at e1
          cases e1
          simp only [c2, if_false] at e2
          by_cases c3 : j' ∈ B.ids
          · simp only [c3, if_true] at e2
            cases e2
            exact absurd c3 h1i
          · simp [c3] at e2
      · simp only [c1, if_false] at e1
        by_cases c3 : i ∈ B.ids
        · simp only [c3, if_true] at e1
          cases e1
          by_cases c2 : j' = id
          · simp only [c2, if_true] at e2
            cases e2
            exact absurd c3 h1i
          · simp only [c2, if_false] at e2
            by_cases c4 : j' ∈ B.ids
            · simp only [c4, if_true] at e2
              cases e2
              rfl
            · simp [c4] at e2
        · simp [c3] at e1

/-- Where the box holds data only, and what it holds can be read. -/
def boxD {X : Type} (ce : X → List D) : BoxF X := ⟨[], ce, fun _ => [], fun _ => rfl⟩
def bpX (ce : X → List D) (rd : List D → Option X) (er : Y → D) (pre : X → Z → Prop) (post : X → Z → X → Y → Prop) (id b : Nat) (r : Option Res) (o : Option Z) (H : HMap) (K : D → HMap → Prop) : Prop :=
  match r with
  | some (.box b' cs) => b' = b ∧ optX (rd cs) fun x => optX o fun z => pre x z ∧ ∀ x' y, post x z x' y → K (er y) (updH H id (some (.box b (ce x'))))
  | _ => False
@[congr] theorem bpX_cg {ce : X → List D} {rd : List D → Option X} {er : Y → D} {pre : X → Z → Prop} {post : X → Z → X → Y → Prop} {id b : Nat} {r r' : Option Res} {o o' : Option Z} {H : HMap} {K : D → HMap → Prop} (h1 : r = r') (h2 : o = o') : bpX ce rd er pre post id b r o H K = bpX ce rd er pre post id b r' o' H K := by subst h1; subst h2; rfl
@[simp] theorem bpX_b (ce : X → List D) (rd : List D → Option X) (er : Y → D) (pre : X → Z → Prop) (post : X → Z → X → Y → Prop) (id b : Nat) (cs : List D) (o : Option Z) (H : HMap) (K : D → HMap → Prop) : bpX ce rd er pre post id b (some (.box b cs)) o H K = optX (rd cs) fun x => optX o fun z => pre x z ∧ ∀ x' y, post x z x' y → K (er y) (updH H id (some (.box b (ce x')))) := by
  simp [bpX]
end
end Go.Gv

namespace Go.Gv
set_option linter.unusedSimpArgs false
set_option linter.unusedVariables false
set_option maxRecDepth 100000
open Cod (enc dec)
variable {S S0 : Nat → Spc}
abbrev nilDp : D := .v (.slice none 0 0)
def PLv (x : Pat) (l : List Pat) : Prop := l.length + (leavesP x).length ≤ 100000000
theorem lv_len {ks : List Pat} {k : Nat} {x : Pat} {l : List Pat} (hx : ks[k]? = some x) (h : l.length + (ks.flatMap leavesP).length ≤ 100000000) : PLv x (l ++ (ks.take k).flatMap leavesP) := by
  have : ks = ks.take k ++ x :: ks.drop (k + 1) := by rw [← drop_cons_of hx, List.take_append_drop]
  rw [this] at h
  simp only [List.flatMap_append, List.flatMap_cons, List.length_append] at h
  unfold PLv
  rw [List.length_append]
  omega
abbrev s_sizeA : Spc := spc (a1 Pat) (fun x => patB validN x = true) (enc (X := Int)) fun x y => y = sizeP x
abbrev s_r23_Size : Spc := spc (a1 Pat) (fun _ => True) (enc (X := Int)) fun x y => y = if patB validN x then sizeP x else 0
abbrev s_widthA : Spc := spc (a1 Pat) (fun x => patB validN x = true) (er2 (Y := Int) (Z := Int)) fun x y => y = widP x
abbrev s_Width : Spc := spc (a1 Pat) (fun _ => True) (er2 (Y := Int) (Z := Int)) fun x y => y = if patB validN x then widP x else (0, 0)
end Go.Gv

namespace Go.Gv
set_option linter.unusedSimpArgs false
set_option linter.unusedVariables false
set_option maxRecDepth 100000
open Cod (enc dec)
variable {S S0 : Nat → Spc}
/-- an empty slice in a box becomes a row of its own -/
theorem wk_nilbox {σ : Sg} {H : HMap} {k j b el n : Nat} {cs cs' : List D} (hkj : j ≠ k) (hk : H k = some (.box b cs)) (hl : cs.length = cs'.length) (hc : ∀ (m : Nat) (c c' : D), cs[m]? = some c → cs'[m]? = some c' → FrzTo noH c c') :
    Wk σ H σ (updH (updH H k (some (.box b cs'))) j (some (.row (.slice none 0 0) el n []))) := by
  refine wk_all (Hf := noH) id (fun t => .same _) (fun i r h => ?_) (fun i j r s _ _ e => .inl e) (fun i r h => by simp [noH] at h)
  by_cases e : i = j
  · subst e
    simp [updH] at h
    subst h
    exact .inr ⟨rfl, rfl⟩
  · by_cases e2 : i = k
    · subst e2
      simp [updH, e] at h
      subst h
      exact .inl ⟨_, hk, .inr ⟨rfl, hl, hc⟩⟩
    · simp only [updH, e, e2, if_false] at h
      exact .inl ⟨r, h, .inl rfl⟩
def narC : Nat → Cond → Prop
  | 0, _ => False
  | n + 1, x => x.kids.length ≤ 1000000 ∧ ∀ k ∈ x.kids, narC n k
abbrev s_copied (n : Nat) : Spc := spc (a1 Cond) (narC n) (enc (X := Cond)) fun x y => y = x
theorem w_query_copied (n : Nat) (h1 : S f_query_copied = s_copied n) : Walk cc_query_copied rs_query_copied S (a1 Cond) (narC (n + 1)) (enc (X := Cond)) fun x y => y = x := by
  rintro ⟨op, name, arg, val, lab, fold, kids⟩ ⟨hlen, hk⟩
  simp only at hlen hk
  simp [cc_query_copied, rs_query_copied]
  intro b2 b3 hkl
  refine vc_rangeW (wk_nilbox (k := 3) (j := 20) (b := b3) (el := ty_Cond) (n := 7) (cs' := [.v (.int .i64 op), .v (.string name), .v (.string arg), .v (.string val), .v (.string lab), .v (.bool fold), .own 20 (.slice none 0 0)]) (by decide) (by simp; rfl) (by simp) ?_) ?_
  · intro m c c' hc hc'
    match m with
    | 0 | 1 | 2 | 3 | 4 | 5 => simp at hc hc'; subst hc; subst hc'; exact .same _
    | 6 => simp at hc hc'; subst hc; subst hc'; exact .nilown _
    | m + 7 => simp at hc
  refine vc_range (X := Value × List Cond) [2, 9] [2] kids.length (fun k x => x.2 = kids.take k) (fun x => [(3, .bptr 3 b3 0)]) (fun x => [(3, .box b3 [.v (.int .i64 op), .v (.string name), .v (.string arg), .v (.string val), .v (.string lab), .v (.bool fold), .own 20 x.1]), (20, .row x.1 ty_Cond 7 (x.2.map enc))]) (.slice none 0 0, []) (by simp) (by simp) (by omega) (by simp) (by simp) (by simp) (by simp) (by simp) ?_ ?_
  · rintro k ⟨v, m⟩ hkl' hm
    simp only at hm
    obtain ⟨x, hx⟩ := at_lt hkl'
    obtain ⟨_, hgx⟩ := List.getElem?_eq_some_iff.1 hx
    have hx1 := hk x (mem_at hx)
    have hml : m.length = k := by rw [hm, List.length_take]; omega
    simp [h1, hkl', hx, hgx, hx1]
    refine ⟨by omega, by omega, fun v => .inl (.inl ?_)⟩
    rw [hm, List.map_take, List.take_add_one]
    simp [hx]
  · rintro ⟨v, m⟩ hm
    simp only at hm
    rw [List.take_length] at hm
    subst hm
    simp
    refine fin_of (Y := Cond) ⟨op, name, arg, val, lab, fold, m⟩ ?_ rfl
    simp
    refine .agg (by simp) fun i c c' h h' => ?_
    match i with
    | 0 | 1 | 2 | 3 | 4 | 5 => simp at h h'; subst h; subst h'; exact .same _
    | 6 => simp at h h'; subst h; subst h'; exact fz_o ty_Cond (by simp)
    | i + 7 => simp at h
theorem fzA {H : HMap} {l l' : List D} (h : FzL H l l') : FrzTo H (.agg l) (.agg l') := .agg h.get.1 h.get.2
abbrev s_copiedA : Spc := spc (a1 Cond) (fun x => ∃ n, narC n x) (enc (X := Cond)) fun x y => y = x
def cloneP (p : Pat) : Pat := ⟨p.op, p.cond, p.lab, ⟨#[]⟩, 0, 0, []⟩
abbrev s_clone : Spc := spc (a1 Pat) (fun p => ∃ n, narC n p.cond) (enc (X := Pat)) fun x y => y = cloneP x
theorem w_query_clone (h1 : S f_query_copied = s_copiedA) : Walk cc_query_clone rs_query_clone S (a1 Pat) (fun p => ∃ n, narC n p.cond) (enc (X := Pat)) fun x y => y = cloneP x := by
  rintro p hp
  simp [cc_query_clone, rs_query_clone, h1, hp]
  intro b
  refine fin_of (Y := Pat) (cloneP p) ?_ rfl
  unfold cloneP
  simp
  refine fzA ?_
  simp
def leavesQ (p : Pat) : List Pat := (leavesP p).map cloneP
theorem leavesQ_eq (p : Pat) : leavesQ p = if p.op = 1 then [cloneP p] else p.kids.flatMap leavesQ := by
  unfold leavesQ
  rw [leavesP_eq]
  split
  · rfl
  · rw [List.map_flatMap]
/-- the leaves' conditions are not too wide -/
def PLc (p : Pat) : Prop := ∀ y ∈ leavesP p, ∃ n, narC n y.cond
theorem PLc.kid {p k : Pat} (h : PLc p) (hne : ¬ p.op = 1) (hk : k ∈ p.kids) : PLc k := fun y hy => h y (by rw [leavesP_eq, if_neg hne]; exact List.mem_flatMap.2 ⟨k, hk, hy⟩)
theorem lq_app {ks : List Pat} {k : Nat} {x : Pat} (l : List Pat) (hx : ks[k]? = some x) : (l ++ (ks.take k).flatMap leavesQ) ++ leavesQ x = l ++ (ks.take (k + 1)).flatMap leavesQ := by
  rw [take_snoc hx, List.flatMap_append, List.flatMap_singleton, List.append_assoc]
def PLq (x : Pat) (l : List Pat) : Prop := l.length + (leavesP x).length ≤ 100000000 ∧ PLc x
theorem lq_len (ks : List Pat) : (ks.flatMap leavesQ).length = (ks.flatMap leavesP).length := by
  induction ks with
  | nil => rfl
  | cons k ks ih => simp only [List.flatMap_cons, List.length_append, ih]; unfold leavesQ; simp
theorem lq_pre {ks : List Pat} {k : Nat} {x : Pat} {l : List Pat} (hx : ks[k]? = some x) (h : l.length + (ks.flatMap leavesP).length ≤ 100000000) (hc : PLc x) : PLq x (l ++ (ks.take k).flatMap leavesQ) := by
  have := lv_len hx h
  unfold PLv at this
  refine ⟨?_, hc⟩
  simp only [List.length_append] at this ⊢
  rw [lq_len]
  exact this
abbrev i_leavesQ (n : Nat) : Spc := i2C (X := Pat) (Y := Pat) (fun x l => pDep x ≤ n ∧ PLq x l) (fun x l r => r = l ++ leavesQ x) ty_Pattern 13
abbrev i_leavesQA : Spc := i2C (X := Pat) (Y := Pat) (fun x l => PLq x l) (fun x l r => r = l ++ leavesQ x) ty_Pattern 13
theorem w_query_leaves (n : Nat) (h1 : S f_query_leaves = i_leavesQ n) (h2 : S f_query_clone = s_clone) : WalkI2 (X := Pat) (Y := Pat) cc_query_leaves rs_query_leaves S (fun x l => pDep x ≤ n + 1 ∧ PLq x l) (fun x l r => r = l ++ leavesQ x) ty_Pattern 13 := by
  rintro v l p ⟨hp, hl, hc⟩
  have hk : ∀ k ∈ p.kids, pDep k ≤ n := fun k hk => by have := pDep_kid hk; have : pDep p ≤ n + 1 := hp; omega
  have hl' := hl
  rw [leavesP_eq] at hl'
  simp [cc_query_leaves, rs_query_leaves, h2]
  refine ⟨fun h1 => ?_, fun hne _ => ?_⟩
  · have hcc : ∃ n, narC n p.cond := hc p (by rw [leavesP_eq, if_pos h1]; simp)
    simp [h1] at hl'
    exact ⟨hcc, by omega, by omega, fun v => finF_of (l ++ leavesQ p) (by simp [leavesQ_eq, h1]) rfl⟩
  rw [if_neg hne] at hl'
  refine vc_range (X := Value × List Pat) [16] [] p.kids.length (fun k x => x.2 = l ++ (p.kids.take k).flatMap leavesQ) (fun x => [(1, .own 1 x.1)]) (fun x => [(1, .row x.1 ty_Pattern 13 (x.2.map enc))]) (v, l) (by simp) (by simp) (by omega) (by simp) (by simp) (by simp) (by simp) (by simp [isNilRow]) ?_ ?_
  · rintro k ⟨v, m⟩ hkl hm
    simp only at hm
    obtain ⟨x, hx⟩ := at_lt hkl
    have hx1 := mem_at hx
    obtain ⟨_, hgx⟩ := List.getElem?_eq_some_iff.1 hx
    have q1 := lq_pre hx hl' (hc.kid hne hx1)
    rw [← hm] at q1
    have q2 := hk x hx1
    simp [h1, hkl, hx, hgx, q1, q2]
    intro v'
    refine .inl ?_
    rw [hm, lq_app _ hx]
  · rintro ⟨v, m⟩ hm
    simp only at hm
    rw [List.take_length] at hm
    simp
    refine finF_of m (by simp) ?_
    rw [hm, leavesQ_eq, if_neg hne]
abbrev f_leavesQ : Spc := frC (Y := Pat) (aE Pat (aD a0)) (fun x => x.2.1 = nilDp ∧ PLq x.1 []) (fun x r => r = leavesQ x.1) ty_Pattern 13
theorem w_query_leavesF (h1 : S f_query_leaves = i_leavesQA) (h2 : S f_query_clone = s_clone) : WalkF (Y := Pat) cc_query_leaves rs_query_leaves S (aE Pat (aD a0)) (fun x => x.2.1 = nilDp ∧ PLq x.1 []) (fun x r => r = leavesQ x.1) ty_Pattern 13 := by
  rintro ⟨p, d, ⟨⟩⟩ ⟨hd, hl, hc⟩
  have hd : d = nilDp := hd
  subst hd
  have hl' : ([] : List Pat).length + (leavesP p).length ≤ 100000000 := hl
  rw [leavesP_eq] at hl'
  simp [cc_query_leaves, rs_query_leaves, h2]
  refine ⟨fun h1 => ⟨hc p (by rw [leavesP_eq, if_pos h1]; simp), fun v => finF_of (leavesQ p) (by simp [leavesQ_eq, h1]) rfl⟩, fun hne _ => ?_⟩
  rw [if_neg hne] at hl'
  refine vc_range (X := Value × List Pat) [16] [] p.kids.length (fun k x => x.2 = [] ++ (p.kids.take k).flatMap leavesQ) (fun x => [(1, .own 1 x.1)]) (fun x => [(1, .row x.1 ty_Pattern 13 (x.2.map enc))]) (.slice none 0 0, []) (by simp) (by simp) (by omega) (by simp) (by simp) (by simp) (by simp) (by simp [isNilRow]) ?_ ?_
  · rintro k ⟨v, m⟩ hkl hm
    simp only at hm
    obtain ⟨x, hx⟩ := at_lt hkl
    have hx1 := mem_at hx
    obtain ⟨_, hgx⟩ := List.getElem?_eq_some_iff.1 hx
    have q1 := lq_pre hx hl' (hc.kid hne hx1)
    rw [← hm] at q1
    simp [h1, hkl, hx, hgx, q1]
    intro v'
    refine .inl ?_
    rw [hm, lq_app _ hx]
    rfl
  · rintro ⟨v, m⟩ hm
    simp only at hm
    rw [List.take_length] at hm
    simp
    refine finF_of m (by simp) ?_
    rw [hm, leavesQ_eq, if_neg hne]
    rfl
abbrev s_leavesQ : Spc := orC f_leavesQ i_leavesQA
end Go.Gv

namespace Go.Gv
set_option linter.unusedSimpArgs false
set_option linter.unusedVariables false
set_option maxRecDepth 100000
open Cod (enc dec)
variable {S S0 : Nat → Spc}
abbrev s_zero : Spc := spc (a1 Cond) (fun _ => True) (enc (X := Bool)) fun x y => (y = true ↔ x = Cond0)
theorem w_query_zero : Walk cc_query_zero rs_query_zero S (a1 Cond) (fun _ => True) (enc (X := Bool)) fun x y => (y = true ↔ x = Cond0) := by
  rintro ⟨op, n, a, v, l, f, ks⟩ -
  simp [cc_query_zero, rs_query_zero, Cond0]
  repeat' first | apply And.intro | intro _
  all_goals simp_all
abbrev s_node : Spc := spc (a1 Pat) (fun _ => True) (enc (X := Bool)) fun x y => y = nodeB x
theorem w_query_node (h1 : S f_query_zero = s_zero) : Walk cc_query_node rs_query_node S (a1 Pat) (fun _ => True) (enc (X := Bool)) fun x y => y = nodeB x := by
  rintro p -
  simp [cc_query_node, rs_query_node, h1, -Bool.forall_bool]
  clear h1
  repeat' first | apply And.intro | intro _
  all_goals (rw [Bool.eq_iff_iff, nodeB_iff]; unfold NodeOk; simp_all; try omega)
abbrev s_named : Spc := spc (a1 Pat) (fun _ => True) (enc (X := Bool)) fun x y => y = nameB validN x
theorem w_query_named (h1 : S f_markup_ValidName = s_validN) : Walk cc_query_named rs_query_named S (a1 Pat) (fun _ => True) (enc (X := Bool)) fun x y => y = nameB validN x := by
  rintro p -
  simp [cc_query_named, rs_query_named, h1, nameB, -Bool.forall_bool]
  clear h1
  repeat' first | apply And.intro | intro _
  all_goals (first | omega | simp_all; try omega)
abbrev s_ranged : Spc := spc (a1 Pat) (fun _ => True) (enc (X := Bool)) fun x y => y = numB x
theorem w_query_ranged : Walk cc_query_ranged rs_query_ranged S (a1 Pat) (fun _ => True) (enc (X := Bool)) fun x y => y = numB x := by
  rintro p -
  simp [cc_query_ranged, rs_query_ranged, numB]
  repeat' first | apply And.intro | intro _
  all_goals (first | omega | (rw [Bool.eq_iff_iff]; simp; omega))
end Go.Gv

namespace Go.Gv
set_option linter.unusedSimpArgs false
set_option linter.unusedVariables false
set_option maxRecDepth 100000
open Cod (enc dec)
variable {S S0 : Nat → Spc}
theorem w_query_size (n : Nat) (h1 : S f_query_size = s_size n) : Walk cc_query_size rs_query_size S (a1 Pat) (PPat (n + 1)) (enc (X := Int)) fun x y => y = sizeP x := by
  rintro p hp
  have hk : ∀ k ∈ p.kids, PPat n k := fun k => hp.kid
  have hs : ∀ k ∈ p.kids, 0 ≤ sizeP k ∧ sizeP k ≤ 1000 := fun k h => sizeP_rng (v := validN) k (hk k h).2
  simp [cc_query_size, rs_query_size]
  intro _
  refine vc_range (X := Int) [1, 7] [] p.kids.length (fun k n => n = sizePs (p.kids.take k) 0) (fun n => [(3, enc n)]) (fun _ => []) 0 (by simp) (by simp) (by omega) (by simp) (by simp) (by simp [sizePs]) (by simp) (by simp) ?_ ?_
  · rintro k m hkl hP
    obtain ⟨x, hx⟩ := at_lt hkl
    have hx1 := mem_at hx
    obtain ⟨_, hgx⟩ := List.getElem?_eq_some_iff.1 hx
    have hm := sizePs_rng (p.kids.take k) 0 (by omega) (by omega) (fun y hy => (hs y (List.mem_of_mem_take hy)).1)
    have h2 := hs x hx1
    rw [← hP] at hm
    have q1 := hk x hx1
    simp [h1, hkl, hx, hgx, q1]
    refine ⟨by simp only [InR]; omega, ?_⟩
    rw [take_snoc hx, sizePs_app, ← hP, sizePs, sizePs]
  · rintro m hP
    have hm := sizePs_rng (p.kids.take p.kids.length) 0 (by omega) (by omega) (fun y hy => (hs y (List.mem_of_mem_take hy)).1)
    rw [← hP] at hm
    rw [List.take_length] at hP
    have hn := (patB_node hp.2).2.2
    unfold numB at hn
    rw [decide_eq_true_eq] at hn
    rw [sizeP_eq, sizeN, ← hP]
    simp
    intro _
    refine ⟨fun h => fun h' => absurd h h', fun h0 => ⟨fun h6 => ?_, fun h6 => by rw [if_neg h0, if_neg h6]⟩⟩
    rw [if_neg h0, if_pos h6]
    have hn := hn h6
    refine ⟨fun e => by rw [if_neg (by omega), if_pos e], fun e => ⟨fun e2 => ?_, fun e2 => ?_⟩⟩
    · have h2 := mul_rng hm.1 hm.2 (show 0 ≤ p.mn + 1 by omega) (show p.mn + 1 ≤ 17 by omega)
      rw [if_pos (by omega)]
      exact ⟨by simp only [InR]; omega, by simp only [InR]; omega, rfl⟩
    · have h2 := mul_rng hm.1 hm.2 (show 0 ≤ p.mx by omega) (show p.mx ≤ 16 by omega)
      rw [if_neg (by omega), if_neg e]
      exact ⟨by simp only [InR]; omega, rfl⟩
theorem w_query_Size (h1 : S f_query_right = s_r23_IsPattern) (h2 : S f_query_size = s_sizeA) : Walk cc_query_Size rs_query_Size S (a1 Pat) (fun _ => True) (enc (X := Int)) fun x y => y = if patB validN x then sizeP x else 0 := by
  rintro p -
  simp [cc_query_Size, rs_query_Size, h1, h2, -Bool.forall_bool]
  exact ⟨fun h1 h2 => absurd (h1.symm.trans h2) (by simp), fun h1 => ⟨h1, fun h2 => absurd (h2.symm.trans h1) (by simp)⟩⟩
theorem w_query_Width (h1 : S f_query_right = s_r23_IsPattern) (h2 : S f_query_width = s_widthA) : Walk cc_query_Width rs_query_Width S (a1 Pat) (fun _ => True) (er2 (Y := Int) (Z := Int)) fun x y => y = if patB validN x then widP x else (0, 0) := by
  rintro p -
  simp [cc_query_Width, rs_query_Width, h1, h2, er2, -Bool.forall_bool]
  exact ⟨fun h1 h2 => absurd (h1.symm.trans h2) (by simp), fun h1 => ⟨h1, fun h2 => absurd (h2.symm.trans h1) (by simp)⟩⟩
theorem w_query_width (n : Nat) (h1 : S f_query_width = s_width n) : Walk cc_query_width rs_query_width S (a1 Pat) (PPat (n + 1)) (er2 (Y := Int) (Z := Int)) fun x y => y = widP x := by
  rintro p hp
  have hk : ∀ k ∈ p.kids, PPat n k := fun k => hp.kid
  have hs : ∀ k ∈ p.kids, WidOk (widP k) := fun k h => widP_ok (v := validN) k (hk k h).2
  have hn := (patB_node hp.2).2.2
  unfold numB at hn
  rw [decide_eq_true_eq] at hn
  rcases node_kids (patB_node hp.2).1 with ⟨ho, _⟩ | ⟨ho, _⟩ | ⟨ho, k0, ks, hkk⟩ | ⟨ho, k0, hkk⟩
  · simp [cc_query_width, rs_query_width, h1, ho, widP1 ho]
  · have := widP2 ho
    rcases ho with ho | ho <;> simp [cc_query_width, rs_query_width, h1, ho, this]
  · have hc : p.op ≠ 1 ∧ p.op ≠ 2 ∧ p.op ≠ 3 ∧ p.op ≠ 6 := by omega
    have q1 := hk k0 (by rw [hkk]; simp)
    have q2 := hs k0 (by rw [hkk]; simp)
    simp [cc_query_width, rs_query_width, h1, hc, er2, hkk, q1]
    refine ⟨by omega, fun _ => ?_⟩
    refine vc_range (X := Int × Int) [1, 69] [] ks.length (fun k w => w = widPs (decide (p.op = 4)) (ks.take k) (widP k0) ∧ WidOk w) (fun w => [(6, enc w.1), (7, enc w.2)]) (fun _ => []) (widP k0) (by simp) (by simp) (by omega) (by simp) (by simp) (by simp [widPs, q2]) (by simp) (by simp) ?_ ?_
    · rintro k w hkl ⟨hP1, hP2⟩
      obtain ⟨x, hx⟩ := at_lt hkl
      have hx1 : x ∈ p.kids := by rw [hkk]; exact List.mem_cons_of_mem _ (mem_at hx)
      obtain ⟨_, hgx⟩ := List.getElem?_eq_some_iff.1 hx
      have q3 := hk x hx1
      have q4 := hs x hx1
      have key : ∀ r : Int × Int, r = widC (decide (p.op = 4)) w (widP x) → r = widPs (decide (p.op = 4)) (ks.take (k + 1)) (widP k0) ∧ WidOk r := by
        intro r hr
        rw [take_snoc hx, widPs_app, widPs, widPs, ← hP1]
        exact ⟨hr, by rw [hr]; exact widC_ok hP2 q4⟩
      simp [h1, hkl, hx, hgx, q3, er2]
      clear h1
      generalize widP x = u at q4 key
      obtain ⟨u1, u2⟩ := u
      obtain ⟨w1, w2⟩ := w
      unfold WidOk at q4 hP2
      simp only at q4 hP2
      clear hP1
      refine ⟨fun e1 => ⟨fun h4 => ⟨by simp only [InR]; omega, by simp only [InR]; omega, fun e2 => key _ ?_, fun e2 => key _ ?_⟩, fun h4 => ⟨fun e2 => key _ ?_, fun e2 => key _ ?_⟩⟩, fun e1 => ⟨fun h4 => ⟨by simp only [InR]; omega, by simp only [InR]; omega, key _ ?_⟩, fun h4 => key _ ?_⟩⟩
      all_goals clear key
      all_goals (try simp only at e1)
      all_goals (try simp only at e2)
      all_goals (unfold widC; simp [h4]; try omega)
    · rintro w ⟨hP, _⟩
      simp [er2]
      rw [widP4 ho hkk]
      rw [List.take_length] at hP
      rw [← hP]
  · have q1 := hk k0 (by rw [hkk]; simp)
    have q2 := hs k0 (by rw [hkk]; simp)
    have hn := hn ho
    simp [cc_query_width, rs_query_width, h1, ho, hkk, q1, er2]
    rw [widP6 ho hkk]
    generalize widP k0 = w at q2
    unfold WidOk at q2
    have h2 := mul_rng q2.1 q2.2.1 hn.1 hn.2.1
    refine ⟨by simp only [InR]; omega, fun e1 => ⟨fun e2 => by rw [if_pos (.inr e2)], fun e2 => ⟨fun e3 => ⟨fun e4 => ?_, fun e4 => ?_⟩, fun e3 => ?_⟩⟩, fun e1 => by rw [if_pos (.inl e1)]⟩
    · rw [if_neg (by omega), if_pos (by omega)]
    · have h3 := mul_rng e4 q2.2.2.2 (show 0 ≤ p.mx by omega) (show p.mx ≤ 16 by omega)
      refine ⟨by simp only [InR]; omega, ?_⟩
      rw [if_neg (by omega), if_neg (by omega)]
    · rw [if_neg (by omega), if_pos (by omega)]
end Go.Gv
