/- A part of the framework and of the walks: T18 W14 T19 W15 T20 W16 W9 W42 T21 T22 V6 W43 V7 V8 V12 V13. -/
import Derived.Test.YtaiffcbkmgfklaaGreatDoorGy16
import Derived.Test.YtaiffcbkmgfklaaGreatDoorGy15
import Derived.Test.YtaiffcbkmgfklaaGreatDoorGy14

namespace Go.Gv
set_option linter.unusedSimpArgs false
set_option linter.unusedVariables false

/-- r is known at least as well as r' (Hf: what is given up). -/
def RFz (Hf : HMap) : Res → Res → Prop
  | .box b cs, .box b' cs' => b = b' ∧ cs.length = cs'.length ∧ ∀ (m : Nat) (c c' : D), cs[m]? = some c → cs'[m]? = some c' → FrzTo Hf c c'
  | .row x el n es, .row x' el' n' es' => x = x' ∧ el = el' ∧ n = n' ∧ es.length = es'.length ∧ (∀ d ∈ es', d.kn = true ∧ d.cells.length = n) ∧ ∀ (m : Nat) (c c' : D), es[m]? = some c → es'[m]? = some c' → ∀ (j : Nat) (e e' : D), c.cells[j]? = some e → c'.cells[j]? = some e' → FrzTo Hf e e'
  | .tbox el b cs, .tbox el' b' cs' => el = el' ∧ b = b' ∧ cs.length = cs'.length ∧ ∀ (m : Nat) (c c' : D), cs[m]? = some c → cs'[m]? = some c' → FrzTo Hf c c'
  | r, r' => r = r'

theorem RFz.blk {Hf : HMap} {r r' : Res} (h : RFz Hf r r') : r'.blk = r.blk := by
  cases r <;> cases r' <;> simp only [RFz] at h
  · obtain ⟨rfl, _⟩ := h; rfl
  all_goals first
    | (obtain ⟨rfl, rfl, rfl, _⟩ := h; rfl)
    | (obtain ⟨rfl, rfl, _⟩ := h; rfl)
    | (cases h; done)
    | (cases h; rfl)

theorem RFz.ok {tp I I' : Nat → Prop} {w : World} {Hf : HMap} {r r' : Res} (h : RFz Hf r r') (hr : ResOk (R tp I w) w r) (hok : ∀ i q, Hf i = some q → ResOk (R tp I w) w q) (hI : ∀ b, I b → I' b) (hb : ∀ i q b, Hf i = some q → q.blk = some b → I' b) : ResOk (R tp I' w) w r' := by
  have fz : ∀ {c c' : D} {y : Value}, FrzTo Hf c c' → R tp I w y c → R tp I' w y c' := fun h hr => h.R (H := noH) hok hI hb hr
  have same : ResOk (R tp I' w) w r := hr.conv (fun x d hr => hr.mono (fun _ h => h) (fun b hb => ⟨hI b hb, rfl⟩) (fun b _ => .refl _ _)) (fun _ _ => rfl)
  cases r with
  | box b cs =>
    cases r' with
    | box b' cs' =>
      obtain ⟨rfl, hl, hc⟩ := h
      obtain ⟨xs, el, h1, h2, h3⟩ := hr
      refine ⟨xs, el, h1, h2.trans hl, fun k y c hy hc' => ?_⟩
      have hk : k < cs.length := by rw [hl]; exact (List.getElem?_eq_some_iff.1 hc').1
      have h4 := h3 k y cs[k] hy (List.getElem?_eq_getElem hk)
      exact ⟨h4.1, fz (hc k _ _ (List.getElem?_eq_getElem hk) hc') h4.2⟩
    | row x el n es => cases h
    | iter b s p => cases h
    | tbox b s p => cases h
  | iter b s p =>
    cases r' with
    | box b' cs' => cases h
    | row x el n es => cases h
    | iter b' s' p' => cases h; exact same
    | tbox b' s' p' => cases h
  | tbox b s p =>
    cases r' with
    | box b' cs' => cases h
    | row x el n es => cases h
    | iter b' s' p' => cases h
    | tbox b' s' cs' =>
      obtain ⟨rfl, rfl, hl, hc⟩ := h
      obtain ⟨xs, h1, h2, h3⟩ := hr
      refine ⟨xs, h1, h2.trans hl, fun k y c hy hc' => ?_⟩
      have hk : k < p.length := by rw [hl]; exact (List.getElem?_eq_some_iff.1 hc').1
      have h4 := h3 k y p[k] hy (List.getElem?_eq_getElem hk)
      exact ⟨h4.1, fz (hc k _ _ (List.getElem?_eq_getElem hk) hc') h4.2⟩
  | row x el n es =>
    cases r' with
    | box b' cs' => cases h
    | iter b' s' p' => cases h
    | tbox b' s' p' => cases h
    | row x' el' n' es' =>
      obtain ⟨rfl, rfl, rfl, hl, hkn, hc⟩ := h
      obtain ⟨xs, h1, h2, h3⟩ := hr
      refine ⟨xs, hl ▸ h1, hkn, fun k y c hy hc' => ?_⟩
      have hw : ∀ d ∈ es, d.cells.length = n := fun d hd => (h2 d hd).2
      have hw' : ∀ d ∈ es', d.cells.length = n := fun d hd => (hkn d hd).2
      have hfl := flat_length hw
      have hfl' := flat_length hw'
      have hk : k < (flat es).length := by
        have := (List.getElem?_eq_some_iff.1 hc').1
        rw [hfl, hl, ← hfl']; exact this
      have hk2 : k < es.length * n := by rw [← hfl]; exact hk
      have hn : 0 < n := by
        rcases Nat.eq_zero_or_pos n with e | e
        · subst e; simp at hk2
        · exact e
      have h4 := h3 k y (flat es)[k] hy (List.getElem?_eq_getElem hk)
      refine ⟨h4.1, fz ?_ h4.2⟩
      have hdm : k = (k / n) * n + k % n := by have := Nat.div_add_mod k n; rw [Nat.mul_comm] at this; omega
      have hmod : k % n < n := Nat.mod_lt _ hn
      have g1 := flat_get hw (i := k / n) (j := k % n) hmod
      have g2 := flat_get hw' (i := k / n) (j := k % n) hmod
      rw [← hdm] at g1 g2
      rw [hc'] at g2
      rw [List.getElem?_eq_getElem hk] at g1
      cases e1 : es[k / n]? with
      | none => rw [e1] at g1; cases g1
      | some c1 =>
        cases e2 : es'[k / n]? with
        | none => rw [e2] at g2; cases g2
        | some c2 =>
          rw [e1] at g1
          rw [e2] at g2
          exact hc _ c1 c2 e1 e2 _ _ _ g1.symm g2.symm
def RFe (Hf : HMap) (r r' : Res) : Prop := r = r' ∨ RFz Hf r r'
theorem RFe.blk {Hf : HMap} {r r' : Res} (h : RFe Hf r r') : r'.blk = r.blk := by
  rcases h with rfl | h
  · rfl
  · exact h.blk
theorem RFe.ok {tp I I' : Nat → Prop} {w : World} {Hf : HMap} {r r' : Res} (h : RFe Hf r r') (hr : ResOk (R tp I w) w r) (hok : ∀ i q, Hf i = some q → ResOk (R tp I w) w q) (hI : ∀ b, I b → I' b) (hb : ∀ i q b, Hf i = some q → q.blk = some b → I' b) : ResOk (R tp I' w) w r' := by
  rcases h with rfl | h
  · exact hr.conv (fun x d hr => hr.mono (fun _ h => h) (fun b hb => ⟨hI b hb, rfl⟩) (fun b _ => .refl _ _)) (fun _ _ => rfl)
  · exact h.ok hr hok hI hb
theorem isNilRow.blk' {r : Res} (h : isNilRow r) : r.blk = none := by
  cases r with
  | box b c => exact h.elim
  | iter b s p => exact h.elim
  | tbox b s p => exact h.elim
  | row x el n es => obtain ⟨rfl, rfl⟩ := h; rfl

theorem wk_all {σ σ' : Sg} {H H' Hf : HMap} (ρ : Nat → Nat) (h1 : ∀ t, FrzTo Hf (σ t) (σ' t)) (h2 : ∀ i r, H' i = some r → (∃ r0, H (ρ i) = some r0 ∧ RFe Hf r0 r) ∨ isNilRow r)
    (h3 : ∀ i j r s, H' i = some r → H' j = some s → ρ i = ρ j → i = j ∨ isNilRow r ∨ isNilRow s) (h4 : ∀ i r, Hf i = some r → H i = some r ∧ ∀ j r', H' j = some r' → ρ j = i → isNilRow r') : Wk σ H σ' H' := by
  intro E a w ⟨hd, hN, tp, h, hr⟩
  have hblk : ∀ i r c, H' i = some r → r.blk = some c → ∃ r0, H (ρ i) = some r0 ∧ r0.blk = some c ∧ ¬ isNilRow r := fun i r c k1 k2 => by
    have hn : ¬ isNilRow r := fun hn => by rw [hn.blk'] at k2; cases k2
    rcases h2 i r k1 with ⟨r0, k3, k4⟩ | k3
    · exact ⟨r0, k3, k4.blk ▸ k2, hn⟩
    · exact absurd k3 hn
  have hown : ∀ c, owns H' c → owns H c := fun c ⟨i, r, k1, k2⟩ => by
    obtain ⟨r0, k3, k4, _⟩ := hblk i r c k1 k2
    exact ⟨ρ i, r0, k3, k4⟩
  have himm : ∀ c, Imm E.O tp H w c → Imm E.O tp H' w c := fun c hb => ⟨hb.1, hb.2.1, hb.2.2.1, fun ho => hb.2.2.2 (hown c ho)⟩
  have hfok : ∀ i q, Hf i = some q → ResOk (R tp (Imm E.O tp H w) w) w q := fun i q hq => h.sat.ok i q (h4 i q hq).1
  have hfb : ∀ i q b, Hf i = some q → q.blk = some b → Imm E.O tp H' w b := fun i q b hq hb => by
    obtain ⟨k1, k2⟩ := h4 i q hq
    have ho := h.sat.out i q b k1 hb
    refine ⟨(h.sat.ok i q k1).lt hb, ho.1, ho.2, fun ⟨j, s, k3, k4⟩ => ?_⟩
    obtain ⟨s0, k5, k6, k7⟩ := hblk j s b k3 k4
    exact k7 (k2 j s k3 (h.sat.dis (ρ j) i s0 q b k5 k1 k6 hb))
  have move : ∀ x d, R tp (Imm E.O tp H w) w x d → R tp (Imm E.O tp H' w) w x d := fun x d hr =>
    hr.mono (fun _ h => h) (fun b hb => ⟨himm b hb, rfl⟩) (fun b _ => .refl _ _)
  refine ⟨hd, hN, tp, ⟨h.hO, h.tpx, h.tpn, h.tpl, h.step, fun b hb => h.loc b (hown b hb), ⟨fun i j r s c k1 k2 k3 k4 => ?_, fun i r c k1 k2 => ?_, fun i r k1 => ?_⟩⟩, fun t => (h1 t).R (H := noH) hfok himm hfb (hr t)⟩
  · obtain ⟨r0, a1, a2, a3⟩ := hblk i r c k1 k3
    obtain ⟨s0, b1, b2, b3⟩ := hblk j s c k2 k4
    rcases h3 i j r s k1 k2 (h.sat.dis _ _ r0 s0 c a1 b1 a2 b2) with e | e | e
    · exact e
    · exact absurd e a3
    · exact absurd e b3
  · obtain ⟨r0, a1, a2, _⟩ := hblk i r c k1 k2
    exact h.sat.out _ r0 c a1 a2
  · rcases h2 i r k1 with ⟨r0, k3, k4⟩ | k3
    · exact k4.ok (h.sat.ok _ r0 k3) hfok himm hfb
    · cases r with
      | box b c => exact k3.elim
      | iter b s p => exact k3.elim
      | tbox b s p => exact k3.elim
      | row x el n es =>
        obtain ⟨rfl, rfl⟩ := k3
        exact ⟨[], World.ownsRow_nil _ _ _ _, by simp, fun k y c h => by simp at h⟩
def MatchF (Hf : HMap) : List (Nat × D) → Sg → Prop
  | [], _ => True
  | (t, d) :: l, σ => FrzTo Hf (σ t) d ∧ MatchF Hf l σ
@[simp] theorem matchF_n (Hf : HMap) (σ : Sg) : MatchF Hf [] σ = True := id rfl
@[simp] theorem matchF_c (Hf : HMap) (t : Nat) (d : D) (l : List (Nat × D)) (σ : Sg) : MatchF Hf ((t, d) :: l) σ = (FrzTo Hf (σ t) d ∧ MatchF Hf l σ) := id rfl
/-- Resource i is what was resource j: (i, j) in rn. -/
def rnm (rn : List (Nat × Nat)) (i : Nat) : Nat := (rn.lookup i).getD i
def MatchR (Hf : HMap) (rn : List (Nat × Nat)) : List (Nat × Res) → HMap → Prop
  | [], _ => True
  | (i, r) :: l, H => ((∃ r0, H (rnm rn i) = some r0 ∧ RFe Hf r0 r) ∨ isNilRow r) ∧ MatchR Hf rn l H
@[simp] theorem matchR_n (Hf : HMap) (rn : List (Nat × Nat)) (H : HMap) : MatchR Hf rn [] H = True := id rfl
@[simp] theorem matchR_c (Hf : HMap) (rn : List (Nat × Nat)) (i : Nat) (r : Res) (l : List (Nat × Res)) (H : HMap) : MatchR Hf rn ((i, r) :: l) H = (((∃ r0, H (rnm rn i) = some r0 ∧ RFe Hf r0 r) ∨ isNilRow r) ∧ MatchR Hf rn l H) := id rfl
/-- What is given up. -/
def gvH (gv : List Nat) (H : HMap) : HMap := fun i => if i ∈ gv then H i else none
def Inj (rn : List (Nat × Nat)) (ids gv : List Nat) : Prop := (∀ i ∈ ids, ∀ j ∈ ids, rnm rn i = rnm rn j → i = j) ∧ (∀ i ∈ ids, rnm rn i ∉ gv)
instance (rn : List (Nat × Nat)) (ids gv : List Nat) : Decidable (Inj rn ids gv) := by unfold Inj; infer_instance
theorem addH_mem {l : List (Nat × Res)} {H : HMap} {i : Nat} {r : Res} (h : addH l H i = some r) : (i, r) ∈ l ∨ (i ∉ l.map (·.1) ∧ H i = some r) := by
  induction l with
  | nil => exact .inr ⟨by simp, h⟩
  | cons p l ih =>
    obtain ⟨j, q⟩ := p
    simp only [addH, updH] at h
    split at h
    · rename_i e; subst e; cases h; exact .inl (by simp)
    · rename_i e
      rcases ih h with h | ⟨h1, h2⟩
      · exact .inl (by simp [h])
      · exact .inr ⟨by simp [e, h1], h2⟩
theorem matchR_mem {Hf : HMap} {rn : List (Nat × Nat)} {l : List (Nat × Res)} {H : HMap} {i : Nat} {r : Res} (h : MatchR Hf rn l H) (hm : (i, r) ∈ l) : (∃ r0, H (rnm rn i) = some r0 ∧ RFe Hf r0 r) ∨ isNilRow r := by
  induction l with
  | nil => simp at hm
  | cons p l ih =>
    obtain ⟨j, q⟩ := p
    rcases List.mem_cons.1 hm with e | hm
    · cases e; exact h.1
    · exact ih h.2 hm
theorem wk_matchG {σ0 σ : Sg} {H0 H : HMap} {ks hk gv : List Nat} {rn : List (Nat × Nat)} {sl : List (Nat × D)} {hp : List (Nat × Res)} (hi : Inj rn (hp.map (·.1) ++ hk) gv) (hid : ∀ i ∈ hk, i ∉ hp.map (·.1) → rnm rn i = i)
    (h1 : MatchF (gvH gv H) sl σ) (h2 : KeptS ks σ0 σ) (h3 : MatchR (gvH gv H) rn hp H) (h4 : KeptH hk H0 H) : Wk σ H (addS sl (keepS ks σ0)) (addH hp (keepH hk H0)) := by
  have hmem : ∀ i r, addH hp (keepH hk H0) i = some r → i ∈ hp.map (·.1) ++ hk := fun i r h => by
    rcases addH_mem h with h | ⟨_, h⟩
    · exact List.mem_append.2 (.inl (List.mem_map.2 ⟨_, h, rfl⟩))
    · rw [keepH_at] at h
      split at h
      · rename_i e; exact List.mem_append.2 (.inr e)
      · cases h
  refine wk_all (Hf := gvH gv H) (rnm rn) (fun t => ?_) (fun i r h => ?_) (fun i j r s k1 k2 e => .inl (hi.1 i (hmem i r k1) j (hmem j s k2) e)) (fun i r h => ?_)
  · clear hi hid h3 hmem
    induction sl with
    | nil =>
      rw [addS_n, keepS_at]
      split
      · rename_i h; rw [← h2 t h]; exact .same _
      · exact .any _
    | cons p sl ih =>
      obtain ⟨s, d⟩ := p
      simp only [addS, upd]
      split
      · rename_i e; subst e; exact h1.1
      · exact ih h1.2
  · rcases addH_mem h with h | ⟨h5, h⟩
    · exact matchR_mem h3 h
    · rw [keepH_at] at h
      split at h
      · rename_i e
        rw [hid i e h5, h4 i e]
        exact .inl ⟨r, h, .inl rfl⟩
      · cases h
  · simp only [gvH] at h
    split at h
    · rename_i e
      exact ⟨h, fun j r' k1 k2 => absurd e (k2 ▸ hi.2 j (hmem j r' k1))⟩
    · cases h

@[simp] theorem rnm_n (i : Nat) : rnm [] i = i := id rfl
@[simp] theorem rnm_c (i j : Nat) (l : List (Nat × Nat)) (k : Nat) : rnm ((i, j) :: l) k = if k = i then j else rnm l k := by
  simp only [rnm, List.lookup]
  by_cases e : k = i
  · subst e; simp
  · have : (k == i) = false := by simpa using e
    simp [this, e]
def FzL (Hf : HMap) : List D → List D → Prop
  | [], [] => True
  | a :: l, b :: r => FrzTo Hf a b ∧ FzL Hf l r
  | _, _ => False
@[simp] theorem fzL_n (Hf : HMap) : FzL Hf [] [] = True := id rfl
@[simp] theorem fzL_c (Hf : HMap) (a b : D) (l r : List D) : FzL Hf (a :: l) (b :: r) = (FrzTo Hf a b ∧ FzL Hf l r) := id rfl
theorem FzL.get {Hf : HMap} : ∀ {l r : List D}, FzL Hf l r → l.length = r.length ∧ ∀ (m : Nat) (c c' : D), l[m]? = some c → r[m]? = some c' → FrzTo Hf c c'
  | [], [], _ => ⟨rfl, fun m c c' h => by simp at h⟩
  | a :: l, b :: r, h => by
    obtain ⟨h1, h2⟩ := h
    have ih := FzL.get h2
    refine ⟨by simp [ih.1], fun m c c' e1 e2 => ?_⟩
    cases m with
    | zero => simp at e1 e2; subst e1; subst e2; exact h1
    | succ m => simp at e1 e2; exact ih.2 m c c' e1 e2
@[simp] theorem rfe_box (Hf : HMap) (b : Nat) (cs cs' : List D) : RFe Hf (.box b cs) (.box b cs') = (cs = cs' ∨ FzL Hf cs cs') := by
  refine propext ⟨fun h => ?_, fun h => ?_⟩
  · rcases h with h | ⟨_, hl, hc⟩
    · cases h; exact .inl rfl
    · right
      induction cs generalizing cs' with
      | nil => cases cs' with
        | nil => trivial
        | cons b r => simp at hl
      | cons a l ih => cases cs' with
        | nil => simp at hl
        | cons b r => exact ⟨hc 0 a b rfl rfl, ih r (by simpa using hl) fun m c c' h1 h2 => hc (m + 1) c c' (by simpa using h1) (by simpa using h2)⟩
  · rcases h with rfl | h
    · exact .inl rfl
    · exact .inr ⟨rfl, h.get.1, h.get.2⟩
def BackG (σ0 : Sg) (H0 : HMap) (ks hk gv : List Nat) (rn : List (Nat × Nat)) (sl : List (Nat × D)) (hp : List (Nat × Res)) (σ : Sg) (H : HMap) : Prop := MatchF (gvH gv H) sl σ ∧ KeptS ks σ0 σ ∧ MatchR (gvH gv H) rn hp H ∧ KeptH hk H0 H
@[simp] theorem backG_eq (σ0 : Sg) (H0 : HMap) (ks hk gv : List Nat) (rn : List (Nat × Nat)) (sl : List (Nat × D)) (hp : List (Nat × Res)) (σ : Sg) (H : HMap) : BackG σ0 H0 ks hk gv rn sl hp σ H = (MatchF (gvH gv H) sl σ ∧ KeptS ks σ0 σ ∧ MatchR (gvH gv H) rn hp H ∧ KeptH hk H0 H) := id rfl
section
variable {S : Nat → Spc} {σ : Sg} {H : HMap} {K : Ex → Sg → HMap → Prop}
/-- Two pieces of text; between them memory is given up (gv) and resources are renamed (rn: (new, old)). -/
theorem vc_midG {X : Type} (ks hk gv : List Nat) (rn : List (Nat × Nat)) (P : X → Prop) (sl : X → List (Nat × D)) (hp : X → List (Nat × Res)) {k : Nat} {a b : CC} (ids : List Nat) (hids : ∀ x, (hp x).map (·.1) = ids) (hi : Inj rn (ids ++ hk) gv ∧ ∀ i ∈ hk, i ∉ ids → rnm rn i = i)
    (ha : vc S a (midK (fun σ' H' => ∃ x, P x ∧ BackG σ H ks hk gv rn (sl x) (hp x) σ' H') K) σ H)
    (hb : ∀ x, P x → vc S b K (addS (sl x) (keepS ks σ)) (addH (hp x) (keepH hk H))) : vc S (seqM k a b) K σ H := by
  refine vc_midW P _ _ (vc_mono a _ _ (fun e σ' H' h => ?_) ha) hb
  cases e with
  | norm =>
    obtain ⟨x, h1, h2⟩ := h
    exact ⟨x, h1, wk_matchG (by rw [hids x]; exact hi.1) (by rw [hids x]; exact hi.2) h2.1 h2.2.1 h2.2.2.1 h2.2.2.2⟩
  | ex i => exact h
  | ret => exact h
end
end Go.Gv

namespace Go.Gv
set_option linter.unusedSimpArgs false
set_option linter.unusedVariables false
set_option maxRecDepth 100000
open Cod (enc dec)
variable {S S0 : Nat → Spc}
end Go.Gv

namespace Go.Gv
set_option linter.unusedSimpArgs false
set_option linter.unusedVariables false
section
variable {X Y : Type}
variable {P : Program} {S : Nat → Spc} {f : Nat} {im : List Nat} {cc : CC} {rs : List CRes} {N : Nat}
end
end Go.Gv

namespace Go.Gv
set_option linter.unusedSimpArgs false
set_option linter.unusedVariables false
set_option maxRecDepth 100000
open Cod (enc dec)
variable {S S0 : Nat → Spc}
theorem w_m_New : WalkFB cc_m_New rs_m_New S := by
  intro l
  simp [cc_m_New, rs_m_New, -List.map_take, take_enc, tpBox]
  omega
end Go.Gv

namespace Go.Gv
set_option linter.unusedSimpArgs false
set_option linter.unusedVariables false
section
variable {S : Nat → Spc} {σ : Sg} {H : HMap} {K : Ex → Sg → HMap → Prop}
theorem vc_whileG {X : Type} (ks hk gv0 gv : List Nat) (rn0 rn : List (Nat × Nat)) (P : X → Prop) (sl : X → List (Nat × D)) (hp : X → List (Nat × Res)) (m : X → Nat) (x0 : X) (ids : List Nat) (hids : ∀ x, (hp x).map (·.1) = ids)
    (hi0 : Inj rn0 (ids ++ hk) gv0 ∧ ∀ i ∈ hk, i ∉ ids → rnm rn0 i = i) (hi : Inj rn (ids ++ hk) gv ∧ ∀ i ∈ hk, i ∉ ids → rnm rn i = i) {k : Nat} {b : CC} (h0 : P x0)
    (hs : MatchF (gvH gv0 H) (sl x0) σ) (hh : MatchR (gvH gv0 H) rn0 (hp x0) H)
    (hr : ∀ x, P x → vc S b (whlK P (fun y => BackG σ H ks hk gv rn (sl y) (hp y)) m x K) (addS (sl x) (keepS ks σ)) (addH (hp x) (keepH hk H))) : vc S (.loop k b) K σ H := by
  rw [e_loop]
  refine ⟨⟨X, P, fun x => addS (sl x) (keepS ks σ), fun x => addH (hp x) (keepH hk H), m⟩, ⟨x0, h0, wk_matchG (by rw [hids x0]; exact hi0.1) (by rw [hids x0]; exact hi0.2) hs (fun _ _ => rfl) hh (fun _ _ => rfl)⟩, fun x hx => vc_mono b _ _ (fun e σ' H' h => ?_) (hr x hx)⟩
  cases e with
  | norm =>
    obtain ⟨y, h1, h2, h3⟩ := h
    exact ⟨y, h1, wk_matchG (by rw [hids y]; exact hi.1) (by rw [hids y]; exact hi.2) h2.1 h2.2.1 h2.2.2.1 h2.2.2.2, h3⟩
  | ex i => exact h
  | ret => exact h
end
end Go.Gv

namespace Go.Gv
set_option linter.unusedSimpArgs false
set_option linter.unusedVariables false
set_option maxRecDepth 100000
open Cod (enc dec)
variable {S S0 : Nat → Spc}
def strs (l : List B) : List D := l.map enc
theorem strs2 (a b : B) : D.list 1 [.v (.string a), .v (.string b)] = .list 1 (strs [a, b]) := id rfl
theorem strs3 (a b c : B) : D.list 1 [.v (.string a), .v (.string b), .v (.string c)] = .list 1 (strs [a, b, c]) := id rfl
theorem strs_len (l : List B) : (strs l).length = l.length := by simp [strs]
theorem strs_at (l : List B) (i : Nat) (d : D) : ((strs l)[i]? = some d) = ∃ s, l[i]? = some s ∧ .v (.string s) = d := by
  simp [strs]
end Go.Gv

namespace Go.Gv
set_option linter.unusedSimpArgs false
set_option linter.unusedVariables false
set_option maxRecDepth 100000
open Cod (enc dec)
variable {S S0 : Nat → Spc}
end Go.Gv

namespace Go.Gv
set_option linter.unusedSimpArgs false
set_option linter.unusedVariables false
set_option maxRecDepth 100000
open Cod (enc dec)
variable {S S0 : Nat → Spc}
abbrev s_m_TypeN : Spc := spc (a1 Int) anyX (enc (X := B)) (fun _ y => y ∈ Types)
theorem w_m_TypeN (h1 : S f_m_Mod = s_m_Mod) : Walk cc_m_Type rs_m_Type S (a1 Int) anyX (enc (X := B)) (fun _ y => y ∈ Types) := by
  rintro n -
  simp [cc_m_Type, rs_m_Type, h1]
  have h3 := modI_rng n 3 (by omega)
  refine ⟨h3.1, h3.2, ?_⟩
  have : modI n 3 = 0 ∨ modI n 3 = 1 ∨ modI n 3 = 2 := by omega
  rcases this with h | h | h <;> simp [h, Types, b_s, b_np, b_t]
def P_gen (n : Nat) (x : List Int × Int × List B) : Prop := x.2.1.toNat < n ∧ -10 ≤ x.2.1 ∧ x.2.1 ≤ 100 ∧ x.2.2.length ≤ 1000
theorem fin_cond {q : Cond → Prop} {H : HMap} {op : Int} {n a v l : B} {f : Bool} {d : D} (ks : List Cond) (hd : FrzTo H d (enc ks)) (hq : q ⟨op, n, a, v, l, f, ks⟩) : Fin enc q (.agg [.v (.int .i64 op), .v (.string n), .v (.string a), .v (.string v), .v (.string l), .v (.bool f), d]) H := by
  refine fin_of (⟨op, n, a, v, l, f, ks⟩ : Cond) ?_ hq
  rw [enc_Cond]
  refine .agg rfl fun k x y hx hy => ?_
  rcases k with _ | _ | _ | _ | _ | _ | _ | k
  · cases hx; cases hy; exact .same _
  · cases hx; cases hy; exact .same _
  · cases hx; cases hy; exact .same _
  · cases hx; cases hy; exact .same _
  · cases hx; cases hy; exact .same _
  · cases hx; cases hy; exact .same _
  · cases hx; cases hy; exact hd
  · simp at hx
theorem strs8 (a b c d e f g h : B) : D.list 1 [.v (.string a), .v (.string b), .v (.string c), .v (.string d), .v (.string e), .v (.string f), .v (.string g), .v (.string h)] = .list 1 (strs [a, b, c, d, e, f, g, h]) := id rfl
theorem strs4 (a b c d : B) : D.list 1 [.v (.string a), .v (.string b), .v (.string c), .v (.string d)] = .list 1 (strs [a, b, c, d]) := id rfl
theorem fin_pat {q : Pat → Prop} {H : HMap} {op o : Int} {n a v l lb rg : B} {f : Bool} {cd d : D} {mn mx : Int} (cks : List Cond) (ks : List Pat) (hc : FrzTo H cd (enc cks)) (hd : FrzTo H d (enc ks)) (hq : q ⟨op, ⟨o, n, a, v, l, f, cks⟩, lb, rg, mn, mx, ks⟩) :
    Fin enc q (.agg [.v (.int .i64 op), .v (.int .i64 o), .v (.string n), .v (.string a), .v (.string v), .v (.string l), .v (.bool f), cd, .v (.string lb), .v (.string rg), .v (.int .i64 mn), .v (.int .i64 mx), d]) H := by
  refine fin_of (⟨op, ⟨o, n, a, v, l, f, cks⟩, lb, rg, mn, mx, ks⟩ : Pat) ?_ hq
  rw [enc_Pat]
  refine .agg rfl fun k x y hx hy => ?_
  rcases k with _ | _ | _ | _ | _ | _ | _ | _ | _ | _ | _ | _ | _ | k
  · cases hx; cases hy; exact .same _
  · cases hx; cases hy; exact .same _
  · cases hx; cases hy; exact .same _
  · cases hx; cases hy; exact .same _
  · cases hx; cases hy; exact .same _
  · cases hx; cases hy; exact .same _
  · cases hx; cases hy; exact .same _
  · cases hx; cases hy; exact hc
  · cases hx; cases hy; exact .same _
  · cases hx; cases hy; exact .same _
  · cases hx; cases hy; exact .same _
  · cases hx; cases hy; exact .same _
  · cases hx; cases hy; exact hd
  · simp at hx
def P_pat (n : Nat) (x : List Int × Int × List B) : Prop := x.2.1.toNat < n ∧ -10 ≤ x.2.1 ∧ x.2.1 ≤ 100 ∧ x.2.2.length ≤ 1000
def Q_pat (x : List Int × Int × List B) (p : Pat) : Prop := WP x.2.2 x.2.1.toNat p ∧ PD x.2.1.toNat p
end Go.Gv

namespace Go.Gv
set_option linter.unusedSimpArgs false
set_option linter.unusedVariables false
end Go.Gv

namespace Go.Gv
set_option linter.unusedSimpArgs false
set_option linter.unusedVariables false
set_option linter.unusedSectionVars false
open Cod (enc dec)

section
variable {X Y : Type} [Cod X] [Cod Y]
def i2PT (pre : X → List Y → Prop) (post : X → List Y → List Y → Prop) (el n : Nat) : PT := fun d ds H K => ∃ id v l a x, ds = [a, .own id v] ∧ dec a = some x ∧ H id = some (.row v el n (l.map enc)) ∧ pre x l ∧
  ∀ v' l', post x l l' → K (.own id v') (updH H id (some (.row v' el n (l'.map enc))))
theorem i2_mono (pre : X → List Y → Prop) (post : X → List Y → List Y → Prop) (el n : Nat) : MonoPT (i2PT pre post el n) := fun d ds H K K' hk ⟨id, v, l, a, x, h1, h2, h3, h4, h5⟩ => ⟨id, v, l, a, x, h1, h2, h3, h4, fun v' l' hp => hk _ _ (h5 v' l' hp)⟩
/-- A function of x and of a slice of the caller's own, which it gives back changed. -/
def i2C (pre : X → List Y → Prop) (post : X → List Y → List Y → Prop) (el n : Nat) : Spc := .gen _ (i2_mono pre post el n)
def i2X (pre : X → List Y → Prop) (post : X → List Y → List Y → Prop) (el n id : Nat) (v : Value) (o : Option X) (r : Option Res) (H : HMap) (K : D → HMap → Prop) : Prop := ∃ l, r = some (.row v el n (l.map enc)) ∧ optX o fun x => pre x l ∧ ∀ v' l', post x l l' → K (.own id v') (updH H id (some (.row v' el n (l'.map enc))))
@[congr] theorem i2X_cg {pre : X → List Y → Prop} {post : X → List Y → List Y → Prop} {el n id : Nat} {v : Value} {o o' : Option X} {r r' : Option Res} {H : HMap} {K : D → HMap → Prop} (h1 : o = o') (h2 : r = r') : i2X pre post el n id v o r H K = i2X pre post el n id v o' r' H K := by subst h1; subst h2; rfl
@[simp] theorem i2C_pt (pre : X → List Y → Prop) (post : X → List Y → List Y → Prop) (el n : Nat) (d i : Nat) (a : D) (v : Value) (H : HMap) (K : D → HMap → Prop) : (i2C pre post el n).pt d [a, .own i v] H K = i2X pre post el n i v (dec a) (H i) H K := by
  refine propext ⟨fun h => ?_, fun h => ?_⟩
  · obtain ⟨id, v, l, a, x, h1, h2, h3, h4, h5⟩ := h
    cases h1
    refine ⟨l, h3, ?_⟩
    rw [h2]
    exact ⟨h4, h5⟩
  · obtain ⟨l, h1, h2⟩ := h
    cases hd : dec (X := X) a with
    | none => rw [hd] at h2; exact h2.elim
    | some x => rw [hd] at h2; exact ⟨i, v, l, a, x, rfl, hd, h1, h2.1, h2.2⟩
@[simp] theorem i2X_r (pre : X → List Y → Prop) (post : X → List Y → List Y → Prop) (el n id : Nat) (v : Value) (o : Option X) (l : List Y) (H : HMap) (K : D → HMap → Prop) : i2X pre post el n id v o (some (.row v el n (l.map enc))) H K = optX o fun x => pre x l ∧ ∀ v' l', post x l l' → K (.own id v') (updH H id (some (.row v' el n (l'.map enc)))) := by
  refine propext ⟨fun ⟨l', h1, h2⟩ => ?_, fun h => ⟨l, rfl, h⟩⟩
  simp at h1
  subst h1
  exact h2
def WalkI2 (cc : CC) (rs : List CRes) (S : Nat → Spc) (pre : X → List Y → Prop) (post : X → List Y → List Y → Prop) (el n : Nat) : Prop :=
  ∀ v l x, pre x l → vc S cc (retK rs fun r H' => FinF el n (post x l) r H') (initS [enc x, .own 1 v]) (updH noH 1 (some (.row v el n (l.map enc))))
variable {P : Program} {S : Nat → Spc} {f : Nat} {im : List Nat} {cc : CC} {rs : List CRes} {N : Nat} {el n : Nat}
theorem tri_walkI2 {pre : X → List Y → Prop} {post : X → List Y → List Y → Prop} (hS : ∀ f, Tri P f (S f).pt) (h : FnOk P f im cc rs N) (hN : 2 ≤ N) (hw : WalkI2 cc rs S pre post el n) : Tri P f (i2C pre post el n).pt := by
  obtain ⟨mix, enter, fn, code, h1, h2, h3, h4, h5⟩ := h
  refine tri_of_vc hS mix h1 h2 enter h3 h4 h5 ?_
  rintro ds H d K ⟨id, v, l, a, x, rfl, hd, hid, hp, hK⟩
  have hl := Cod.le _ _ hd
  refine ⟨hN, [enc x, .own 1 v], updH noH 1 (some (.row v el n (l.map enc))), fun _ => id, .cons hl (.cons (.own _ _ _) .nil), fun i r h => ?_, fun i j r s h h' _ => ?_, _, hw v l x hp, ?_⟩
  · by_cases e : i = 1
    · subst e
      simp only [updH, if_true] at h
      cases h
      exact hid
    · simp [updH, e] at h
  · have a : i = 1 := by
      by_cases e : i = 1
      · exact e
      · simp [updH, e] at h
    have b : j = 1 := by
      by_cases e : j = 1
      · exact e
      · simp [updH, e] at h'
    exact a.trans b.symm
  · rintro r H' ⟨j, v', l', rfl, hj, hpost⟩
    refine ⟨.own id v', noH, updH H id (some (.row v' el n (l'.map enc))), fun i => if i = id then some j else none, .own _ _ _, fun j q h => by simp at h, hK v' l' hpost, fun i s hi => ?_, fun i j' k s q hi hj' e1 e2 => ?_⟩
    · by_cases e : i = id
      · subst e
        simp only [updH, if_true] at hi
        cases hi
        simpa using hj
      · simp only [updH, e, if_false] at hi ⊢
        exact ⟨hi, fun k q h he => e he.symm⟩
    · have a : i = id := by
        by_cases e : i = id
        · exact e
        · simp [e] at e1
      have b : j' = id := by
        by_cases e : j' = id
        · exact e
        · simp [e] at e2
      exact a.trans b.symm
end

/-! ### A box, more arguments, a result, resources of fixed names -/
section
variable {X Y Z : Type}
structure BoxF (X : Type) where
  ids : List Nat
  ce : X → List D
  hp : X → List (Nat × Res)
  keys : ∀ x, (hp x).map (·.1) = ids
theorem addN_mem : ∀ {l : List (Nat × Res)} {i : Nat} {s : Res}, addH l noH i = some s → (i, s) ∈ l
  | [], i, s, h => by simp [addH, noH] at h
  | (j, r) :: l, i, s, h => by
    simp only [addH, updH] at h
    by_cases e : i = j
    · subst e
      simp only [if_true] at h
      cases h
      simp
    · simp only [e, if_false] at h
      exact List.mem_cons_of_mem _ (addN_mem h)
theorem addN_key : ∀ {l : List (Nat × Res)} {H : HMap} {i : Nat} {s : Res}, i ∈ l.map (·.1) → addH l H i = some s → (i, s) ∈ l
  | (j, r) :: l, H, i, s, hi, h => by
    simp only [addH, updH] at h
    by_cases e : i = j
    · subst e
      simp only [if_true] at h
      cases h
      simp
    · simp only [e, if_false] at h
      simp [e] at hi
      refine List.mem_cons_of_mem _ (addN_key (H := H) ?_ h)
      simpa using hi
theorem addN_off : ∀ {l : List (Nat × Res)} {H : HMap} {i : Nat}, i ∉ l.map (·.1) → addH l H i = H i
  | [], H, i, _ => rfl
  | (j, r) :: l, H, i, hi => by
    simp only [List.map_cons, List.mem_cons, not_or] at hi
    simp only [addH, updH, hi.1, if_false]
    exact addN_off hi.2
def bpPT (B : BoxF X) (A : Arg Z) (er : Y → D) (pre : X → Z → Prop) (post : X → Z → X → Y → Prop) : PT := fun d ds H K => ∃ id b x z ds', ds = .bptr id b 0 :: ds' ∧ A.dec ds' = some z ∧ H id = some (.box b (B.ce x)) ∧ (∀ p ∈ B.hp x, H p.1 = some p.2) ∧ id ∉ B.ids ∧ pre x z ∧
  ∀ x' y, post x z x' y → K (er y) (updH (addH (B.hp x') H) id (some (.box b (B.ce x'))))
theorem bp_mono (B : BoxF X) (A : Arg Z) (er : Y → D) (pre : X → Z → Prop) (post : X → Z → X → Y → Prop) : MonoPT (bpPT B A er pre post) := fun d ds H K K' hk ⟨id, b, x, z, ds', h1, h2, h3, h4, h5, h6, h7⟩ => ⟨id, b, x, z, ds', h1, h2, h3, h4, h5, h6, fun x' y hp => hk _ _ (h7 x' y hp)⟩
def bpC (B : BoxF X) (A : Arg Z) (er : Y → D) (pre : X → Z → Prop) (post : X → Z → X → Y → Prop) : Spc := .gen _ (bp_mono B A er pre post)
def FinBP (B : BoxF X) (er : Y → D) (b : Nat) (post : X → Y → Prop) (r : D) (H : HMap) : Prop := ∃ x y, FrzTo (fun i => if i = 0 ∨ i ∈ B.ids then none else H i) r (er y) ∧ H 0 = some (.box b (B.ce x)) ∧ (∀ p ∈ B.hp x, H p.1 = some p.2) ∧ post x y
def WalkBP (cc : CC) (rs : List CRes) (S : Nat → Spc) (B : BoxF X) (A : Arg Z) (er : Y → D) (pre : X → Z → Prop) (post : X → Z → X → Y → Prop) : Prop :=
  ∀ b x z, pre x z → vc S cc (retK rs fun r H' => FinBP B er b (post x z) r H') (initS (.bptr 0 b 0 :: A.view z)) (updH (addH (B.hp x) noH) 0 (some (.box b (B.ce x))))
variable {P : Program} {S : Nat → Spc} {f : Nat} {im : List Nat} {cc : CC} {rs : List CRes} {N : Nat}
theorem tri_walkBP {B : BoxF X} {A : Arg Z} {er : Y → D} {pre : X → Z → Prop} {post : X → Z → X → Y → Prop} (h1i : 0 ∉ B.ids) (hS : ∀ f, Tri P f (S f).pt) (h : FnOk P f im cc rs N) (hN : ∀ z, (A.view z).length + 1 ≤ N) (hw : WalkBP cc rs S B A er pre post) : Tri P f (bpC B A er pre post).pt := by
  obtain ⟨mix, enter, fn, code, h1, h2, h3, h4, h5⟩ := h
  refine tri_of_vc hS mix h1 h2 enter h3 h4 h5 ?_
  rintro ds H d K ⟨id, b, x, z, ds', rfl, hd, hid, hhp, hni, hp, hK⟩
  have hl := A.le ds' z hd
  have h0 : ∀ i r, updH (addH (B.hp x) noH) 0 (some (.box b (B.ce x))) i = some r → i = 0 ∧ r = .box b (B.ce x) ∨ i ≠ 0 ∧ (i, r) ∈ B.hp x := by
    intro i r h
    by_cases e : i = 0
    · subst e
      simp only [updH, if_true] at h
      cases h
      exact .inl ⟨rfl, rfl⟩
    · simp only [updH, e, if_false] at h
      exact .inr ⟨e, addN_mem h⟩
  have hk : ∀ {x : X} {i : Nat} {r : Res}, (i, r) ∈ B.hp x → i ∈ B.ids := by
    intro x i r h
    rw [← B.keys x]
    exact List.mem_map.2 ⟨_, h, rfl⟩
  refine ⟨by simp only [List.length_cons]; rw [hl.1]; exact hN z, .bptr 0 b 0 :: A.view z, updH (addH (B.hp x) noH) 0 (some (.box b (B.ce x))), fun i => if i = 0 then id else i, .cons (.bptr _ _ _ _) hl, fun i r h => ?_, fun i j r s h h' e => ?_, _, hw b x z hp, ?_⟩
  · rcases h0 i r h with ⟨rfl, rfl⟩ | ⟨e, hm⟩
    · exact hid
    · simp only [e, if_false]
      exact hhp _ hm
  · rcases h0 i r h with ⟨rfl, rfl⟩ | ⟨e1, hm⟩
    · rcases h0 j s h' with ⟨rfl, rfl⟩ | ⟨e2, hm2⟩
      · rfl
      · simp only [e2, if_true, if_false] at e
        subst e
        exact absurd (hk hm2) hni
    · rcases h0 j s h' with ⟨rfl, rfl⟩ | ⟨e2, hm2⟩
      · simp only [e1, if_true, if_false] at e
        subst e
        exact absurd (hk hm) hni
      · simpa only [e1, e2, if_false] using e
  · rintro r H' ⟨x', y, hfr, hj, hhp', hpost⟩
    refine ⟨er y, fun i => if i = 0 ∨ i ∈ B.ids then none else H' i, updH (addH (B.hp x') H) id (some (.box b (B.ce x'))), fun i => if i = id then some 0 else if i ∈ B.ids then some i else none, hfr, fun j q h => ?_, hK x' y hpost, fun i s hi => ?_, fun i j' k s q hi hj' e1 e2 => ?_⟩
    · by_cases e : j = 0 ∨ j ∈ B.ids
      · simp [e] at h
      · simp only [e, if_false] at h
        refine ⟨h, fun i hh => e ?_⟩
        by_cases e1 : i = id
        · simp only [e1, if_true] at hh
          cases hh
          exact .inl rfl
        · simp only [e1, if_false] at hh
          by_cases e2 : i ∈ B.ids
          · simp only [e2, if_true] at hh
            cases hh
            exact .inr e2
          · simp [e2] at hh
    · by_cases e : i = id
      · subst e
        simp only [updH, if_true] at hi
        cases hi
        simpa using hj
      · simp only [updH, e, if_false] at hi ⊢
        by_cases e2 : i ∈ B.ids
        · simp only [e2, if_true]
          exact hhp' _ (addN_key (by rw [B.keys]; exact e2) hi)
        · simp only [e2, if_false]
          rw [addN_off (by rw [B.keys]; exact e2)] at hi
          refine ⟨hi, fun k q h he => ?_⟩
          rcases h0 k q h with ⟨rfl, rfl⟩ | ⟨e3, hm⟩
          · simp only [if_true] at he
            exact e he.symm
          · simp only [e3, if_false] at he
            subst he
            exact e2 (hk hm)
    · by_cases c1 : i = id
      · by_cases c2 : j' = id
        · exact c1.trans c2.symm
        · simp only [c1, if_true] at e1
          cases e1
          simp only [c2, if_false] at e2
          by_cases c3 : j' ∈ B.ids
          · simp only [c3, if_true] at e2
            cases e2
            exact absurd c3 h1i
          · simp [c3] at e2
      · simp only [c1, if_false] at e1
        by_cases c3 : i ∈ B.ids
        · simp only [c3, if_true] at e1
          cases e1
          by_cases c2 : j' = id
          · simp only [c2, if_true] at e2
            cases e2
            exact absurd c3 h1i
          · simp only [c2, if_false] at e2
            by_cases c4 : j' ∈ B.ids
            · simp only [c4, if_true] at e2
              cases e2
              rfl
            · simp [c4] at e2
        · simp [c3] at e1

/-- Where the box holds data only, and what it holds can be read. -/
def boxD {X : Type} (ce : X → List D) : BoxF X := ⟨[], ce, fun _ => [], fun _ => rfl⟩
def bpX (ce : X → List D) (rd : List D → Option X) (er : Y → D) (pre : X → Z → Prop) (post : X → Z → X → Y → Prop) (id b : Nat) (r : Option Res) (o : Option Z) (H : HMap) (K : D → HMap → Prop) : Prop :=
  match r with
  | some (.box b' cs) => b' = b ∧ optX (rd cs) fun x => optX o fun z => pre x z ∧ ∀ x' y, post x z x' y → K (er y) (updH H id (some (.box b (ce x'))))
  | _ => False
@[congr] theorem bpX_cg {ce : X → List D} {rd : List D → Option X} {er : Y → D} {pre : X → Z → Prop} {post : X → Z → X → Y → Prop} {id b : Nat} {r r' : Option Res} {o o' : Option Z} {H : HMap} {K : D → HMap → Prop} (h1 : r = r') (h2 : o = o') : bpX ce rd er pre post id b r o H K = bpX ce rd er pre post id b r' o' H K := by subst h1; subst h2; rfl
@[simp] theorem bpX_b (ce : X → List D) (rd : List D → Option X) (er : Y → D) (pre : X → Z → Prop) (post : X → Z → X → Y → Prop) (id b : Nat) (cs : List D) (o : Option Z) (H : HMap) (K : D → HMap → Prop) : bpX ce rd er pre post id b (some (.box b cs)) o H K = optX (rd cs) fun x => optX o fun z => pre x z ∧ ∀ x' y, post x z x' y → K (er y) (updH H id (some (.box b (ce x')))) := by
  simp [bpX]
end
end Go.Gv

namespace Go.Gv
open Cod (enc dec)
set_option linter.unusedSimpArgs false

structure Glob where
  op : Int
  a : B
  b : B
  name : B
  arg : B
  val : B
  fold : Bool
  mn : Int
  mx : Int
  args : List B
  kids : List Glob

mutual
def encG : Glob → D
  | .mk p0 p1 p2 p3 p4 p5 p6 p7 p8 p9 ks => .agg [enc p0, enc p1, enc p2, enc p3, enc p4, enc p5, enc p6, enc p7, enc p8, enc p9, .list 11 (encGs ks)]
def encGs : List Glob → List D
  | [] => []
  | k :: ks => encG k :: encGs ks
end
mutual
def decG : D → Option Glob
  | .agg [x0, x1, x2, x3, x4, x5, x6, x7, x8, x9, x10] => (dec x0).bind fun p0 => (dec x1).bind fun p1 => (dec x2).bind fun p2 => (dec x3).bind fun p3 => (dec x4).bind fun p4 => (dec x5).bind fun p5 => (dec x6).bind fun p6 => (dec x7).bind fun p7 => (dec x8).bind fun p8 => (dec x9).bind fun p9 => (decGK x10).bind fun ks => some (.mk p0 p1 p2 p3 p4 p5 p6 p7 p8 p9 ks)
  | _ => none
def decGK : D → Option (List Glob)
  | .list n es => if n = 11 then decGs es else none
  | .v (.slice none 0 0) => some []
  | _ => none
def decGs : List D → Option (List Glob)
  | [] => some []
  | d :: ds => (decG d).bind fun x => (decGs ds).bind fun xs => some (x :: xs)
end
theorem encGs_map : ∀ l : List Glob, encGs l = l.map encG
  | [] => rfl
  | _ :: l => by rw [encGs, encGs_map l]; rfl
theorem encG_kn : ∀ c : Glob, (encG c).kn = true
  | .mk .. => rfl
theorem encG_wid : ∀ c : Glob, (encG c).cells.length = 11
  | .mk .. => rfl
mutual
theorem decG_enc : ∀ c : Glob, decG (encG c) = some c
  | .mk p0 p1 p2 p3 p4 p5 p6 p7 p8 p9 ks => by
    have h : decGK (.list 11 (encGs ks)) = some ks := by rw [decGK, if_pos rfl]; exact decGs_enc ks
    simp only [encG, decG, Cod.dec_enc, Option.bind_some, h]
theorem decGs_enc : ∀ l : List Glob, decGs (encGs l) = some l
  | [] => by simp only [encGs, decGs]
  | c :: l => by simp only [encGs, decGs, decG_enc c, decGs_enc l, Option.bind_some]
end
mutual
theorem decG_le : ∀ (d : D) (c : Glob), decG d = some c → FrzTo noH d (encG c)
  | .agg [x0, x1, x2, x3, x4, x5, x6, x7, x8, x9, x10], c, h => by
    simp only [decG, Option.bind_eq_some_iff, Option.some.injEq] at h
    obtain ⟨p0, h0, p1, h1, p2, h2, p3, h3, p4, h4, p5, h5, p6, h6, p7, h7, p8, h8, p9, h9, ks, hk, rfl⟩ := h
    rw [encG]
    exact LeL.agg (.cons (Cod.le _ _ h0) (.cons (Cod.le _ _ h1) (.cons (Cod.le _ _ h2) (.cons (Cod.le _ _ h3) (.cons (Cod.le _ _ h4) (.cons (Cod.le _ _ h5) (.cons (Cod.le _ _ h6) (.cons (Cod.le _ _ h7) (.cons (Cod.le _ _ h8) (.cons (Cod.le _ _ h9) ((.cons (decGK_le x10 ks hk) .nil))))))))))))
theorem decGK_le : ∀ (d : D) (l : List Glob), decGK d = some l → FrzTo noH d (.list 11 (encGs l))
  | .list n es, l, h => by
    simp only [decGK] at h
    split at h
    · rename_i hn
      subst hn
      have hl := decGs_le es l h
      refine .list hl.1 (fun e he => ?_) hl.2
      rw [encGs_map] at he
      obtain ⟨x, hx, rfl⟩ := List.mem_map.1 he
      exact ⟨encG_kn x, encG_wid x⟩
    · cases h
  | .v (.slice none 0 0), l, h => by
    simp only [decGK, Option.some.injEq] at h
    subst h
    exact .nil _
theorem decGs_le : ∀ (es : List D) (l : List Glob), decGs es = some l → LeL es (encGs l)
  | [], l, h => by
    simp only [decGs, Option.some.injEq] at h
    subst h
    exact .nil
  | d :: ds, l, h => by
    simp only [decGs, Option.bind_eq_some_iff, Option.some.injEq] at h
    obtain ⟨x, h1, xs, h2, rfl⟩ := h
    rw [encGs]
    exact .cons (decG_le d x h1) (decGs_le ds xs h2)
end
instance : Cod Glob where
  wd := 11
  enc := encG
  dec := decG
  kn := encG_kn
  wid := encG_wid
  dec_enc := decG_enc
  le := decG_le
theorem encGs_enc (ks : List Glob) : D.list 11 (encGs ks) = enc ks := by rw [encGs_map]; rfl
theorem decGs_mapM : ∀ es : List D, decGs es = es.mapM (dec (X := Glob))
  | [] => by simp [decGs]
  | d :: es => by
    rw [decGs, List.mapM_cons, decGs_mapM es]
    rfl
theorem decGK_eq : ∀ d : D, decGK d = dec (X := List Glob) d := fun d => by
  unfold decGK
  split
  · rename_i n es
    show _ = if n = 11 then es.mapM (dec (X := Glob)) else none
    rw [decGs_mapM]
  · rfl
  · rename_i h1 h2
    show _ = (match d with
      | .list n es => if n = 11 then es.mapM (dec (X := Glob)) else none
      | .v (.slice none 0 0) => some []
      | _ => none)
    split
    · exact absurd rfl (h1 _ _)
    · exact absurd rfl h2
    · rfl
@[simp] theorem eta_Glob (s : Glob) : Glob.mk s.op s.a s.b s.name s.arg s.val s.fold s.mn s.mx s.args s.kids = s := by cases s; rfl
@[simp] theorem enc_Glob (s : Glob) : enc s = .agg [enc s.op, enc s.a, enc s.b, enc s.name, enc s.arg, enc s.val, enc s.fold, enc s.mn, enc s.mx, enc s.args, enc s.kids] := by
  rw [← encGs_enc]
  cases s
  show encG _ = _
  rw [encG]
@[simp] theorem wd_Glob : Cod.wd Glob = 11 := id rfl
@[simp] theorem dec_Glob (x0 x1 x2 x3 x4 x5 x6 x7 x8 x9 x10 : D) : dec (X := Glob) (.agg [x0, x1, x2, x3, x4, x5, x6, x7, x8, x9, x10]) = ((dec x0).bind fun x0 => (dec x1).bind fun x1 => (dec x2).bind fun x2 => (dec x3).bind fun x3 => (dec x4).bind fun x4 => (dec x5).bind fun x5 => (dec x6).bind fun x6 => (dec x7).bind fun x7 => (dec x8).bind fun x8 => (dec x9).bind fun x9 => (dec x10).bind fun x10 => some ⟨x0, x1, x2, x3, x4, x5, x6, x7, x8, x9, x10⟩) := by
  show decG _ = _
  simp only [decG, decGK_eq]

structure Filt where
  op : Int
  neg : Bool
  reg : B
instance : Cod Filt where
  wd := 3
  enc f := .agg [enc f.op, enc f.neg, enc f.reg]
  dec | .agg [x0, x1, x2] => (dec x0).bind fun a => (dec x1).bind fun b => (dec x2).bind fun c => some ⟨a, b, c⟩ | _ => none
  kn _ := rfl
  wid _ := rfl
  dec_enc f := by simp only [Cod.dec_enc, Option.bind_some]
  le d x h := by
    split at h
    · simp only [Option.bind_eq_some_iff, Option.some.injEq] at h
      obtain ⟨a, h0, b, h1, c, h2, rfl⟩ := h
      exact LeL.agg (.cons (Cod.le _ _ h0) (.cons (Cod.le _ _ h1) (.cons (Cod.le _ _ h2) .nil)))
    · cases h
@[simp] theorem eta_Filt (s : Filt) : Filt.mk s.op s.neg s.reg = s := by cases s; rfl
@[simp] theorem enc_Filt (s : Filt) : enc s = .agg [enc s.op, enc s.neg, enc s.reg] := id rfl
@[simp] theorem wd_Filt : Cod.wd Filt = 3 := id rfl
@[simp] theorem dec_Filt (x0 x1 x2 : D) : dec (X := Filt) (.agg [x0, x1, x2]) = ((dec x0).bind fun a => (dec x1).bind fun b => (dec x2).bind fun c => some ⟨a, b, c⟩) := id rfl

structure Qry where
  pat : Pat
  glob : Glob
  filts : List Filt
  strat : Int
def cellsP : Pat → List D | .mk op c l r mn mx ks => enc op :: (cellsC c ++ [enc l, enc r, enc mn, enc mx, enc ks])
theorem cellsP_eq : ∀ p : Pat, D.agg (cellsP p) = enc p
  | .mk .. => (enc_pat ..).symm
theorem cellsP_len : ∀ p : Pat, (cellsP p).length = 13
  | .mk op c l r mn mx ks => by simp [cellsP, cellsC_len]
def cellsG (g : Glob) : List D := [enc g.op, enc g.a, enc g.b, enc g.name, enc g.arg, enc g.val, enc g.fold, enc g.mn, enc g.mx, enc g.args, enc g.kids]
theorem cellsG_eq (g : Glob) : D.agg (cellsG g) = enc g := (enc_Glob g).symm
theorem agg_le {l l' : List D} (h : FrzTo noH (.agg l) (.agg l')) : LeL l l' := by
  cases h with
  | same => exact ⟨rfl, fun k x y hx hy => by rw [hx] at hy; cases hy; exact .same _⟩
  | agg hl h => exact ⟨hl, h⟩
theorem dec_patL {l : List D} {p : Pat} (h : dec (D.agg l) = some p) : LeL l (cellsP p) := agg_le (by rw [cellsP_eq]; exact Cod.le _ _ h)
theorem dec_globL {l : List D} {p : Glob} (h : dec (D.agg l) = some p) : LeL l (cellsG p) := agg_le (by rw [cellsG_eq]; exact Cod.le _ _ h)
def encQ (q : Qry) : D := .agg (cellsP q.pat ++ (cellsG q.glob ++ [enc q.filts, enc q.strat]))
def decQ : D → Option Qry
  | .agg [x0, x1, x2, x3, x4, x5, x6, x7, x8, x9, x10, x11, x12, y0, y1, y2, y3, y4, y5, y6, y7, y8, y9, y10, f, s] => (dec (D.agg [x0, x1, x2, x3, x4, x5, x6, x7, x8, x9, x10, x11, x12])).bind fun p => (dec (D.agg [y0, y1, y2, y3, y4, y5, y6, y7, y8, y9, y10])).bind fun g => (dec f).bind fun fs => (dec s).bind fun st => some ⟨p, g, fs, st⟩
  | _ => none
instance : Cod Qry where
  wd := 26
  enc := encQ
  dec := decQ
  kn _ := rfl
  wid q := by simp [encQ, D.cells, cellsP_len, cellsG]
  dec_enc q := by
    obtain ⟨⟨op, ⟨o, n, a, v, l, f, cks⟩, lb, rg, mn, mx, ks⟩, g, fs, st⟩ := q
    have h1 := Cod.dec_enc (⟨op, ⟨o, n, a, v, l, f, cks⟩, lb, rg, mn, mx, ks⟩ : Pat)
    have h2 := Cod.dec_enc g
    rw [enc_pat] at h1
    rw [enc_Glob] at h2
    simp only [cellsC, List.cons_append, List.nil_append] at h1
    simp only [encQ, cellsP, cellsC, cellsG, List.cons_append, List.nil_append, decQ, h1, h2, Cod.dec_enc, Option.bind_some]
  le d x h := by
    unfold decQ at h
    split at h
    · simp only [Option.bind_eq_some_iff, Option.some.injEq] at h
      obtain ⟨p, h0, g, h1, fs, h2, st, h3, rfl⟩ := h
      exact LeL.agg ((dec_patL h0).append ((dec_globL h1).append (.cons (Cod.le _ _ h2) (.cons (Cod.le _ _ h3) .nil))))
    · cases h
@[simp] theorem eta_Qry (s : Qry) : Qry.mk s.pat s.glob s.filts s.strat = s := by cases s; rfl
@[simp] theorem wd_Qry : Cod.wd Qry = 26 := id rfl
@[simp] theorem enc_Qry (s : Qry) : enc s = .agg [enc s.pat.op, enc s.pat.cond.op, enc s.pat.cond.name, enc s.pat.cond.arg, enc s.pat.cond.val, enc s.pat.cond.lab, enc s.pat.cond.fold, enc s.pat.cond.kids, enc s.pat.lab, enc s.pat.reg, enc s.pat.mn, enc s.pat.mx, enc s.pat.kids, enc s.glob.op, enc s.glob.a, enc s.glob.b, enc s.glob.name, enc s.glob.arg, enc s.glob.val, enc s.glob.fold, enc s.glob.mn, enc s.glob.mx, enc s.glob.args, enc s.glob.kids, enc s.filts, enc s.strat] := by
  obtain ⟨⟨op, ⟨o, n, a, v, l, f, cks⟩, lb, rg, mn, mx, ks⟩, g, fs, st⟩ := s
  rfl
@[simp] theorem dec_Qry (x0 x1 x2 x3 x4 x5 x6 x7 x8 x9 x10 x11 x12 y0 y1 y2 y3 y4 y5 y6 y7 y8 y9 y10 f s : D) : dec (X := Qry) (.agg [x0, x1, x2, x3, x4, x5, x6, x7, x8, x9, x10, x11, x12, y0, y1, y2, y3, y4, y5, y6, y7, y8, y9, y10, f, s]) = ((dec (D.agg [x0, x1, x2, x3, x4, x5, x6, x7, x8, x9, x10, x11, x12])).bind fun p => (dec (D.agg [y0, y1, y2, y3, y4, y5, y6, y7, y8, y9, y10])).bind fun g => (dec f).bind fun fs => (dec s).bind fun st => some ⟨p, g, fs, st⟩) := id rfl
end Go.Gv

namespace Go.Gv
set_option linter.unusedSimpArgs false
set_option linter.unusedVariables false
set_option maxRecDepth 100000
open Cod (enc dec)
variable {S S0 : Nat → Spc}
def P_rep (n : Nat) (x : Cond × List B) : Prop := 0 < n ∧ CS (n - 1) x.1
def P_bind (n : Nat) (x : Pat × List B) : Prop := 0 < n ∧ PD (n - 1) x.1
def PBn (x : Pat) (l : List B) : Prop := l.length + pNum x ≤ 1000000
def P_gen' (n : Nat) (x : List Int × Int × List B) : Prop := x.2.1.toNat < n ∧ -10 ≤ x.2.1 ∧ x.2.1 ≤ 100 ∧ 1 ≤ x.2.2.length ∧ x.2.2.length ≤ 1000000
theorem fin_glob {q : Glob → Prop} {H : HMap} {op mn mx : Int} {a b n g v : B} {f : Bool} {d e : D} (ar : List B) (ks : List Glob) (hd : FrzTo H d (enc ar)) (he : FrzTo H e (enc ks)) (hq : q ⟨op, a, b, n, g, v, f, mn, mx, ar, ks⟩) :
    Fin enc q (.agg [.v (.int .i64 op), .v (.string a), .v (.string b), .v (.string n), .v (.string g), .v (.string v), .v (.bool f), .v (.int .i64 mn), .v (.int .i64 mx), d, e]) H := by
  refine fin_of (⟨op, a, b, n, g, v, f, mn, mx, ar, ks⟩ : Glob) ?_ hq
  rw [enc_Glob]
  refine .agg rfl fun k x y hx hy => ?_
  rcases k with _ | _ | _ | _ | _ | _ | _ | _ | _ | _ | _ | k
  · cases hx; cases hy; exact .same _
  · cases hx; cases hy; exact .same _
  · cases hx; cases hy; exact .same _
  · cases hx; cases hy; exact .same _
  · cases hx; cases hy; exact .same _
  · cases hx; cases hy; exact .same _
  · cases hx; cases hy; exact .same _
  · cases hx; cases hy; exact .same _
  · cases hx; cases hy; exact .same _
  · cases hx; cases hy; exact hd
  · cases hx; cases hy; exact he
  · simp at hx
end Go.Gv

namespace Go.Gv
open Cod (enc dec)
set_option linter.unusedSimpArgs false

structure Tok where
  kind : Int
  text : B
  pos : Int
instance : Cod Tok where
  wd := 3
  enc t := .agg [.v (.int .u8 t.kind), enc t.text, enc t.pos]
  dec | .agg [.v (.int .u8 k), x1, x2] => (dec x1).bind fun b => (dec x2).bind fun c => some ⟨k, b, c⟩ | _ => none
  kn _ := rfl
  wid _ := rfl
  dec_enc f := by simp only [Cod.dec_enc, Option.bind_some]
  le d x h := by
    split at h
    · simp only [Option.bind_eq_some_iff, Option.some.injEq] at h
      obtain ⟨b, h1, c, h2, rfl⟩ := h
      exact LeL.agg (.cons (.same _) (.cons (Cod.le _ _ h1) (.cons (Cod.le _ _ h2) .nil)))
    · cases h
@[simp] theorem eta_Tok (s : Tok) : Tok.mk s.kind s.text s.pos = s := by cases s; rfl
@[simp] theorem enc_Tok (s : Tok) : enc s = .agg [.v (.int .u8 s.kind), enc s.text, enc s.pos] := id rfl
@[simp] theorem wd_Tok : Cod.wd Tok = 3 := id rfl
@[simp] theorem dec_Tok (k : Int) (x1 x2 : D) : dec (X := Tok) (.agg [.v (.int .u8 k), x1, x2]) = ((dec x1).bind fun b => (dec x2).bind fun c => some ⟨k, b, c⟩) := id rfl

structure Pst where
  l : List Tok
  pos : Int
  deep : Int
  e : Int
  fail : Int
@[simp] theorem eta_Pst (s : Pst) : Pst.mk s.l s.pos s.deep s.e s.fail = s := by cases s; rfl
def cePst (s : Pst) : List D := [enc s.l, enc s.pos, enc s.deep, enc s.e, enc s.fail]
@[simp] theorem cePst_eq (s : Pst) : cePst s = [enc s.l, enc s.pos, enc s.deep, enc s.e, enc s.fail] := id rfl

/-! ### What the methods compute -/
def Pst.step (s : Pst) : Pst := { s with pos := s.pos + 1 }
def nowT (s : Pst) : Option Tok := if 0 ≤ s.pos ∧ s.l.length ≤ 1000000 then s.l[s.pos.toNat]? else none
def isF (s : Pst) (k : Int) (t : B) : Option Bool := if s.e ≠ 0 then some false else (nowT s).map fun x => decide (x.kind = k ∧ x.text = t)
def eatF (s : Pst) (t : B) : Option (Pst × Bool) := (isF s 111 t).map fun b => if b then (s.step, true) else (s, false)
/-- (no error: where the token is another one, there is no result here.) -/
def wantF (s : Pst) (k : Int) (t : B) : Option (Pst × B) := if s.e ≠ 0 then none else (nowT s).bind fun x => if x.kind ≠ k ∨ k = 111 ∧ x.text ≠ t then none else some (s.step, x.text)
def digit1 (n : Int) (c : UInt8) : Int := min (10 * n + ((c.toNat : Int) - 48)) 1000000
def digitsF (t : B) : Option Int := if t.data.toList.all fun c => decide (48 ≤ c.toNat ∧ c.toNat ≤ 57) then some (t.data.toList.foldl digit1 0) else none
def numberF (s : Pst) (limit : Int) : Option (Pst × Int) := (wantF s 100 ⟨#[]⟩).bind fun r => (digitsF r.2).bind fun n => if n ≤ limit then some (r.1, n) else none
/-- (not at names) -/
def beginsF (s : Pst) : Option Bool := (nowT s).bind fun x => if s.e ≠ 0 then some false else if x.kind = 110 then none else some (decide (x.kind = 115 ∨ x.kind = 111 ∧ (x.text = ⟨#[91]⟩ ∨ x.text = ⟨#[60]⟩ ∨ x.text = ⟨#[60, 47]⟩ ∨ x.text = ⟨#[40]⟩)))
def E0 : B := ⟨#[]⟩
section
variable (A : Pst → Option (Pst × Pat))
/-- (parentheses, and quoted texts) -/
def itemF (s : Pst) : Option (Pst × Pat) :=
  (eatF s ⟨#[40]⟩).bind fun r =>
    if r.2 then (if 0 ≤ s.deep ∧ s.deep ≤ 1000 then (A { r.1 with deep := s.deep + 1 }).bind fun q => if 0 ≤ q.1.deep ∧ q.1.deep ≤ 1000000 then (wantF { q.1 with deep := q.1.deep - 1 } 111 ⟨#[41]⟩).map fun w => (w.1, q.2) else none else none)
    else if s.e ≠ 0 then none else (nowT s).bind fun x => if x.kind ≠ 115 then none else (eatF s.step ⟨#[37, 99]⟩).map fun w => (w.1, ⟨1, ⟨2, E0, E0, x.text, E0, w.2, []⟩, E0, E0, 0, 0, []⟩)
/-- (only counts in braces, with one number) -/
def repLoop : Nat → Pst → Pat → Option (Pst × Pat)
  | 0, _, _ => none
  | k + 1, s, x => if s.e ≠ 0 then none else (nowT s).bind fun t => if t.kind = 111 ∧ (t.text = ⟨#[63]⟩ ∨ t.text = ⟨#[42]⟩ ∨ t.text = ⟨#[43]⟩) then none else
      if t.kind = 111 ∧ t.text = ⟨#[123]⟩ then (numberF s.step 16).bind fun r => (eatF r.1 ⟨#[44]⟩).bind fun w => if w.2 then none else (wantF w.1 111 ⟨#[125]⟩).bind fun u => repLoop k u.1 ⟨6, Cond0, E0, E0, r.2, r.2, [x]⟩
      else some (s, x)
def repF (s : Pst) : Option (Pst × Pat) := (itemF A s).bind fun r => repLoop 100 r.1 r.2
def seqLoop : Nat → Pst → List Pat → Option (Pst × List Pat)
  | 0, _, _ => none
  | k + 1, s, acc => (beginsF s).bind fun b => if b then (repF A s).bind fun r => seqLoop k r.1 (acc ++ [r.2]) else some (s, acc)
def oneOr (op : Int) (l : List Pat) : Pat := match l with
  | [x] => x
  | l => ⟨op, Cond0, E0, E0, 0, 0, l⟩
def seqF (s : Pst) : Option (Pst × Pat) := (repF A s).bind fun r => (seqLoop A 100 r.1 [r.2]).map fun q => (q.1, oneOr 4 q.2)
def altLoop : Nat → Pst → List Pat → Option (Pst × List Pat)
  | 0, _, _ => none
  | k + 1, s, acc => (eatF s ⟨#[124]⟩).bind fun w => if w.2 then (seqF A w.1).bind fun r => altLoop k r.1 (acc ++ [r.2]) else some (w.1, acc)
def altS (s : Pst) : Option (Pst × Pat) := (seqF A s).bind fun r => (altLoop A 100 r.1 [r.2]).map fun q => (q.1, oneOr 5 q.2)
end
def altF : Nat → Pst → Option (Pst × Pat)
  | 0 => fun _ => none
  | n + 1 => altS (altF n)
end Go.Gv

namespace Go.Gv
set_option linter.unusedSimpArgs false
def isSp (s : B) (i : Nat) : Bool := match s.data[i]? with
  | some c => decide (c.toNat = 32 ∨ c.toNat = 10)
  | none => false
def isDg (s : B) (i : Nat) : Bool := match s.data[i]? with
  | some c => decide (48 ≤ c.toNat ∧ c.toNat ≤ 57)
  | none => false
def skipN : Nat → B → Nat → Nat
  | 0, _, i => i
  | n + 1, s, i => if isSp s i then skipN n s (i + 1) else i
def skipF (s : B) (i : Nat) : Nat := skipN (s.size - i) s i
def digN : Nat → B → Nat → Nat
  | 0, _, i => i
  | n + 1, s, i => if isDg s i then digN n s (i + 1) else i
def digF (s : B) (i : Nat) : Nat := digN (s.size - i) s i
def signsL : List B := [⟨#[60, 47]⟩, ⟨#[33, 61]⟩, ⟨#[58, 58]⟩, ⟨#[37, 99]⟩, ⟨#[91]⟩, ⟨#[93]⟩, ⟨#[40]⟩, ⟨#[41]⟩, ⟨#[123]⟩, ⟨#[125]⟩, ⟨#[60]⟩, ⟨#[62]⟩, ⟨#[124]⟩, ⟨#[38]⟩, ⟨#[33]⟩, ⟨#[61]⟩, ⟨#[58]⟩, ⟨#[46]⟩, ⟨#[44]⟩, ⟨#[63]⟩, ⟨#[42]⟩, ⟨#[43]⟩, ⟨#[45]⟩]
def preB (s : B) (i : Nat) (x : B) : Bool := decide (i + x.size ≤ s.size ∧ s.extract i (i + x.size) = x)
end Go.Gv

namespace Go.Gv
open Cod (enc dec)
set_option linter.unusedSimpArgs false
set_option linter.unusedVariables false
def cOp (op : Int) (l : List Cond) : Cond := match l with
  | [x] => x
  | l => ⟨op, E0, E0, E0, E0, false, l⟩
/-! ### Conditions -/
section
variable (N : Pst → Option (Pst × Cond)) (O : Pst → Option (Pst × Cond))
end
/-! ### Patterns -/
section
variable (A : Pst → Option (Pst × Pat)) (O : Pst → Option (Pst × Cond))
end
section
variable (N : Pst → Option (Pst × Glob)) (O : Pst → Option (Pst × Glob))
end
/-! ### Queries -/
def filterL : List B := [E0, ⟨#[119, 105, 116, 104, 105, 110]⟩, ⟨#[99, 111, 110, 116, 97, 105, 110, 105, 110, 103]⟩, ⟨#[111, 118, 101, 114, 108, 97, 112, 112, 105, 110, 103]⟩]
end Go.Gv

namespace Go.Gv
set_option linter.unusedSimpArgs false
def letB (c : Nat) : Bool := decide (65 ≤ c ∧ c ≤ 90 ∨ 97 ≤ c ∧ c ≤ 122 ∨ c = 95)
/-- a letter, a digit or '-' -/
def isNm (s : B) (i : Nat) : Bool := match s.data[i]? with
  | some c => letB c.toNat || decide (48 ≤ c.toNat ∧ c.toNat ≤ 57 ∨ c.toNat = 45)
  | none => false
def namN : Nat → B → Nat → Nat
  | 0, _, i => i
  | n + 1, s, i => if isNm s i then namN n s (i + 1) else i
def namF (s : B) (i : Nat) : Nat := namN (s.size - i) s i
/-- what stands in quotes from j on, and where the closing one stands (none: it is not closed) -/
def quoNG : Nat → B → Nat → B → Option (Nat × B)
  | 0, _, _, _ => none
  | n + 1, s, j, v => match s.data[j]? with
    | none => none
    | some c => if c.toNat = 34 then (match s.data[j + 1]? with
        | some d => if d.toNat = 34 then quoNG n s (j + 2) (v ++ s.extract (j + 1) (j + 2)) else some (j, v)
        | none => some (j, v)) else quoNG n s (j + 1) (v ++ s.extract j (j + 1))
def quoG (s : B) (j : Nat) (v : B) : Option (Nat × B) := quoNG (s.size - j) s j v
end Go.Gv
