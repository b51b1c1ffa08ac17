/- A part of the framework and of the walks: T18 W14 W2 W3 W17. -/
import Derived.Test.YtblcfloekekefaaGe15
import Derived.Test.YtblcfloekekefaaGe16
import Derived.Test.YtblcfloekekefaaGe12
import Derived.Test.YtblcfloekekefaaGe14
import Derived.Test.YtblcfloekekefaaGe13

namespace Go.Gv
set_option linter.unusedSimpArgs false
set_option linter.unusedVariables false

/-- r is known at least as well as r' (Hf: what is given up). -/
def RFz (Hf : HMap) : Res → Res → Prop
  | .box b cs, .box b' cs' => b = b' ∧ cs.length = cs'.length ∧ ∀ (m : Nat) (c c' : D), cs[m]? = some c → cs'[m]? = some c' → FrzTo Hf c c'
  | .row x el n es, .row x' el' n' es' => x = x' ∧ el = el' ∧ n = n' ∧ es.length = es'.length ∧ (∀ d ∈ es', d.kn = true ∧ d.cells.length = n) ∧ ∀ (m : Nat) (c c' : D), es[m]? = some c → es'[m]? = some c' → ∀ (j : Nat) (e e' : D), c.cells[j]? = some e → c'.cells[j]? = some e' → FrzTo Hf e e'
  | r, r' => r = r'

theorem RFz.blk {Hf : HMap} {r r' : Res} (h : RFz Hf r r') : r'.blk = r.blk := by
  cases r <;> cases r' <;> simp only [RFz] at h
  · obtain ⟨rfl, _⟩ := h; rfl
  all_goals first
    | (obtain ⟨rfl, rfl, rfl, _⟩ := h; rfl)
    | (cases h; done)
    | (cases h; rfl)

theorem RFz.ok {tp I I' : Nat → Prop} {w : World} {Hf : HMap} {r r' : Res} (h : RFz Hf r r') (hr : ResOk (R tp I w) w r) (hok : ∀ i q, Hf i = some q → ResOk (R tp I w) w q) (hI : ∀ b, I b → I' b) (hb : ∀ i q b, Hf i = some q → q.blk = some b → I' b) : ResOk (R tp I' w) w r' := by
  have fz : ∀ {c c' : D} {y : Value}, FrzTo Hf c c' → R tp I w y c → R tp I' w y c' := fun h hr => h.R (H := noH) hok hI hb hr
  have same : ResOk (R tp I' w) w r := hr.conv (fun x d hr => hr.mono (fun _ h => h) (fun b hb => ⟨hI b hb, rfl⟩) (fun b _ => .refl _ _)) (fun _ _ => rfl)
  cases r with
  | box b cs =>
    cases r' with
    | box b' cs' =>
      obtain ⟨rfl, hl, hc⟩ := h
      obtain ⟨xs, el, h1, h2, h3⟩ := hr
      refine ⟨xs, el, h1, h2.trans hl, fun k y c hy hc' => ?_⟩
      have hk : k < cs.length := by rw [hl]; exact (List.getElem?_eq_some_iff.1 hc').1
      have h4 := h3 k y cs[k] hy (List.getElem?_eq_getElem hk)
      exact ⟨h4.1, fz (hc k _ _ (List.getElem?_eq_getElem hk) hc') h4.2⟩
    | row x el n es => cases h
    | iter b s p => cases h
  | iter b s p =>
    cases r' with
    | box b' cs' => cases h
    | row x el n es => cases h
    | iter b' s' p' => cases h; exact same
  | row x el n es =>
    cases r' with
    | box b' cs' => cases h
    | iter b' s' p' => cases h
    | row x' el' n' es' =>
      obtain ⟨rfl, rfl, rfl, hl, hkn, hc⟩ := h
      obtain ⟨xs, h1, h2, h3⟩ := hr
      refine ⟨xs, hl ▸ h1, hkn, fun k y c hy hc' => ?_⟩
      have hw : ∀ d ∈ es, d.cells.length = n := fun d hd => (h2 d hd).2
      have hw' : ∀ d ∈ es', d.cells.length = n := fun d hd => (hkn d hd).2
      have hfl := flat_length hw
      have hfl' := flat_length hw'
      have hk : k < (flat es).length := by
        have := (List.getElem?_eq_some_iff.1 hc').1
        rw [hfl, hl, ← hfl']; exact this
      have hk2 : k < es.length * n := by rw [← hfl]; exact hk
      have hn : 0 < n := by
        rcases Nat.eq_zero_or_pos n with e | e
        · subst e; simp at hk2
        · exact e
      have h4 := h3 k y (flat es)[k] hy (List.getElem?_eq_getElem hk)
      refine ⟨h4.1, fz ?_ h4.2⟩
      have hdm : k = (k / n) * n + k % n := by have := Nat.div_add_mod k n; rw [Nat.mul_comm] at this; omega
      have hmod : k % n < n := Nat.mod_lt _ hn
      have g1 := flat_get hw (i := k / n) (j := k % n) hmod
      have g2 := flat_get hw' (i := k / n) (j := k % n) hmod
      rw [← hdm] at g1 g2
      rw [hc'] at g2
      rw [List.getElem?_eq_getElem hk] at g1
      cases e1 : es[k / n]? with
      | none => rw [e1] at g1; cases g1
      | some c1 =>
        cases e2 : es'[k / n]? with
        | none => rw [e2] at g2; cases g2
        | some c2 =>
          rw [e1] at g1
          rw [e2] at g2
          exact hc _ c1 c2 e1 e2 _ _ _ g1.symm g2.symm
def RFe (Hf : HMap) (r r' : Res) : Prop := r = r' ∨ RFz Hf r r'
theorem RFe.blk {Hf : HMap} {r r' : Res} (h : RFe Hf r r') : r'.blk = r.blk := by
  rcases h with rfl | h
  · rfl
  · exact h.blk
theorem RFe.ok {tp I I' : Nat → Prop} {w : World} {Hf : HMap} {r r' : Res} (h : RFe Hf r r') (hr : ResOk (R tp I w) w r) (hok : ∀ i q, Hf i = some q → ResOk (R tp I w) w q) (hI : ∀ b, I b → I' b) (hb : ∀ i q b, Hf i = some q → q.blk = some b → I' b) : ResOk (R tp I' w) w r' := by
  rcases h with rfl | h
  · exact hr.conv (fun x d hr => hr.mono (fun _ h => h) (fun b hb => ⟨hI b hb, rfl⟩) (fun b _ => .refl _ _)) (fun _ _ => rfl)
  · exact h.ok hr hok hI hb
theorem isNilRow.blk' {r : Res} (h : isNilRow r) : r.blk = none := by
  cases r with
  | box b c => exact h.elim
  | iter b s p => exact h.elim
  | row x el n es => obtain ⟨rfl, rfl⟩ := h; rfl

theorem wk_all {σ σ' : Sg} {H H' Hf : HMap} (ρ : Nat → Nat) (h1 : ∀ t, FrzTo Hf (σ t) (σ' t)) (h2 : ∀ i r, H' i = some r → (∃ r0, H (ρ i) = some r0 ∧ RFe Hf r0 r) ∨ isNilRow r)
    (h3 : ∀ i j r s, H' i = some r → H' j = some s → ρ i = ρ j → i = j ∨ isNilRow r ∨ isNilRow s) (h4 : ∀ i r, Hf i = some r → H i = some r ∧ ∀ j r', H' j = some r' → ρ j = i → isNilRow r') : Wk σ H σ' H' := by
  intro E a w ⟨hd, hN, tp, h, hr⟩
  have hblk : ∀ i r c, H' i = some r → r.blk = some c → ∃ r0, H (ρ i) = some r0 ∧ r0.blk = some c ∧ ¬ isNilRow r := fun i r c k1 k2 => by
    have hn : ¬ isNilRow r := fun hn => by rw [hn.blk'] at k2; cases k2
    rcases h2 i r k1 with ⟨r0, k3, k4⟩ | k3
    · exact ⟨r0, k3, k4.blk ▸ k2, hn⟩
    · exact absurd k3 hn
  have hown : ∀ c, owns H' c → owns H c := fun c ⟨i, r, k1, k2⟩ => by
    obtain ⟨r0, k3, k4, _⟩ := hblk i r c k1 k2
    exact ⟨ρ i, r0, k3, k4⟩
  have himm : ∀ c, Imm E.O tp H w c → Imm E.O tp H' w c := fun c hb => ⟨hb.1, hb.2.1, hb.2.2.1, fun ho => hb.2.2.2 (hown c ho)⟩
  have hfok : ∀ i q, Hf i = some q → ResOk (R tp (Imm E.O tp H w) w) w q := fun i q hq => h.sat.ok i q (h4 i q hq).1
  have hfb : ∀ i q b, Hf i = some q → q.blk = some b → Imm E.O tp H' w b := fun i q b hq hb => by
    obtain ⟨k1, k2⟩ := h4 i q hq
    have ho := h.sat.out i q b k1 hb
    refine ⟨(h.sat.ok i q k1).lt hb, ho.1, ho.2, fun ⟨j, s, k3, k4⟩ => ?_⟩
    obtain ⟨s0, k5, k6, k7⟩ := hblk j s b k3 k4
    exact k7 (k2 j s k3 (h.sat.dis (ρ j) i s0 q b k5 k1 k6 hb))
  have move : ∀ x d, R tp (Imm E.O tp H w) w x d → R tp (Imm E.O tp H' w) w x d := fun x d hr =>
    hr.mono (fun _ h => h) (fun b hb => ⟨himm b hb, rfl⟩) (fun b _ => .refl _ _)
  refine ⟨hd, hN, tp, ⟨h.hO, h.tpx, h.tpn, h.tpl, h.step, fun b hb => h.loc b (hown b hb), ⟨fun i j r s c k1 k2 k3 k4 => ?_, fun i r c k1 k2 => ?_, fun i r k1 => ?_⟩⟩, fun t => (h1 t).R (H := noH) hfok himm hfb (hr t)⟩
  · obtain ⟨r0, a1, a2, a3⟩ := hblk i r c k1 k3
    obtain ⟨s0, b1, b2, b3⟩ := hblk j s c k2 k4
    rcases h3 i j r s k1 k2 (h.sat.dis _ _ r0 s0 c a1 b1 a2 b2) with e | e | e
    · exact e
    · exact absurd e a3
    · exact absurd e b3
  · obtain ⟨r0, a1, a2, _⟩ := hblk i r c k1 k2
    exact h.sat.out _ r0 c a1 a2
  · rcases h2 i r k1 with ⟨r0, k3, k4⟩ | k3
    · exact k4.ok (h.sat.ok _ r0 k3) hfok himm hfb
    · cases r with
      | box b c => exact k3.elim
      | iter b s p => exact k3.elim
      | row x el n es =>
        obtain ⟨rfl, rfl⟩ := k3
        exact ⟨[], World.ownsRow_nil _ _ _ _, by simp, fun k y c h => by simp at h⟩
def MatchF (Hf : HMap) : List (Nat × D) → Sg → Prop
  | [], _ => True
  | (t, d) :: l, σ => FrzTo Hf (σ t) d ∧ MatchF Hf l σ
@[simp] theorem matchF_n (Hf : HMap) (σ : Sg) : MatchF Hf [] σ = True := id rfl
@[simp] theorem matchF_c (Hf : HMap) (t : Nat) (d : D) (l : List (Nat × D)) (σ : Sg) : MatchF Hf ((t, d) :: l) σ = (FrzTo Hf (σ t) d ∧ MatchF Hf l σ) := id rfl
/-- Resource i is what was resource j: (i, j) in rn. -/
def rnm (rn : List (Nat × Nat)) (i : Nat) : Nat := (rn.lookup i).getD i
def MatchR (Hf : HMap) (rn : List (Nat × Nat)) : List (Nat × Res) → HMap → Prop
  | [], _ => True
  | (i, r) :: l, H => ((∃ r0, H (rnm rn i) = some r0 ∧ RFe Hf r0 r) ∨ isNilRow r) ∧ MatchR Hf rn l H
@[simp] theorem matchR_n (Hf : HMap) (rn : List (Nat × Nat)) (H : HMap) : MatchR Hf rn [] H = True := id rfl
@[simp] theorem matchR_c (Hf : HMap) (rn : List (Nat × Nat)) (i : Nat) (r : Res) (l : List (Nat × Res)) (H : HMap) : MatchR Hf rn ((i, r) :: l) H = (((∃ r0, H (rnm rn i) = some r0 ∧ RFe Hf r0 r) ∨ isNilRow r) ∧ MatchR Hf rn l H) := id rfl
/-- What is given up. -/
def gvH (gv : List Nat) (H : HMap) : HMap := fun i => if i ∈ gv then H i else none
def Inj (rn : List (Nat × Nat)) (ids gv : List Nat) : Prop := (∀ i ∈ ids, ∀ j ∈ ids, rnm rn i = rnm rn j → i = j) ∧ (∀ i ∈ ids, rnm rn i ∉ gv)
instance (rn : List (Nat × Nat)) (ids gv : List Nat) : Decidable (Inj rn ids gv) := by unfold Inj; infer_instance
theorem addH_mem {l : List (Nat × Res)} {H : HMap} {i : Nat} {r : Res} (h : addH l H i = some r) : (i, r) ∈ l ∨ (i ∉ l.map (·.1) ∧ H i = some r) := by
  induction l with
  | nil => exact .inr ⟨by simp, h⟩
  | cons p l ih =>
    obtain ⟨j, q⟩ := p
    simp only [addH, updH] at h
    split at h
    · rename_i e; subst e; cases h; exact .inl (by simp)
    · rename_i e
      rcases ih h with h | ⟨h1, h2⟩
      · exact .inl (by simp [h])
      · exact .inr ⟨by simp [e, h1], h2⟩
theorem matchR_mem {Hf : HMap} {rn : List (Nat × Nat)} {l : List (Nat × Res)} {H : HMap} {i : Nat} {r : Res} (h : MatchR Hf rn l H) (hm : (i, r) ∈ l) : (∃ r0, H (rnm rn i) = some r0 ∧ RFe Hf r0 r) ∨ isNilRow r := by
  induction l with
  | nil => simp at hm
  | cons p l ih =>
    obtain ⟨j, q⟩ := p
    rcases List.mem_cons.1 hm with e | hm
    · cases e; exact h.1
    · exact ih h.2 hm
theorem wk_matchG {σ0 σ : Sg} {H0 H : HMap} {ks hk gv : List Nat} {rn : List (Nat × Nat)} {sl : List (Nat × D)} {hp : List (Nat × Res)} (hi : Inj rn (hp.map (·.1) ++ hk) gv) (hid : ∀ i ∈ hk, i ∉ hp.map (·.1) → rnm rn i = i)
    (h1 : MatchF (gvH gv H) sl σ) (h2 : KeptS ks σ0 σ) (h3 : MatchR (gvH gv H) rn hp H) (h4 : KeptH hk H0 H) : Wk σ H (addS sl (keepS ks σ0)) (addH hp (keepH hk H0)) := by
  have hmem : ∀ i r, addH hp (keepH hk H0) i = some r → i ∈ hp.map (·.1) ++ hk := fun i r h => by
    rcases addH_mem h with h | ⟨_, h⟩
    · exact List.mem_append.2 (.inl (List.mem_map.2 ⟨_, h, rfl⟩))
    · rw [keepH_at] at h
      split at h
      · rename_i e; exact List.mem_append.2 (.inr e)
      · cases h
  refine wk_all (Hf := gvH gv H) (rnm rn) (fun t => ?_) (fun i r h => ?_) (fun i j r s k1 k2 e => .inl (hi.1 i (hmem i r k1) j (hmem j s k2) e)) (fun i r h => ?_)
  · clear hi hid h3 hmem
    induction sl with
    | nil =>
      rw [addS_n, keepS_at]
      split
      · rename_i h; rw [← h2 t h]; exact .same _
      · exact .any _
    | cons p sl ih =>
      obtain ⟨s, d⟩ := p
      simp only [addS, upd]
      split
      · rename_i e; subst e; exact h1.1
      · exact ih h1.2
  · rcases addH_mem h with h | ⟨h5, h⟩
    · exact matchR_mem h3 h
    · rw [keepH_at] at h
      split at h
      · rename_i e
        rw [hid i e h5, h4 i e]
        exact .inl ⟨r, h, .inl rfl⟩
      · cases h
  · simp only [gvH] at h
    split at h
    · rename_i e
      exact ⟨h, fun j r' k1 k2 => absurd e (k2 ▸ hi.2 j (hmem j r' k1))⟩
    · cases h

@[simp] theorem rnm_n (i : Nat) : rnm [] i = i := id rfl
@[simp] theorem rnm_c (i j : Nat) (l : List (Nat × Nat)) (k : Nat) : rnm ((i, j) :: l) k = if k = i then j else rnm l k := by
  simp only [rnm, List.lookup]
  by_cases e : k = i
  · subst e; simp
  · have : (k == i) = false := by simpa using e
    simp [this, e]
def FzL (Hf : HMap) : List D → List D → Prop
  | [], [] => True
  | a :: l, b :: r => FrzTo Hf a b ∧ FzL Hf l r
  | _, _ => False
@[simp] theorem fzL_n (Hf : HMap) : FzL Hf [] [] = True := id rfl
@[simp] theorem fzL_c (Hf : HMap) (a b : D) (l r : List D) : FzL Hf (a :: l) (b :: r) = (FrzTo Hf a b ∧ FzL Hf l r) := id rfl
theorem FzL.get {Hf : HMap} : ∀ {l r : List D}, FzL Hf l r → l.length = r.length ∧ ∀ (m : Nat) (c c' : D), l[m]? = some c → r[m]? = some c' → FrzTo Hf c c'
  | [], [], _ => ⟨rfl, fun m c c' h => by simp at h⟩
  | a :: l, b :: r, h => by
    obtain ⟨h1, h2⟩ := h
    have ih := FzL.get h2
    refine ⟨by simp [ih.1], fun m c c' e1 e2 => ?_⟩
    cases m with
    | zero => simp at e1 e2; subst e1; subst e2; exact h1
    | succ m => simp at e1 e2; exact ih.2 m c c' e1 e2
@[simp] theorem rfe_box (Hf : HMap) (b : Nat) (cs cs' : List D) : RFe Hf (.box b cs) (.box b cs') = (cs = cs' ∨ FzL Hf cs cs') := by
  refine propext ⟨fun h => ?_, fun h => ?_⟩
  · rcases h with h | ⟨_, hl, hc⟩
    · cases h; exact .inl rfl
    · right
      induction cs generalizing cs' with
      | nil => cases cs' with
        | nil => trivial
        | cons b r => simp at hl
      | cons a l ih => cases cs' with
        | nil => simp at hl
        | cons b r => exact ⟨hc 0 a b rfl rfl, ih r (by simpa using hl) fun m c c' h1 h2 => hc (m + 1) c c' (by simpa using h1) (by simpa using h2)⟩
  · rcases h with rfl | h
    · exact .inl rfl
    · exact .inr ⟨rfl, h.get.1, h.get.2⟩
def BackG (σ0 : Sg) (H0 : HMap) (ks hk gv : List Nat) (rn : List (Nat × Nat)) (sl : List (Nat × D)) (hp : List (Nat × Res)) (σ : Sg) (H : HMap) : Prop := MatchF (gvH gv H) sl σ ∧ KeptS ks σ0 σ ∧ MatchR (gvH gv H) rn hp H ∧ KeptH hk H0 H
@[simp] theorem backG_eq (σ0 : Sg) (H0 : HMap) (ks hk gv : List Nat) (rn : List (Nat × Nat)) (sl : List (Nat × D)) (hp : List (Nat × Res)) (σ : Sg) (H : HMap) : BackG σ0 H0 ks hk gv rn sl hp σ H = (MatchF (gvH gv H) sl σ ∧ KeptS ks σ0 σ ∧ MatchR (gvH gv H) rn hp H ∧ KeptH hk H0 H) := id rfl
section
variable {S : Nat → Spc} {σ : Sg} {H : HMap} {K : Ex → Sg → HMap → Prop}
/-- Two pieces of text; between them memory is given up (gv) and resources are renamed (rn: (new, old)). -/
theorem vc_midG {X : Type} (ks hk gv : List Nat) (rn : List (Nat × Nat)) (P : X → Prop) (sl : X → List (Nat × D)) (hp : X → List (Nat × Res)) {k : Nat} {a b : CC} (ids : List Nat) (hids : ∀ x, (hp x).map (·.1) = ids) (hi : Inj rn (ids ++ hk) gv ∧ ∀ i ∈ hk, i ∉ ids → rnm rn i = i)
    (ha : vc S a (midK (fun σ' H' => ∃ x, P x ∧ BackG σ H ks hk gv rn (sl x) (hp x) σ' H') K) σ H)
    (hb : ∀ x, P x → vc S b K (addS (sl x) (keepS ks σ)) (addH (hp x) (keepH hk H))) : vc S (seqM k a b) K σ H := by
  refine vc_midW P _ _ (vc_mono a _ _ (fun e σ' H' h => ?_) ha) hb
  cases e with
  | norm =>
    obtain ⟨x, h1, h2⟩ := h
    exact ⟨x, h1, wk_matchG (by rw [hids x]; exact hi.1) (by rw [hids x]; exact hi.2) h2.1 h2.2.1 h2.2.2.1 h2.2.2.2⟩
  | ex i => exact h
  | ret => exact h
end
end Go.Gv

namespace Go.Gv
set_option linter.unusedSimpArgs false
set_option linter.unusedVariables false
set_option maxRecDepth 100000
open Cod (enc dec)
variable {S S0 : Nat → Spc}
def P_Matches (x : List Int × Corpus × Int × Int) : Prop := WFc x.2.1 ∧ x.2.2.1 = 0 ∧ 0 ≤ x.2.2.2 ∧ x.2.2.2 ≤ 1000
def Q_Matches (x : List Int × Corpus × Int × Int) (l : List Match) : Prop := l.length ≤ x.2.2.2 ∧ ∀ m ∈ l, ∃ t ∈ x.2.1.texts, t.b ≤ m.b ∧ m.b < m.e ∧ m.e ≤ t.e
abbrev s_m_Matches : Spc := spc (aT (a3 Corpus Int Int)) P_Matches (enc (X := List Match)) Q_Matches
theorem w_m_Matches (h1 : S f_m_Tape_Next = s_m_Next) : Walk cc_m_Tape_Matches rs_m_Tape_Matches S (aT (a3 Corpus Int Int)) P_Matches (enc (X := List Match)) Q_Matches := by
  rintro ⟨L, c, k, n⟩ hn
  obtain ⟨hc, hk, hn0, hn1⟩ := hn
  simp only at hc hk hn0 hn1
  subst hk
  simp [cc_m_Tape_Matches, rs_m_Tape_Matches, h1, show n ≤ 1000000000 by omega]
  refine ⟨by simp only [InR]; omega, by omega, fun y hy => ?_⟩
  obtain ⟨c1, c2, c3, c4, _⟩ := id hc
  have hlen : 1 ≤ c.texts.length := by
    rcases hl : c.texts with _ | ⟨a, l⟩
    · exact absurd hl c2
    · simp
  refine vc_while (X := Int × Value × List Match) [0, 2, 5] [] (fun x => 0 ≤ x.1 ∧ x.1 + x.2.2.length ≤ n ∧ ∀ m ∈ x.2.2, ∃ t ∈ c.texts, t.b ≤ m.b ∧ m.b < m.e ∧ m.e ≤ t.e) (fun x => [(10, enc x.1), (9, .own 90 x.2.1)]) (fun x => [(90, .row x.2.1 ty_Match 3 (x.2.2.map enc))]) (fun x => x.1.toNat) (y, .slice none 0 0, []) (by simp; omega) (by simp) (by simp [isNilRow]) ?_
  rintro ⟨k, v, l⟩ ⟨q1, q2, q3⟩
  simp only at q1 q2 q3
  simp [h1]
  refine ⟨fun hk _ => ⟨by omega, fun y1 hy1 => ⟨by omega, by omega, fun a ha b1 => ?_⟩⟩, fun hk => ?_⟩
  · have hta := chain_mem c1 a (mem_at ha)
    refine ⟨by simp only [InR]; omega, by omega, fun y2 hy2 => ⟨by simp only [InR]; omega, by simp only [InR]; omega, by simp only [InR]; omega, by omega, fun y3 hy3 => ⟨by simp only [InR]; omega, fun b2 => ?_⟩⟩⟩
    refine vc_midG (X := Unit) [0, 2, 5, 9, 10, 13] [90] [] [] (fun _ => True) (fun _ => []) (fun _ => [(13, .box b2 [.v (.int .i64 (a.b + y2)), .v (.int .i64 (a.b + y2 + 1 + y3)), .list 1 []])]) [13] (fun _ => rfl) (by decide) ?_ ?_
    · simp
      refine vc_while (X := Unit) [0, 2, 5, 9, 10, 11, 13] [11, 13, 90] (fun _ => True) (fun _ => [(14, .v (.int .i64 0))]) (fun _ => []) (fun _ => 0) () trivial (by simp) (by simp) ?_
      intro _ _
      simp
    · rintro - -
      simp
      refine ⟨by omega, by omega, fun v => ⟨by simp only [InR]; omega, k - 1, v, l ++ [⟨a.b + y2, a.b + y2 + 1 + y3, []⟩], ⟨by omega, by simp; omega, fun m hm => ?_⟩, ⟨⟨rfl, rfl⟩, .inl ⟨rfl, by simp⟩⟩, by omega⟩⟩
      rcases List.mem_append.1 hm with hm | hm
      · exact q3 m hm
      · simp at hm
        subst hm
        exact ⟨a, mem_at ha, by simp; omega, by simp; omega, by simp; omega⟩
  · exact fin_of l (fz_o ty_Match (by simp)) ⟨by show (l.length : Int) ≤ n; omega, q3⟩
def P_Spans (x : List Int × Corpus × Int) : Prop := WFc x.2.1 ∧ 0 ≤ x.2.2 ∧ x.2.2 ≤ 1000
def Q_Spans (x : List Int × Corpus × Int) (l : List Span) : Prop := l.length ≤ x.2.2 ∧ ∀ m ∈ l, ∃ t ∈ x.2.1.texts, t.b ≤ m.b ∧ m.b < m.e ∧ m.e ≤ t.e
abbrev s_m_Spans : Spc := frC (aT (a2 Corpus Int)) P_Spans Q_Spans ty_Span 2
theorem w_m_Spans (h1 : S f_m_Tape_Matches = s_m_Matches) : WalkF (Y := Span) cc_m_Tape_Spans rs_m_Tape_Spans S (aT (a2 Corpus Int)) P_Spans Q_Spans ty_Span 2 := by
  rintro ⟨L, c, n⟩ ⟨hc, hn0, hn1⟩
  simp only at hc hn0 hn1
  have hP : P_Matches (L, c, 0, n) := ⟨hc, rfl, hn0, hn1⟩
  simp [cc_m_Tape_Spans, rs_m_Tape_Spans, h1, hP]
  rintro ms ⟨hm1, hm2⟩ _
  simp only at hm1 hm2
  refine vc_range (X := Value × List Span) [13] [] ms.length (fun k x => x.2.length = k ∧ ∀ s ∈ x.2, ∃ t ∈ c.texts, t.b ≤ s.b ∧ s.b < s.e ∧ s.e ≤ t.e) (fun x => [(7, .own 26 x.1)]) (fun x => [(26, .row x.1 ty_Span 2 (x.2.map enc))]) (.slice none 0 0, []) (by simp) (by simp) (by omega) (by simp) (by simp) (by simp) (by simp) (by simp [isNilRow]) ?_ ?_
  · rintro k ⟨v, l⟩ hk ⟨q1, q2⟩
    simp only at q1 q2
    obtain ⟨m, hm⟩ := at_lt hk
    obtain ⟨_, hgm⟩ := List.getElem?_eq_some_iff.1 hm
    simp [hk, hm, hgm]
    refine ⟨by omega, by omega, fun v => ⟨v, l ++ [⟨m.b, m.e⟩], ⟨by simp; omega, fun s hs => ?_⟩, rfl, .inl ⟨rfl, by simp⟩⟩⟩
    rcases List.mem_append.1 hs with hs | hs
    · exact q2 s hs
    · simp at hs
      subst hs
      exact hm2 m (mem_at hm)
  · rintro ⟨v, l⟩ ⟨q1, q2⟩
    simp only at q1 q2
    simp
    exact finF_of l (by simp) ⟨by show (l.length : Int) ≤ n; omega, q2⟩
end Go.Gv

namespace Go.Gv
set_option linter.unusedSimpArgs false
set_option linter.unusedVariables false
set_option maxRecDepth 100000
open Cod (enc dec)
variable {S S0 : Nat → Spc}

/-! ### lies -/
def P_lies_1 (x : Span × D × Unit) : Prop := ∃ s : Span, x.2.1 = .cptr (enc s).cells 0
def Q_lies_1 (x : Span × D × Unit) (y : Bool) : Prop := ∀ s : Span, x.2.1 = .cptr (enc s).cells 0 → y = containsS x.1 s
abbrev s_subcorpus_lies_1 : Spc := spc (aE Span (aD a0)) P_lies_1 enc Q_lies_1
theorem w_subcorpus_lies_1 : Walk cc_subcorpus_lies_1 rs_subcorpus_lies_1 S (aE Span (aD a0)) P_lies_1 enc Q_lies_1 := by
  rintro ⟨x, d, ⟨⟩⟩ ⟨s, hs⟩
  simp at hs
  subst hs
  simp [cc_subcorpus_lies_1, rs_subcorpus_lies_1, Q_lies_1, containsS]
  refine ⟨fun h1 s' h2 h3 => ?_, fun h1 s' h2 h3 => ?_⟩
  · rw [← h2, ← h3]
    have h1' : decide (x.b ≤ s.b) = true := decide_eq_true h1
    rw [h1']; rfl
  · rw [← h2, ← h3]
    intro h; omega

def P_IndexFunc (S0 : Nat → Spc) (x : List Span × D × Unit) : Prop := ∃ p : Span → Bool, FunIs S0 x.2.1 p
def Q_IndexFunc (S0 : Nat → Spc) (x : List Span × D × Unit) (y : Int) : Prop := ∀ p : Span → Bool, FunIs S0 x.2.1 p → y = idxI x.1 p
abbrev s_slices_IndexFunc_Span (S0 : Nat → Spc) : Spc := spc (aE (List Span) (aD a0)) (P_IndexFunc S0) enc (Q_IndexFunc S0)
theorem w_slices_IndexFunc_Span : Walk cc_slices_IndexFunc_Span rs_slices_IndexFunc_Span S (aE (List Span) (aD a0)) (P_IndexFunc S) enc (Q_IndexFunc S) := by
  rintro ⟨l, d, ⟨⟩⟩ ⟨p, hp⟩
  simp at hp
  simp [cc_slices_IndexFunc_Span, rs_slices_IndexFunc_Span]
  intro _
  refine vc_range (X := Unit) [0, 1] [] l.length (fun k _ => ∀ p : Span → Bool, FunIs S d p → ∀ x ∈ l.take k, p x = false) (fun _ => []) (fun _ => []) () (by simp) (by simp) (by omega) (by simp) (by simp) (by simp) (by simp) (by simp) ?_ ?_
  · intro k _ hk hP
    simp
    refine ⟨hk, fun x hx => ?_⟩
    refine hp.useB x fun y hy => ?_
    simp
    refine ⟨fun h => ?_, fun h p' hp' => ?_⟩
    · intro p' hp'
      exact (idxI_at hx (by rw [← hy p' hp', h]) (hP p' hp')).symm
    · rw [take_snoc hx]
      intro z hz
      rcases List.mem_append.1 hz with hz | hz
      · exact hP p' hp' z hz
      · simp at hz; subst hz; rw [← hy p' hp', h]
  · intro _ hP
    simp
    intro p' hp'
    exact (idxI_none (by simpa using hP p' hp')).symm

def Q_ContainsFunc (S0 : Nat → Spc) (x : List Span × D × Unit) (y : Bool) : Prop := ∀ p : Span → Bool, FunIs S0 x.2.1 p → y = x.1.any p
abbrev s_slices_ContainsFunc_Span (S0 : Nat → Spc) : Spc := spc (aE (List Span) (aD a0)) (P_IndexFunc S0) enc (Q_ContainsFunc S0)
theorem w_slices_ContainsFunc_Span (h1 : S f_slices_IndexFunc_Span = s_slices_IndexFunc_Span S0) : Walk cc_slices_ContainsFunc_Span rs_slices_ContainsFunc_Span S (aE (List Span) (aD a0)) (P_IndexFunc S0) enc (Q_ContainsFunc S0) := by
  rintro ⟨l, d, ⟨⟩⟩ hp
  simp [cc_slices_ContainsFunc_Span, rs_slices_ContainsFunc_Span, h1, -Bool.forall_bool]
  refine ⟨hp, fun y hy p' hp' => ?_⟩
  rw [hy p' hp']
  exact idxI_ge p' l

abbrev s_subcorpus_lies : Spc := spc (a2 Span (List Span)) (fun _ => True) enc fun x y => y = liesS x.1 x.2
theorem fun_lies_1 (h0 : S0 f_subcorpus_lies_1 = s_subcorpus_lies_1) (s : Span) : FunIs S0 (.clo f_subcorpus_lies_1 [.cptr (enc s).cells 0]) fun x => containsS x s :=
  funIs_cap h0 (fun x => ⟨s, rfl⟩) (fun x y h => h s rfl)
theorem w_subcorpus_lies (h0 : S0 f_subcorpus_lies_1 = s_subcorpus_lies_1) (h1 : S f_slices_ContainsFunc_Span = s_slices_ContainsFunc_Span S0) : Walk cc_subcorpus_lies rs_subcorpus_lies S (a2 Span (List Span)) (fun _ => True) enc fun x y => y = liesS x.1 x.2 := by
  rintro ⟨s, l⟩ -
  have hf := fun_lies_1 h0 s
  simp [cc_subcorpus_lies, rs_subcorpus_lies, h1, -Bool.forall_bool]
  simp at hf
  refine ⟨⟨_, hf⟩, fun y hy => ?_⟩
  rw [hy _ hf]
  rfl

abbrev s_slices_Index_Span : Spc := spc (a2 (List Span) Span) (fun _ => True) enc fun x y => y = idxI x.1 fun t => decide (x.2 = t)
theorem w_slices_Index_Span : Walk cc_slices_Index_Span rs_slices_Index_Span S (a2 (List Span) Span) (fun _ => True) enc fun x y => y = idxI x.1 fun t => decide (x.2 = t) := by
  rintro ⟨l, s⟩ -
  simp [cc_slices_Index_Span, rs_slices_Index_Span]
  intro _
  refine vc_range (X := Unit) [0, 3] [] l.length (fun k _ => s ∉ l.take k) (fun _ => []) (fun _ => []) () (by simp) (by simp) (by omega) (by simp) (by simp) (by simp) (by simp) (by simp) ?_ ?_
  · intro k _ hk hP
    simp
    refine ⟨hk, fun x hx => ⟨fun h1 h2 => ?_, fun h => ?_⟩⟩
    · have : s = x := Span.ext' h1 h2
      subst this
      exact (idxI_at hx (by simp) (fun y hy => by simp; rintro rfl; exact hP hy)).symm
    · rw [take_snoc hx]
      simp [hP]
      rintro rfl
      exact h rfl rfl
  · intro _ hP
    simp
    refine (idxI_none fun y hy => ?_).symm
    simp at hP ⊢
    rintro rfl
    exact hP hy

abbrev s_slices_Contains_Span : Spc := spc (a2 (List Span) Span) (fun _ => True) enc fun x y => y = hasS x.1 x.2
theorem w_slices_Contains_Span (h1 : S f_slices_Index_Span = s_slices_Index_Span) : Walk cc_slices_Contains_Span rs_slices_Contains_Span S (a2 (List Span) Span) (fun _ => True) enc fun x y => y = hasS x.1 x.2 := by
  rintro ⟨l, s⟩ -
  simp [cc_slices_Contains_Span, rs_slices_Contains_Span, h1]
  rw [idxI_ge, hasS]
  by_cases h : s ∈ l
  · rw [List.any_eq_true.2 ⟨s, h, by simp⟩]; simp [h]
  · simp [h]
    rintro x hx rfl; exact h hx

/-! ### The function values of Intersect, Subtract, Inside -/
def P_cap (x : Span × D × Unit) : Prop := ∃ b : List Span, x.2.1 = .cptr [enc b] 0
def Q_Intersect_1 (x : Span × D × Unit) (y : Bool) : Prop := ∀ b : List Span, x.2.1 = .cptr [enc b] 0 → y = hasS b x.1
abbrev s_subcorpus_Intersect_1 : Spc := spc (aE Span (aD a0)) P_cap enc Q_Intersect_1
theorem w_subcorpus_Intersect_1 (h1 : S f_slices_Contains_Span = s_slices_Contains_Span) : Walk cc_subcorpus_Intersect_1 rs_subcorpus_Intersect_1 S (aE Span (aD a0)) P_cap enc Q_Intersect_1 := by
  rintro ⟨x, d, ⟨⟩⟩ ⟨b, hb⟩
  simp at hb
  subst hb
  simp [cc_subcorpus_Intersect_1, rs_subcorpus_Intersect_1, h1, Q_Intersect_1]
def Q_Subtract_1 (x : Span × D × Unit) (y : Bool) : Prop := ∀ b : List Span, x.2.1 = .cptr [enc b] 0 → y = !hasS b x.1
abbrev s_subcorpus_Subtract_1 : Spc := spc (aE Span (aD a0)) P_cap enc Q_Subtract_1
theorem w_subcorpus_Subtract_1 (h1 : S f_slices_Contains_Span = s_slices_Contains_Span) : Walk cc_subcorpus_Subtract_1 rs_subcorpus_Subtract_1 S (aE Span (aD a0)) P_cap enc Q_Subtract_1 := by
  rintro ⟨x, d, ⟨⟩⟩ ⟨b, hb⟩
  simp at hb
  subst hb
  simp [cc_subcorpus_Subtract_1, rs_subcorpus_Subtract_1, h1, Q_Subtract_1]
def Q_Inside_1 (x : Span × D × Unit) (y : Bool) : Prop := ∀ b : List Span, x.2.1 = .cptr [enc b] 0 → y = liesS x.1 b
abbrev s_subcorpus_Inside_1 : Spc := spc (aE Span (aD a0)) P_cap enc Q_Inside_1
theorem w_subcorpus_Inside_1 (h1 : S f_subcorpus_lies = s_subcorpus_lies) : Walk cc_subcorpus_Inside_1 rs_subcorpus_Inside_1 S (aE Span (aD a0)) P_cap enc Q_Inside_1 := by
  rintro ⟨x, d, ⟨⟩⟩ ⟨b, hb⟩
  simp at hb
  subst hb
  simp [cc_subcorpus_Inside_1, rs_subcorpus_Inside_1, h1, Q_Inside_1]

/-! ### keep's function value -/
def P_keep_1 (S0 : Nat → Spc) (x : Span × D × Unit) : Prop := ∃ (d : D) (p : Span → Bool), x.2.1 = .cptr [d] 0 ∧ FunIs S0 d p
def Q_keep_1 (S0 : Nat → Spc) (x : Span × D × Unit) (y : Bool) : Prop := ∀ (d : D) (p : Span → Bool), x.2.1 = .cptr [d] 0 → FunIs S0 d p → y = !p x.1
abbrev s_subcorpus_keep_1 (S0 : Nat → Spc) : Spc := spc (aE Span (aD a0)) (P_keep_1 S0) enc (Q_keep_1 S0)
theorem w_subcorpus_keep_1 : Walk cc_subcorpus_keep_1 rs_subcorpus_keep_1 S (aE Span (aD a0)) (P_keep_1 S) enc (Q_keep_1 S) := by
  rintro ⟨x, d, ⟨⟩⟩ ⟨d', p, hd, hp⟩
  simp at hd
  subst hd
  simp [cc_subcorpus_keep_1, rs_subcorpus_keep_1]
  refine hp.useB x fun y hy => ?_
  simp
  intro d'' p' hd hp'
  simp at hd
  subst hd
  rw [hy p' hp']
theorem fun_keep_1 {d : D} {p : Span → Bool} (h0 : S0 f_subcorpus_keep_1 = s_subcorpus_keep_1 S) (h : FunIs S d p) : FunIs S0 (.clo f_subcorpus_keep_1 [.cptr [d] 0]) fun x => !p x :=
  funIs_cap h0 (fun x => ⟨d, p, rfl, h⟩) (fun x y h' => h' d p rfl h)
theorem fun_Intersect_1 (h0 : S0 f_subcorpus_Intersect_1 = s_subcorpus_Intersect_1) (b : List Span) : FunIs S0 (.clo f_subcorpus_Intersect_1 [.cptr [enc b] 0]) fun x => hasS b x :=
  funIs_cap h0 (fun x => ⟨b, rfl⟩) (fun x y h => h b rfl)
theorem fun_Subtract_1 (h0 : S0 f_subcorpus_Subtract_1 = s_subcorpus_Subtract_1) (b : List Span) : FunIs S0 (.clo f_subcorpus_Subtract_1 [.cptr [enc b] 0]) fun x => !hasS b x :=
  funIs_cap h0 (fun x => ⟨b, rfl⟩) (fun x y h => h b rfl)
theorem fun_Inside_1 (h0 : S0 f_subcorpus_Inside_1 = s_subcorpus_Inside_1) (b : List Span) : FunIs S0 (.clo f_subcorpus_Inside_1 [.cptr [enc b] 0]) fun x => liesS x b :=
  funIs_cap h0 (fun x => ⟨b, rfl⟩) (fun x y h => h b rfl)
end Go.Gv

namespace Go.Gv
set_option linter.unusedSimpArgs false
set_option linter.unusedVariables false
set_option maxRecDepth 100000
open Cod (enc dec)
variable {S S0 : Nat → Spc}

/-! ### slices.Grow at nil, slices.Concat -/
abbrev s_slices_Grow_Span : Spc := orC (frC (Y := Span) (aD (a1 Int)) (fun x => x.1 = .v (.slice none 0 0) ∧ 0 < x.2 ∧ x.2 ≤ 1000000) (fun _ l => l = []) ty_Span 2)
  (spc (aD (a1 Int)) (fun x => x.1 = .v (.slice none 0 0) ∧ x.2 = 0) id fun _ y => y = .v (.slice none 0 0))
theorem w_slices_Grow_Span : WalkF (Y := Span) cc_slices_Grow_Span rs_slices_Grow_Span S (aD (a1 Int)) (fun x => x.1 = .v (.slice none 0 0) ∧ 0 < x.2 ∧ x.2 ≤ 1000000) (fun _ l => l = []) ty_Span 2 := by
  rintro ⟨d, n⟩ ⟨hd, h1, h2⟩
  simp at hd h1 h2
  subst hd
  simp [cc_slices_Grow_Span, rs_slices_Grow_Span, InR]
  exact ⟨fun h => by omega, fun _ => ⟨by omega, fun _ => ⟨by omega, by omega, by omega, by omega, fun v => finF_of [] (by simp) rfl⟩, fun h => by omega⟩⟩
theorem w_slices_Grow_Span0 : Walk cc_slices_Grow_Span rs_slices_Grow_Span S (aD (a1 Int)) (fun x => x.1 = .v (.slice none 0 0) ∧ x.2 = 0) id fun _ y => y = .v (.slice none 0 0) := by
  rintro ⟨d, n⟩ ⟨hd, h1⟩
  simp at hd h1
  subst hd
  subst h1
  simp [cc_slices_Grow_Span, rs_slices_Grow_Span, InR]
  exact fin_of _ (.same _) rfl

abbrev s_slices_Concat_Span : Spc := frC (Y := Span) (a1 (List (List Span))) (fun x => x ≠ [] ∧ x.flatten.length ≤ 100000) (fun x l => l = x.flatten) ty_Span 2
theorem w_slices_Concat_Span (h1 : S f_slices_Grow_Span = s_slices_Grow_Span) : WalkF (Y := Span) cc_slices_Concat_Span rs_slices_Concat_Span S (a1 (List (List Span))) (fun x => x ≠ [] ∧ x.flatten.length ≤ 100000) (fun x l => l = x.flatten) ty_Span 2 := by
  rintro ls ⟨hne, hlen⟩
  simp [cc_slices_Concat_Span, rs_slices_Concat_Span, -List.length_flatten]
  intro _
  have hpre : ∀ k, (ls.take k).flatten.length ≤ ls.flatten.length := fun k => by
    have := congrArg List.flatten (List.take_append_drop k ls)
    rw [List.flatten_append] at this
    rw [← this]; simp
  have hsn : ∀ k x, ls[k]? = some x → (ls.take (k + 1)).flatten = (ls.take k).flatten ++ x := fun k x hx => by
    rw [take_snoc hx]; simp
  refine vc_range (X := Nat) [0, 9] [] ls.length (fun k n => n = (ls.take k).flatten.length) (fun n => [(3, enc (n : Int))]) (fun _ => []) 0 (by simp) (by simp) (by omega) (by simp) (by simp) (by simp) (by simp) (by simp) ?_ ?_
  · rintro k n hk rfl
    simp [-List.length_flatten]
    refine ⟨hk, fun x hx _ => ?_⟩
    have h2 := hpre (k + 1)
    rw [hsn k x hx, List.length_append] at h2
    simp only [InR]
    rw [hsn k x hx, List.length_append]
    refine ⟨by omega, fun h => by omega, fun _ => by omega⟩
  · rintro n rfl
    simp [h1, -List.length_flatten]
    have hround : ∀ (id : Nat), id = 24 ∨ id = 33 → True := fun _ _ => trivial
    by_cases h0 : 0 < ls.flatten.length
    · refine .inl ⟨⟨h0, by omega⟩, fun v _ => ?_⟩
      refine vc_range (X := Value × List Span) [25] [] ls.length (fun k x => x.2 = (ls.take k).flatten) (fun x => [(6, .own 24 x.1)]) (fun x => [(24, .row x.1 ty_Span 2 (x.2.map enc))]) (v, []) (by simp) (by simp) (by omega) (by simp) (by simp) (by simp) (by simp) (by simp) ?_ ?_
      · rintro k ⟨v, r⟩ hk hr
        simp at hr
        subst hr
        simp [-List.length_flatten, -List.map_flatten]
        refine ⟨hk, fun x hx => ?_⟩
        have h2 := hpre (k + 1)
        rw [hsn k x hx, List.length_append] at h2
        refine ⟨by omega, by omega, fun v' => ?_⟩
        left
        rw [hsn k x hx]; simp
      · rintro ⟨v, r⟩ hr
        simp at hr
        subst hr
        simp [-List.length_flatten, -List.map_flatten]
        exact finF_of ls.flatten (by simp) rfl
    · have hz : ls.flatten.length = 0 := by omega
      refine .inr ⟨?_, fun _ => ?_⟩
      · intro l hl
        obtain ⟨l1, l2, rfl⟩ := List.append_of_mem hl
        simp at hz
        exact List.eq_nil_of_length_eq_zero (by simpa using hz.2.1)
      · refine vc_range (X := Value × List Span) [25] [] ls.length (fun k x => x.2 = (ls.take k).flatten) (fun x => [(6, .own 33 x.1)]) (fun x => [(33, .row x.1 ty_Span 2 (x.2.map enc))]) (.slice none 0 0, []) (by simp) (by simp) (by omega) (by simp) (by simp) (by simp) (by simp) (by simp [isNilRow]) ?_ ?_
        · rintro k ⟨v, r⟩ hk hr
          simp at hr
          subst hr
          simp [-List.length_flatten, -List.map_flatten]
          refine ⟨hk, fun x hx => ?_⟩
          have h2 := hpre (k + 1)
          rw [hsn k x hx, List.length_append] at h2
          refine ⟨by omega, by omega, fun v' => ?_⟩
          left
          rw [hsn k x hx]; simp
        · rintro ⟨v, r⟩ hr
          simp at hr
          subst hr
          simp [-List.length_flatten, -List.map_flatten]
          exact finF_of ls.flatten (by simp) rfl

/-! ### slices.Compact -/
abbrev s_slices_Compact_Span : Spc := ioC (Y := Span) a0 (fun _ l => l.length ≤ 100000) (fun _ l r => r = cptS l) ty_Span 2
theorem w_slices_Compact_Span : WalkIO (Y := Span) cc_slices_Compact_Span rs_slices_Compact_Span S a0 (fun _ l => l.length ≤ 100000) (fun _ l r => r = cptS l) ty_Span 2 := by
  rintro v l ⟨⟩ hl
  simp [cc_slices_Compact_Span, rs_slices_Compact_Span]
  refine fun _ => ⟨fun h => ?_, fun h2 => ?_⟩
  · exact finF_of l (by simp) (cptS_short (by omega)).symm
  · refine vc_while (X := Nat) [0] [0] (fun k => 1 ≤ k ∧ k ≤ l.length ∧ cptS (l.take k) = l.take k) (fun k => [(3, enc (k : Int))]) (fun _ => []) (fun k => l.length - k) 1 ?_ (by simp) (by simp) ?_
    · exact ⟨by omega, by omega, cptS_one (by omega)⟩
    · rintro k ⟨hk1, hk2, hP⟩
      by_cases hkl : k < l.length
      · obtain ⟨x, hx⟩ := at_lt hkl
        obtain ⟨y, hy⟩ := at_lt (l := l) (k := k - 1) (by omega)
        have e1 : ((k : Int) - 1).toNat = k - 1 := by omega
        have e2 : ((k : Int) < l.length) := by omega
        have e3 : ¬ l.length ≤ k := by omega
        simp [hx, hy, InR, e1, e3]
        intro _ _
        have hstep := cptS_step hk1 hx hy
        refine ⟨hkl, by omega, by omega, by omega, by omega, fun q1 q2 => ⟨hk2, ?_⟩, fun hne => ⟨by omega, k + 1, ⟨by omega, by omega, ?_⟩, by omega, by omega⟩⟩
        · -- from here on elements are moved
          have hxy : x = y := Span.ext' q1 q2
          rw [if_pos hxy] at hstep
          refine vc_mid (X := Nat × List Span) [0] [] (fun z => z.2.length = l.length ∧ z.1 ≤ l.length ∧ z.2.take z.1 = cptS l) (fun z => [(3, enc (z.1 : Int))]) (fun z => [(0, .row v ty_Span 2 (z.2.map enc))]) ?_ ?_
          · simp
            refine vc_while (X := Nat × Nat × List Span) [0, 4] [] (fun z => z.2.2.length = l.length ∧ 1 ≤ z.2.1 ∧ k + z.2.1 ≤ l.length ∧ z.1 < k + z.2.1 ∧ z.2.2.take z.1 = cptS (l.take (k + z.2.1)) ∧ z.2.2.drop (k + z.2.1 - 1) = l.drop (k + z.2.1 - 1)) (fun z => [(3, enc (z.1 : Int)), (5, enc (z.2.1 : Int))]) (fun z => [(0, .row v ty_Span 2 (z.2.2.map enc))]) (fun z => l.length - z.2.1) (k, 1, l) ?_ (by simp) (by simp) ?_
            · simp
              refine ⟨by omega, ?_⟩
              rw [hstep, hP]
            · rintro ⟨i, j, cur⟩ ⟨c1, c2, c3, c4, c5, c6⟩
              simp at c1 c2 c3 c4 c5 c6
              by_cases hj : j < l.length - k
              · obtain ⟨a, ha⟩ := at_lt (l := l) (k := k + j) (by omega)
                obtain ⟨b, hb⟩ := at_lt (l := l) (k := k + j - 1) (by omega)
                have ha' : cur[k + j]? = some a := (drop_at c6 (by omega)).trans ha
                have hb' : cur[k + (j - 1)]? = some b := by
                  rw [show k + (j - 1) = k + j - 1 by omega]; exact (drop_at c6 (Nat.le_refl _)).trans hb
                obtain ⟨u, hu⟩ := at_lt (l := cur) (k := i) (by omega)
                have hs := cptS_step (j := k + j) (by omega) ha hb
                have hj' : ¬ l.length - k ≤ j := by omega
                simp [ha', hb', hu, InR, hj']
                intro _ _
                refine ⟨by omega, by omega, by omega, by omega, by omega, by omega, fun hne => ⟨by omega, by omega, by omega, by omega, by omega, i + 1, j + 1, cur.set i a, ⟨by simp; omega, by omega, by omega, by omega, ?_, ?_⟩, ⟨by omega, .inl ?_⟩, by omega⟩, fun q3 q4 => ⟨by omega, i, j + 1, cur, ⟨c1, by omega, by omega, by omega, ?_, ?_⟩, ⟨by omega, .inl rfl⟩, by omega⟩⟩
                · rw [(set_take_drop (m := k + j) (l := l) (by omega) c4 (drop_more c6 (by omega))).1, c5, show k + (j + 1) = k + j + 1 by omega, hs, if_neg]
                  rintro rfl
                  rcases hne with h | h <;> exact h rfl
                · rw [show k + (j + 1) - 1 = k + j by omega]
                  exact (set_take_drop (m := k + j) (l := l) (by omega) c4 (drop_more c6 (by omega))).2
                · exact set_encS cur i a
                · rw [c5, show k + (j + 1) = k + j + 1 by omega, hs, if_pos (Span.ext' q3 q4)]
                · exact drop_more c6 (by omega)
              · have hj' : j = l.length - k := by omega
                subst hj'
                simp
                intro _
                refine ⟨i, cur, ⟨c1, by omega, ?_⟩, rfl, .inl rfl⟩
                rw [c5, show k + (l.length - k) = l.length by omega, List.take_length]
          · rintro ⟨i, cur⟩ ⟨c1, c2, c3⟩
            simp at c1 c2 c3
            simp
            refine ⟨by omega, by omega, fun v => finF_of (cptS l) ?_ rfl⟩
            have e : (cptS l).map enc = (cur.map enc).take i := by rw [← c3, List.map_take]
            rw [e]
            simp [List.take_append, c1, c2]
        · rw [if_neg (fun e => by subst e; exact hne rfl rfl)] at hstep
          rw [hstep, hP, take_snoc hx]
      · have e3 : k = l.length := by omega
        subst e3
        simp
        rw [List.take_length] at hP
        exact fun _ => finF_of l (by simp) hP.symm

/-! ### slices.DeleteFunc -/
def P_DeleteFunc (S0 : Nat → Spc) (x : D × Unit) (l : List Span) : Prop := l.length ≤ 100000 ∧ ∃ p : Span → Bool, FunIs S0 x.1 p
def Q_DeleteFunc (S0 : Nat → Spc) (x : D × Unit) (l r : List Span) : Prop := ∀ p : Span → Bool, FunIs S0 x.1 p → r = l.filter fun y => !p y
abbrev s_slices_DeleteFunc_Span (S0 : Nat → Spc) : Spc := ioC (aD a0) (P_DeleteFunc S0) (Q_DeleteFunc S0) ty_Span 2
abbrev b_slices_IndexFunc_Span (S0 : Nat → Spc) : Spc := bwC (Y := Span) (aD a0) (P_IndexFunc S0) enc (Q_IndexFunc S0) ty_Span 2
theorem w_slices_DeleteFunc_Span (h1 : S f_slices_IndexFunc_Span = b_slices_IndexFunc_Span S) : WalkIO cc_slices_DeleteFunc_Span rs_slices_DeleteFunc_Span S (aD a0) (P_DeleteFunc S) (Q_DeleteFunc S) ty_Span 2 := by
  rintro v l ⟨d, ⟨⟩⟩ ⟨hl, p, hp⟩
  simp at hp
  simp [cc_slices_DeleteFunc_Span, rs_slices_DeleteFunc_Span, h1]
  refine ⟨⟨p, hp⟩, fun z hz => ⟨fun hz1 => finF_of l (by simp) ?_, fun hz1 => ?_⟩⟩
  · intro p' hp'
    have := hz p' hp'
    simp at this
    rcases idxI_cases p' l with ⟨h1, h2⟩ | ⟨k, x, h1, h2, h3, h4⟩
    · exact (List.filter_eq_self.2 fun y hy => by simp [h2 y hy]).symm
    · omega
  · have hzp := hz p hp
    simp at hzp
    rcases idxI_cases p l with ⟨h1, h2⟩ | ⟨k, x, h1', hx, h3, h4⟩
    · omega
    have hzk : z = (k : Nat) := hzp.trans h1'
    clear hzp h1' h3 h4
    subst hzk
    have hkl := lt_at hx
    have hstart : ∀ p' : Span → Bool, FunIs S d p' → l.take k = (l.take (k + 1)).filter fun y => !p' y := fun p' hp' => by
      have h5 := hz p' hp'
      simp at h5
      rcases idxI_cases p' l with ⟨h1, h2⟩ | ⟨k', x', h1', hx', h3, h4⟩
      · omega
      have : k' = k := by omega
      subst this
      rw [filter_split p' (k := k') (by rw [List.take_take]; simpa using h4), List.take_take, List.drop_take]
      have e : l.drop k' = x' :: l.drop (k' + 1) := drop_cons_of hx'
      simp [e, h3]
    refine ⟨by simp [InR]; omega, ?_⟩
    refine vc_while (X := Nat × Nat × List Span) [0, 1] [] (fun z => z.2.2.length = l.length ∧ z.2.1 ≤ l.length ∧ z.1 < z.2.1 ∧ z.2.2.drop z.2.1 = l.drop z.2.1 ∧ ∀ p' : Span → Bool, FunIs S d p' → z.2.2.take z.1 = (l.take z.2.1).filter fun y => !p' y) (fun z => [(5, enc (z.1 : Int)), (6, enc (z.2.1 : Int))]) (fun z => [(0, .row v ty_Span 2 (z.2.2.map enc))]) (fun z => l.length - z.2.1) (k, k + 1, l) ?_ (by simp) (by simp) ?_
    · exact ⟨rfl, by simp; omega, by simp, rfl, fun p' hp' => hstart p' hp'⟩
    · rintro ⟨i, j, cur⟩ ⟨c1, c2, c3, c4, c5⟩
      simp at c1 c2 c3 c4 c5
      simp
      by_cases hj : j < l.length
      · obtain ⟨a, ha⟩ := at_lt hj
        have ha' : cur[j]? = some a := (drop_at c4 (Nat.le_refl _)).trans ha
        obtain ⟨u, hu⟩ := at_lt (l := cur) (k := i) (by omega)
        have hj' : ¬ cur.length ≤ j := by omega
        have hd2 := drop_more c4 (i := j + 1) (by omega)
        simp [ha', hu, InR, hj']
        intro _ _
        refine ⟨by omega, fun _ => hp.useB a fun y hy => ?_⟩
        simp [hu, InR]
        refine ⟨fun h => ⟨by omega, by omega, by omega, i + 1, j + 1, cur.set i a, ⟨by simp; omega, by omega, by omega, ?_, fun p' hp' => ?_⟩, ⟨by omega, .inl (set_encS cur i a)⟩, by omega⟩, fun h => ⟨by omega, i, j + 1, cur, ⟨c1, by omega, by omega, hd2, fun p' hp' => ?_⟩, ⟨by omega, .inl rfl⟩, by omega⟩⟩
        · exact (set_take_drop (m := j + 1) (l := l) (by omega) (by omega) hd2).2
        · rw [(set_take_drop (m := j + 1) (l := l) (by omega) (by omega) hd2).1, c5 p' hp', take_snoc ha]
          simp [← hy p' hp', h]
        · rw [c5 p' hp', take_snoc ha]
          simp [← hy p' hp', h]
      · have hj' : j = l.length := by omega
        subst hj'
        simp [c1]
        refine fun _ => ⟨by omega, by omega, fun v => finF_of (cur.take i) ?_ fun p' hp' => ?_⟩
        · have h9 : i ≤ l.length := by omega
          simp [List.take_append, c1, h9]
        · rw [c5 p' hp', List.take_length]

/-! ### sorted, keep, and the operations -/
def P_SortFunc (x : D × Unit) (l : List Span) : Prop := x.1 = .clo f_subcorpus_compare [] ∧ l.length ≤ 100000
def Q_SortFunc (_ : D × Unit) (l r : List Span) : Prop := r.length = l.length ∧ (∀ x, x ∈ r ↔ x ∈ l) ∧ WS r
abbrev s_slices_SortFunc_Span : Spc := iuC (aD a0) P_SortFunc Q_SortFunc ty_Span 2
def P_sorted (x : List (List Span)) : Prop := x ≠ [] ∧ x.flatten.length ≤ 100000
def Q_sorted (x : List (List Span)) (r : List Span) : Prop := IsNorm x.flatten r
abbrev s_subcorpus_sorted : Spc := frC (a1 (List (List Span))) P_sorted Q_sorted ty_Span 2
theorem w_subcorpus_sorted (h1 : S f_slices_Concat_Span = s_slices_Concat_Span) (h2 : S f_slices_SortFunc_Span = s_slices_SortFunc_Span) (h3 : S f_slices_Compact_Span = s_slices_Compact_Span) :
    WalkF cc_subcorpus_sorted rs_subcorpus_sorted S (a1 (List (List Span))) P_sorted Q_sorted ty_Span 2 := by
  rintro ls ⟨hne, hlen⟩
  simp [cc_subcorpus_sorted, rs_subcorpus_sorted, h1, h2, h3, -List.length_flatten, -List.map_flatten]
  refine ⟨⟨hne, hlen⟩, ⟨rfl, hlen⟩, fun r hr => ⟨by have := hr.1; omega, fun v' => finF_of (cptS r) (by simp) ?_⟩⟩
  exact norm_cpt hr.2.1 hr.2.2

abbrev s_subcorpus_Unite : Spc := spc (a2 (List Span) (List Span)) (fun x => x.1.length + x.2.length ≤ 100000) enc fun x y => IsNorm (x.1 ++ x.2) y
theorem w_subcorpus_Unite (h1 : S f_subcorpus_sorted = s_subcorpus_sorted) : Walk cc_subcorpus_Unite rs_subcorpus_Unite S (a2 (List Span) (List Span)) (fun x => x.1.length + x.2.length ≤ 100000) enc fun x y => IsNorm (x.1 ++ x.2) y := by
  rintro ⟨a, b⟩ hl
  simp at hl
  simp [cc_subcorpus_Unite, rs_subcorpus_Unite, h1]
  refine ⟨⟨by simp, by simpa using hl⟩, fun v r hr => fin_of r (fz_o ty_Span (by simp)) (by simpa [Q_sorted] using hr)⟩

def P_keep (S0 : Nat → Spc) (x : List Span × D × Unit) : Prop := x.1.length ≤ 100000 ∧ ∃ p : Span → Bool, FunIs S0 x.2.1 p
def Q_keep (S0 : Nat → Spc) (x : List Span × D × Unit) (y : List Span) : Prop := ∀ p : Span → Bool, FunIs S0 x.2.1 p → IsNorm (x.1.filter p) y
abbrev s_subcorpus_keep (S0 : Nat → Spc) : Spc := spc (aE (List Span) (aD a0)) (P_keep S0) enc (Q_keep S0)
/-- S0: the table of what f may be; S1: that of keep's own function value. -/
theorem w_subcorpus_keep {S1 : Nat → Spc} (h0 : S1 f_subcorpus_keep_1 = s_subcorpus_keep_1 S0) (h1 : S f_subcorpus_sorted = s_subcorpus_sorted) (h2 : S f_slices_DeleteFunc_Span = s_slices_DeleteFunc_Span S1) :
    Walk cc_subcorpus_keep rs_subcorpus_keep S (aE (List Span) (aD a0)) (P_keep S0) enc (Q_keep S0) := by
  rintro ⟨l, d, ⟨⟩⟩ ⟨hl, p, hp⟩
  simp at hl hp
  have hd : d.kn = true := by
    obtain ⟨g, caps, pc, rfl, _⟩ := hp
    rfl
  have hc : d.cells = [d] := by
    obtain ⟨g, caps, pc, rfl, _⟩ := hp
    rfl
  simp [cc_subcorpus_keep, rs_subcorpus_keep, h1, h2, hd, hc]
  have hf := fun_keep_1 h0 hp
  refine ⟨⟨by simp, by simpa using hl⟩, fun r hr => ?_⟩
  simp [Q_sorted] at hr
  refine ⟨⟨by have := hr.len; omega, _, hf⟩, fun v' r' hr' => fin_of r' (fz_o ty_Span (by simp)) fun p' hp' => ?_⟩
  rw [hr' _ (fun_keep_1 h0 hp')]
  simpa using hr.filter p'

def P_op (x : List Span × List Span) : Prop := x.1.length ≤ 100000
abbrev s_subcorpus_Intersect : Spc := spc (a2 (List Span) (List Span)) P_op enc fun x y => IsNorm (x.1.filter (hasS x.2)) y
theorem w_subcorpus_Intersect (h0 : S0 f_subcorpus_Intersect_1 = s_subcorpus_Intersect_1) (h1 : S f_subcorpus_keep = s_subcorpus_keep S0) : Walk cc_subcorpus_Intersect rs_subcorpus_Intersect S (a2 (List Span) (List Span)) P_op enc fun x y => IsNorm (x.1.filter (hasS x.2)) y := by
  rintro ⟨a, b⟩ hl
  have hf := fun_Intersect_1 h0 b
  simp at hf
  simp [cc_subcorpus_Intersect, rs_subcorpus_Intersect, h1]
  exact ⟨⟨hl, _, hf⟩, fun y hy => fin_of y (.same _) (hy _ hf)⟩
abbrev s_subcorpus_Subtract : Spc := spc (a2 (List Span) (List Span)) P_op enc fun x y => IsNorm (x.1.filter fun s => !hasS x.2 s) y
theorem w_subcorpus_Subtract (h0 : S0 f_subcorpus_Subtract_1 = s_subcorpus_Subtract_1) (h1 : S f_subcorpus_keep = s_subcorpus_keep S0) : Walk cc_subcorpus_Subtract rs_subcorpus_Subtract S (a2 (List Span) (List Span)) P_op enc fun x y => IsNorm (x.1.filter fun s => !hasS x.2 s) y := by
  rintro ⟨a, b⟩ hl
  have hf := fun_Subtract_1 h0 b
  simp at hf
  simp [cc_subcorpus_Subtract, rs_subcorpus_Subtract, h1]
  exact ⟨⟨hl, _, hf⟩, fun y hy => fin_of y (.same _) (hy _ hf)⟩
abbrev s_subcorpus_Inside : Spc := spc (a2 (List Span) (List Span)) P_op enc fun x y => IsNorm (x.1.filter fun s => liesS s x.2) y
theorem w_subcorpus_Inside (h0 : S0 f_subcorpus_Inside_1 = s_subcorpus_Inside_1) (h1 : S f_subcorpus_keep = s_subcorpus_keep S0) : Walk cc_subcorpus_Inside rs_subcorpus_Inside S (a2 (List Span) (List Span)) P_op enc fun x y => IsNorm (x.1.filter fun s => liesS s x.2) y := by
  rintro ⟨a, b⟩ hl
  have hf := fun_Inside_1 h0 b
  simp at hf
  simp [cc_subcorpus_Inside, rs_subcorpus_Inside, h1]
  exact ⟨⟨hl, _, hf⟩, fun y hy => fin_of y (.same _) (hy _ hf)⟩
end Go.Gv

namespace Go.Gv
set_option linter.unusedSimpArgs false
set_option linter.unusedVariables false
set_option maxRecDepth 100000
open Cod (enc dec)
variable {S : Nat → Spc}
def inT (p : Int) (t : Text) : Bool := decide (t.b ≤ p ∧ p < t.e)
abbrev s_corpus_TextAt : Spc := spc (a2 Corpus Int) (fun _ => True) enc fun x y => y = idxI x.1.texts (inT x.2)
theorem w_corpus_TextAt : Walk cc_corpus_TextAt rs_corpus_TextAt S (a2 Corpus Int) (fun _ => True) enc fun x y => y = idxI x.1.texts (inT x.2) := by
  rintro ⟨c, p⟩ -
  simp [cc_corpus_TextAt, rs_corpus_TextAt]
  intro hlen
  refine vc_range (X := Unit) [1, 8] [] c.texts.length (fun k _ => ∀ y ∈ c.texts.take k, inT p y = false) (fun _ => []) (fun _ => []) () (by simp) (by simp) (by omega) (by simp) (by simp) (by simp) (by simp) (by simp) ?_ ?_
  · intro k _ hk hP
    obtain ⟨t, ht⟩ := at_lt hk
    obtain ⟨_, hgt⟩ := List.getElem?_eq_some_iff.1 ht
    simp [ht, hk, hgt]
    refine ⟨fun h1 => ⟨fun h2 => ?_, fun h2 => ?_⟩, fun h1 => ?_⟩
    · exact (idxI_at ht (by simp [inT]; omega) hP).symm
    all_goals
      rw [take_snoc ht]
      intro y hy
      rcases List.mem_append.1 hy with hy | hy
      · exact hP y hy
      · simp at hy; subst hy; simp [inT]; omega
  · intro _ hP
    simp at hP
    simp
    exact (idxI_none hP).symm

def zText : Text := ⟨⟨#[]⟩, 0, 0, []⟩
def textOf (c : Corpus) (p : Int) : Text × Bool := match c.texts.find? (inT p) with
  | some t => (t, true)
  | none => (zText, false)
abbrev s_r24_TextOf : Spc := spc (a2 Corpus Int) (fun _ => True) (er2 (Y := Text) (Z := Bool)) fun x y => y = textOf x.1 x.2
theorem find_at {α : Type} {p : α → Bool} : ∀ {l : List α} {k : Nat} {x : α}, l[k]? = some x → p x = true → (∀ y ∈ l.take k, p y = false) → l.find? p = some x
  | [], k, x, h, _, _ => by simp at h
  | a :: l, 0, x, h, h1, _ => by simp at h; subst h; simp [h1]
  | a :: l, k + 1, x, h, h1, h2 => by
    have ha : p a = false := h2 a (by simp)
    rw [List.find?_cons_of_neg (by simp [ha])]
    exact find_at (k := k) (by simpa using h) h1 fun y hy => h2 y (by simp [hy])
theorem w_r24_TextOf : Walk cc_r24_TextOf rs_r24_TextOf S (a2 Corpus Int) (fun _ => True) (er2 (Y := Text) (Z := Bool)) fun x y => y = textOf x.1 x.2 := by
  rintro ⟨c, p⟩ -
  simp [cc_r24_TextOf, rs_r24_TextOf]
  intro b hlen
  refine vc_range (X := Unit) [1, 4, 9] [4] c.texts.length (fun k _ => ∀ y ∈ c.texts.take k, inT p y = false) (fun _ => []) (fun _ => []) () (by simp) (by simp) (by omega) (by simp) (by simp) (by simp) (by simp) (by simp) ?_ ?_
  · intro k _ hk hP
    obtain ⟨t, ht⟩ := at_lt hk
    obtain ⟨_, hgt⟩ := List.getElem?_eq_some_iff.1 ht
    simp [ht, hk, hgt]
    refine ⟨fun h1 => ⟨fun h2 => ?_, fun h2 => ?_⟩, fun h1 => ?_⟩
    · refine ⟨t, .same _, ?_⟩
      simp [textOf, find_at ht (by simp [inT]; omega) hP]
    all_goals
      rw [take_snoc ht]
      intro y hy
      rcases List.mem_append.1 hy with hy | hy
      · exact hP y hy
      · simp at hy; subst hy; simp [inT]; omega
  · intro _ hP
    simp at hP
    simp
    refine ⟨zText, ?_, ?_⟩
    · rw [fz_agg_cons, fz_agg_cons, fz_agg_cons, fz_agg_cons]
      exact ⟨.same _, .same _, .same _, .nil _, .same _⟩
    · simp only [textOf]
      rw [List.find?_eq_none.2 (fun y hy => by simp [hP y hy])]

def cmpSp (a b : Span) : Int := if cmpI a.b b.b ≠ 0 then cmpI a.b b.b else cmpI a.e b.e
theorem cmpSp_ge (a b : Span) : 0 ≤ cmpSp a b ↔ ¬ ltS a b := by
  unfold cmpSp cmpI ltS
  repeat' split
  all_goals omega
abbrev s_subcorpus_compare : Spc := spc (a2 Span Span) (fun _ => True) enc fun x y => y = cmpSp x.1 x.2
theorem w_subcorpus_compare (h1 : S f_cmp_Compare_int = s_cmp_Compare_int) (h2 : S f_cmp_Or_int = s_cmp_Or_int) : Walk cc_subcorpus_compare rs_subcorpus_compare S (a2 Span Span) (fun _ => True) enc fun x y => y = cmpSp x.1 x.2 := by
  rintro ⟨a, b⟩ -
  simp [cc_subcorpus_compare, rs_subcorpus_compare, h1, h2, cmpSp]
  by_cases h : cmpI a.b b.b = 0
  · by_cases h' : cmpI a.e b.e = 0
    · simp [h, h']
    · simp [h, h']
  · simp [h]

/-- The span at place k of a list of spans of a corpus is right. -/
def OkAt (c : Corpus) (l : List Span) (k : Nat) : Prop := ∀ s, l[k]? = some s → s.b < s.e ∧ (∃ t, c.texts.find? (inT s.b) = some t ∧ s.e ≤ t.e) ∧ (0 < k → ∀ r, l[k - 1]? = some r → ltS r s)
def Q_IsList (x : Corpus × List Span) (y : Bool) : Prop := y = true ↔ ∀ k, OkAt x.1 x.2 k
theorem okAt_step {c : Corpus} {l : List Span} {k : Nat} (h : ∀ j, j < k → OkAt c l j) (hk : OkAt c l k) : ∀ j, j < k + 1 → OkAt c l j := fun j hj => by
  by_cases e : j = k
  · subst e; exact hk
  · exact h j (by omega)
theorem notList {c : Corpus} {l : List Span} {k : Nat} (hk : ¬ OkAt c l k) : Q_IsList (c, l) false := by
  simp only [Q_IsList]
  exact ⟨fun h => by simp at h, fun h => absurd (h k) hk⟩
theorem allList {c : Corpus} {l : List Span} (h : ∀ j, j < l.length → OkAt c l j) : Q_IsList (c, l) true := by
  simp only [Q_IsList]
  refine ⟨fun _ k => ?_, fun _ => trivial⟩
  by_cases e : k < l.length
  · exact h k e
  · intro s hs
    rw [List.getElem?_eq_none (by omega)] at hs
    cases hs
abbrev s_subcorpus_IsList : Spc := spc (a2 Corpus (List Span)) (fun _ => True) enc Q_IsList
theorem w_subcorpus_IsList (h1 : S f_corpus_TextAt = s_corpus_TextAt) (h2 : S f_subcorpus_compare = s_subcorpus_compare) : Walk cc_subcorpus_IsList rs_subcorpus_IsList S (a2 Corpus (List Span)) (fun _ => True) enc Q_IsList := by
  rintro ⟨c, l⟩ -
  simp [cc_subcorpus_IsList, rs_subcorpus_IsList]
  intro hlen
  refine vc_range (X := Unit) [1, 2, 8] [] l.length (fun k _ => ∀ j, j < k → OkAt c l j) (fun _ => []) (fun _ => []) () (by simp) (by simp) (by omega) (by simp) (by simp) (by simp) (by simp) (by simp) ?_ ?_
  · intro k _ hk hP
    obtain ⟨s, hs⟩ := at_lt hk
    obtain ⟨_, hgs⟩ := List.getElem?_eq_some_iff.1 hs
    simp [hs, hk, hgs, h1, h2]
    rcases idxI_cases (inT s.b) c.texts with ⟨e, hno⟩ | ⟨i, t, e, ht, hp, hno⟩
    · rw [e]
      refine ⟨fun h => by omega, fun _ => notList (k := k) fun ho => ?_⟩
      obtain ⟨_, ⟨t, h3, _⟩, _⟩ := ho s hs
      rw [List.find?_eq_none.2 (fun y hy => by simp [hno y hy])] at h3
      cases h3
    · have hf := find_at ht hp hno
      have hi := lt_at ht
      have et : ∀ t', c.texts.find? (inT s.b) = some t' → t' = t := fun t' h => by rw [hf] at h; cases h; rfl
      rw [e]
      refine ⟨fun _ => ⟨fun h3 => ⟨by omega, by omega, fun a ha => ?_⟩, fun h3 => ?_⟩, fun h => by omega⟩
      · have : a = t := by
          rw [Int.toNat_natCast] at ha
          rw [ht] at ha; cases ha; rfl
        subst this
        refine ⟨fun h4 => ⟨fun h5 => ⟨by simp only [InR]; omega, by omega, by omega, fun r hr => ⟨fun h6 => ?_, fun h6 => ?_⟩⟩, fun h5 => ?_⟩, fun h4 => ?_⟩
        · rw [cmpSp_ge] at h6
          exact notList (k := k) fun ho => h6 ((ho s hs).2.2 h5 r hr)
        · refine okAt_step hP fun s' hs' => ?_
          rw [hs] at hs'; cases hs'
          refine ⟨h3, ⟨a, hf, h4⟩, fun _ r' hr' => ?_⟩
          rw [hr] at hr'; cases hr'
          have := cmpSp_ge r s
          by_cases e : ltS r s
          · exact e
          · have := this.2 e; omega
        · refine okAt_step hP fun s' hs' => ?_
          rw [hs] at hs'; cases hs'
          exact ⟨h3, ⟨a, hf, h4⟩, fun h => by omega⟩
        · refine notList (k := k) fun ho => ?_
          obtain ⟨_, ⟨t', h7, h8⟩, _⟩ := ho s hs
          have := et t' h7
          subst this
          omega
      · refine notList (k := k) fun ho => ?_
        have := (ho s hs).1
        omega
  · intro _ hP
    simp
    exact allList hP

abbrev s_r30_IsList : Spc := spc (a2 Corpus (List Span)) (fun _ => True) enc Q_IsList
theorem w_r30_IsList (h1 : S f_r24_TextOf = s_r24_TextOf) : Walk cc_r30_IsList rs_r30_IsList S (a2 Corpus (List Span)) (fun _ => True) enc Q_IsList := by
  rintro ⟨c, l⟩ -
  simp [cc_r30_IsList, rs_r30_IsList]
  intro hlen
  refine vc_range (X := Unit) [1, 2, 9] [] l.length (fun k _ => ∀ j, j < k → OkAt c l j) (fun _ => []) (fun _ => []) () (by simp) (by simp) (by omega) (by simp) (by simp) (by simp) (by simp) (by simp) ?_ ?_
  · intro k _ hk hP
    obtain ⟨s, hs⟩ := at_lt hk
    obtain ⟨_, hgs⟩ := List.getElem?_eq_some_iff.1 hs
    cases hf : c.texts.find? (inT s.b) with
    | none =>
      have ht : textOf c s.b = (zText, false) := by simp only [textOf, hf]
      simp [hs, hk, hgs, h1, ht]
      refine notList (k := k) fun ho => ?_
      obtain ⟨_, ⟨t, h3, _⟩, _⟩ := ho s hs
      rw [hf] at h3
      cases h3
    | some t =>
      have ht : textOf c s.b = (t, true) := by simp only [textOf, hf]
      simp [hs, hk, hgs, h1, ht]
      have et : ∀ t', c.texts.find? (inT s.b) = some t' → t' = t := fun t' h => by rw [hf] at h; cases h; rfl
      have no : ∀ r, 0 < k → l[k - 1]? = some r → ¬ ltS r s → Q_IsList (c, l) false := fun r h0 hr h5 => notList (k := k) fun ho => h5 ((ho s hs).2.2 h0 r hr)
      refine ⟨fun h3 => ⟨fun h4 => ?_, fun h4 => ?_⟩, fun h3 => ?_⟩
      · refine notList (k := k) fun ho => ?_
        obtain ⟨_, ⟨t', h7, h8⟩, _⟩ := ho s hs
        have := et t' h7
        subst this
        omega
      · have yes : ∀ r, l[k - 1]? = some r → ltS r s → ∀ j, j < k + 1 → OkAt c l j := fun r hr h5 => okAt_step hP fun s' hs' => by
          rw [hs] at hs'; cases hs'
          refine ⟨h3, ⟨t, hf, h4⟩, fun _ r' hr' => ?_⟩
          rw [hr] at hr'; cases hr'
          exact h5
        refine ⟨fun h0 => ⟨by simp only [InR]; omega, by omega, by omega, fun r hr => ⟨fun h5 => ⟨by simp only [InR]; omega, by omega, by omega, fun r' hr' => ?_⟩, fun h5 => no r h0 hr (by simp only [ltS]; omega)⟩⟩, fun h0 => ?_⟩
        · have e : r' = r := by rw [hr] at hr'; cases hr'; rfl
          subst e
          refine ⟨fun h6 => ⟨by simp only [InR]; omega, by omega, by omega, fun r'' hr'' => ?_⟩, fun h6 => yes r' hr (by simp only [ltS]; omega)⟩
          have e : r'' = r' := by rw [hr] at hr''; cases hr''; rfl
          subst e
          exact ⟨fun h7 => no r'' h0 hr (by simp only [ltS]; omega), fun h7 => yes r'' hr (by simp only [ltS]; omega)⟩
        · refine okAt_step hP fun s' hs' => ?_
          rw [hs] at hs'; cases hs'
          exact ⟨h3, ⟨t, hf, h4⟩, fun h => by omega⟩
      · refine notList (k := k) fun ho => ?_
        have := (ho s hs).1
        omega
  · intro _ hP
    simp
    exact allList hP
end Go.Gv
