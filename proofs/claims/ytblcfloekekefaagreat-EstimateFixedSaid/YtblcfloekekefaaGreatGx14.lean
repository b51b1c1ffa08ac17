/- A part of the framework and of the walks: T18 W14 W2 W3 W17 Cl W20 T19 W15 T20 W16 T21 W18 W9 W19 Asm W21 Sh Asm2 C7. -/
import Derived.Shelf.SlSortCmp.NoneTotal
import Derived.Shelf.SlSortCmp.WholeK
import Derived.Ground.SlsfProg
import Derived.Test.YtblcfloekekefaaGreatProg
import Derived.Test.YtblcfloekekefaaGreatChecked
import Derived.Test.YtblcfloekekefaaGreatGx13
import Derived.Test.YtblcfloekekefaaGreatGx12

namespace Go.Gv
set_option linter.unusedSimpArgs false
set_option linter.unusedVariables false

/-- r is known at least as well as r' (Hf: what is given up). -/
def RFz (Hf : HMap) : Res → Res → Prop
  | .box b cs, .box b' cs' => b = b' ∧ cs.length = cs'.length ∧ ∀ (m : Nat) (c c' : D), cs[m]? = some c → cs'[m]? = some c' → FrzTo Hf c c'
  | .row x el n es, .row x' el' n' es' => x = x' ∧ el = el' ∧ n = n' ∧ es.length = es'.length ∧ (∀ d ∈ es', d.kn = true ∧ d.cells.length = n) ∧ ∀ (m : Nat) (c c' : D), es[m]? = some c → es'[m]? = some c' → ∀ (j : Nat) (e e' : D), c.cells[j]? = some e → c'.cells[j]? = some e' → FrzTo Hf e e'
  | r, r' => r = r'

theorem RFz.blk {Hf : HMap} {r r' : Res} (h : RFz Hf r r') : r'.blk = r.blk := by
  cases r <;> cases r' <;> simp only [RFz] at h
  · obtain ⟨rfl, _⟩ := h; rfl
  all_goals first
    | (obtain ⟨rfl, rfl, rfl, _⟩ := h; rfl)
    | (cases h; done)
    | (cases h; rfl)

theorem RFz.ok {tp I I' : Nat → Prop} {w : World} {Hf : HMap} {r r' : Res} (h : RFz Hf r r') (hr : ResOk (R tp I w) w r) (hok : ∀ i q, Hf i = some q → ResOk (R tp I w) w q) (hI : ∀ b, I b → I' b) (hb : ∀ i q b, Hf i = some q → q.blk = some b → I' b) : ResOk (R tp I' w) w r' := by
  have fz : ∀ {c c' : D} {y : Value}, FrzTo Hf c c' → R tp I w y c → R tp I' w y c' := fun h hr => h.R (H := noH) hok hI hb hr
  have same : ResOk (R tp I' w) w r := hr.conv (fun x d hr => hr.mono (fun _ h => h) (fun b hb => ⟨hI b hb, rfl⟩) (fun b _ => .refl _ _)) (fun _ _ => rfl)
  cases r with
  | box b cs =>
    cases r' with
    | box b' cs' =>
      obtain ⟨rfl, hl, hc⟩ := h
      obtain ⟨xs, el, h1, h2, h3⟩ := hr
      refine ⟨xs, el, h1, h2.trans hl, fun k y c hy hc' => ?_⟩
      have hk : k < cs.length := by rw [hl]; exact (List.getElem?_eq_some_iff.1 hc').1
      have h4 := h3 k y cs[k] hy (List.getElem?_eq_getElem hk)
      exact ⟨h4.1, fz (hc k _ _ (List.getElem?_eq_getElem hk) hc') h4.2⟩
    | row x el n es => cases h
    | iter b s p => cases h
  | iter b s p =>
    cases r' with
    | box b' cs' => cases h
    | row x el n es => cases h
    | iter b' s' p' => cases h; exact same
  | row x el n es =>
    cases r' with
    | box b' cs' => cases h
    | iter b' s' p' => cases h
    | row x' el' n' es' =>
      obtain ⟨rfl, rfl, rfl, hl, hkn, hc⟩ := h
      obtain ⟨xs, h1, h2, h3⟩ := hr
      refine ⟨xs, hl ▸ h1, hkn, fun k y c hy hc' => ?_⟩
      have hw : ∀ d ∈ es, d.cells.length = n := fun d hd => (h2 d hd).2
      have hw' : ∀ d ∈ es', d.cells.length = n := fun d hd => (hkn d hd).2
      have hfl := flat_length hw
      have hfl' := flat_length hw'
      have hk : k < (flat es).length := by
        have := (List.getElem?_eq_some_iff.1 hc').1
        rw [hfl, hl, ← hfl']; exact this
      have hk2 : k < es.length * n := by rw [← hfl]; exact hk
      have hn : 0 < n := by
        rcases Nat.eq_zero_or_pos n with e | e
        · subst e; simp at hk2
        · exact e
      have h4 := h3 k y (flat es)[k] hy (List.getElem?_eq_getElem hk)
      refine ⟨h4.1, fz ?_ h4.2⟩
      have hdm : k = (k / n) * n + k % n := by have := Nat.div_add_mod k n; rw [Nat.mul_comm] at this; omega
      have hmod : k % n < n := Nat.mod_lt _ hn
      have g1 := flat_get hw (i := k / n) (j := k % n) hmod
      have g2 := flat_get hw' (i := k / n) (j := k % n) hmod
      rw [← hdm] at g1 g2
      rw [hc'] at g2
      rw [List.getElem?_eq_getElem hk] at g1
      cases e1 : es[k / n]? with
      | none => rw [e1] at g1; cases g1
      | some c1 =>
        cases e2 : es'[k / n]? with
        | none => rw [e2] at g2; cases g2
        | some c2 =>
          rw [e1] at g1
          rw [e2] at g2
          exact hc _ c1 c2 e1 e2 _ _ _ g1.symm g2.symm
def RFe (Hf : HMap) (r r' : Res) : Prop := r = r' ∨ RFz Hf r r'
theorem RFe.blk {Hf : HMap} {r r' : Res} (h : RFe Hf r r') : r'.blk = r.blk := by
  rcases h with rfl | h
  · rfl
  · exact h.blk
theorem RFe.ok {tp I I' : Nat → Prop} {w : World} {Hf : HMap} {r r' : Res} (h : RFe Hf r r') (hr : ResOk (R tp I w) w r) (hok : ∀ i q, Hf i = some q → ResOk (R tp I w) w q) (hI : ∀ b, I b → I' b) (hb : ∀ i q b, Hf i = some q → q.blk = some b → I' b) : ResOk (R tp I' w) w r' := by
  rcases h with rfl | h
  · exact hr.conv (fun x d hr => hr.mono (fun _ h => h) (fun b hb => ⟨hI b hb, rfl⟩) (fun b _ => .refl _ _)) (fun _ _ => rfl)
  · exact h.ok hr hok hI hb
theorem isNilRow.blk' {r : Res} (h : isNilRow r) : r.blk = none := by
  cases r with
  | box b c => exact h.elim
  | iter b s p => exact h.elim
  | row x el n es => obtain ⟨rfl, rfl⟩ := h; rfl

theorem wk_all {σ σ' : Sg} {H H' Hf : HMap} (ρ : Nat → Nat) (h1 : ∀ t, FrzTo Hf (σ t) (σ' t)) (h2 : ∀ i r, H' i = some r → (∃ r0, H (ρ i) = some r0 ∧ RFe Hf r0 r) ∨ isNilRow r)
    (h3 : ∀ i j r s, H' i = some r → H' j = some s → ρ i = ρ j → i = j ∨ isNilRow r ∨ isNilRow s) (h4 : ∀ i r, Hf i = some r → H i = some r ∧ ∀ j r', H' j = some r' → ρ j = i → isNilRow r') : Wk σ H σ' H' := by
  intro E a w ⟨hd, hN, tp, h, hr⟩
  have hblk : ∀ i r c, H' i = some r → r.blk = some c → ∃ r0, H (ρ i) = some r0 ∧ r0.blk = some c ∧ ¬ isNilRow r := fun i r c k1 k2 => by
    have hn : ¬ isNilRow r := fun hn => by rw [hn.blk'] at k2; cases k2
    rcases h2 i r k1 with ⟨r0, k3, k4⟩ | k3
    · exact ⟨r0, k3, k4.blk ▸ k2, hn⟩
    · exact absurd k3 hn
  have hown : ∀ c, owns H' c → owns H c := fun c ⟨i, r, k1, k2⟩ => by
    obtain ⟨r0, k3, k4, _⟩ := hblk i r c k1 k2
    exact ⟨ρ i, r0, k3, k4⟩
  have himm : ∀ c, Imm E.O tp H w c → Imm E.O tp H' w c := fun c hb => ⟨hb.1, hb.2.1, hb.2.2.1, fun ho => hb.2.2.2 (hown c ho)⟩
  have hfok : ∀ i q, Hf i = some q → ResOk (R tp (Imm E.O tp H w) w) w q := fun i q hq => h.sat.ok i q (h4 i q hq).1
  have hfb : ∀ i q b, Hf i = some q → q.blk = some b → Imm E.O tp H' w b := fun i q b hq hb => by
    obtain ⟨k1, k2⟩ := h4 i q hq
    have ho := h.sat.out i q b k1 hb
    refine ⟨(h.sat.ok i q k1).lt hb, ho.1, ho.2, fun ⟨j, s, k3, k4⟩ => ?_⟩
    obtain ⟨s0, k5, k6, k7⟩ := hblk j s b k3 k4
    exact k7 (k2 j s k3 (h.sat.dis (ρ j) i s0 q b k5 k1 k6 hb))
  have move : ∀ x d, R tp (Imm E.O tp H w) w x d → R tp (Imm E.O tp H' w) w x d := fun x d hr =>
    hr.mono (fun _ h => h) (fun b hb => ⟨himm b hb, rfl⟩) (fun b _ => .refl _ _)
  refine ⟨hd, hN, tp, ⟨h.hO, h.tpx, h.tpn, h.tpl, h.step, fun b hb => h.loc b (hown b hb), ⟨fun i j r s c k1 k2 k3 k4 => ?_, fun i r c k1 k2 => ?_, fun i r k1 => ?_⟩⟩, fun t => (h1 t).R (H := noH) hfok himm hfb (hr t)⟩
  · obtain ⟨r0, a1, a2, a3⟩ := hblk i r c k1 k3
    obtain ⟨s0, b1, b2, b3⟩ := hblk j s c k2 k4
    rcases h3 i j r s k1 k2 (h.sat.dis _ _ r0 s0 c a1 b1 a2 b2) with e | e | e
    · exact e
    · exact absurd e a3
    · exact absurd e b3
  · obtain ⟨r0, a1, a2, _⟩ := hblk i r c k1 k2
    exact h.sat.out _ r0 c a1 a2
  · rcases h2 i r k1 with ⟨r0, k3, k4⟩ | k3
    · exact k4.ok (h.sat.ok _ r0 k3) hfok himm hfb
    · cases r with
      | box b c => exact k3.elim
      | iter b s p => exact k3.elim
      | row x el n es =>
        obtain ⟨rfl, rfl⟩ := k3
        exact ⟨[], World.ownsRow_nil _ _ _ _, by simp, fun k y c h => by simp at h⟩
def MatchF (Hf : HMap) : List (Nat × D) → Sg → Prop
  | [], _ => True
  | (t, d) :: l, σ => FrzTo Hf (σ t) d ∧ MatchF Hf l σ
@[simp] theorem matchF_n (Hf : HMap) (σ : Sg) : MatchF Hf [] σ = True := id rfl
@[simp] theorem matchF_c (Hf : HMap) (t : Nat) (d : D) (l : List (Nat × D)) (σ : Sg) : MatchF Hf ((t, d) :: l) σ = (FrzTo Hf (σ t) d ∧ MatchF Hf l σ) := id rfl
/-- Resource i is what was resource j: (i, j) in rn. -/
def rnm (rn : List (Nat × Nat)) (i : Nat) : Nat := (rn.lookup i).getD i
def MatchR (Hf : HMap) (rn : List (Nat × Nat)) : List (Nat × Res) → HMap → Prop
  | [], _ => True
  | (i, r) :: l, H => ((∃ r0, H (rnm rn i) = some r0 ∧ RFe Hf r0 r) ∨ isNilRow r) ∧ MatchR Hf rn l H
@[simp] theorem matchR_n (Hf : HMap) (rn : List (Nat × Nat)) (H : HMap) : MatchR Hf rn [] H = True := id rfl
@[simp] theorem matchR_c (Hf : HMap) (rn : List (Nat × Nat)) (i : Nat) (r : Res) (l : List (Nat × Res)) (H : HMap) : MatchR Hf rn ((i, r) :: l) H = (((∃ r0, H (rnm rn i) = some r0 ∧ RFe Hf r0 r) ∨ isNilRow r) ∧ MatchR Hf rn l H) := id rfl
/-- What is given up. -/
def gvH (gv : List Nat) (H : HMap) : HMap := fun i => if i ∈ gv then H i else none
def Inj (rn : List (Nat × Nat)) (ids gv : List Nat) : Prop := (∀ i ∈ ids, ∀ j ∈ ids, rnm rn i = rnm rn j → i = j) ∧ (∀ i ∈ ids, rnm rn i ∉ gv)
instance (rn : List (Nat × Nat)) (ids gv : List Nat) : Decidable (Inj rn ids gv) := by unfold Inj; infer_instance
theorem addH_mem {l : List (Nat × Res)} {H : HMap} {i : Nat} {r : Res} (h : addH l H i = some r) : (i, r) ∈ l ∨ (i ∉ l.map (·.1) ∧ H i = some r) := by
  induction l with
  | nil => exact .inr ⟨by simp, h⟩
  | cons p l ih =>
    obtain ⟨j, q⟩ := p
    simp only [addH, updH] at h
    split at h
    · rename_i e; subst e; cases h; exact .inl (by simp)
    · rename_i e
      rcases ih h with h | ⟨h1, h2⟩
      · exact .inl (by simp [h])
      · exact .inr ⟨by simp [e, h1], h2⟩
theorem matchR_mem {Hf : HMap} {rn : List (Nat × Nat)} {l : List (Nat × Res)} {H : HMap} {i : Nat} {r : Res} (h : MatchR Hf rn l H) (hm : (i, r) ∈ l) : (∃ r0, H (rnm rn i) = some r0 ∧ RFe Hf r0 r) ∨ isNilRow r := by
  induction l with
  | nil => simp at hm
  | cons p l ih =>
    obtain ⟨j, q⟩ := p
    rcases List.mem_cons.1 hm with e | hm
    · cases e; exact h.1
    · exact ih h.2 hm
theorem wk_matchG {σ0 σ : Sg} {H0 H : HMap} {ks hk gv : List Nat} {rn : List (Nat × Nat)} {sl : List (Nat × D)} {hp : List (Nat × Res)} (hi : Inj rn (hp.map (·.1) ++ hk) gv) (hid : ∀ i ∈ hk, i ∉ hp.map (·.1) → rnm rn i = i)
    (h1 : MatchF (gvH gv H) sl σ) (h2 : KeptS ks σ0 σ) (h3 : MatchR (gvH gv H) rn hp H) (h4 : KeptH hk H0 H) : Wk σ H (addS sl (keepS ks σ0)) (addH hp (keepH hk H0)) := by
  have hmem : ∀ i r, addH hp (keepH hk H0) i = some r → i ∈ hp.map (·.1) ++ hk := fun i r h => by
    rcases addH_mem h with h | ⟨_, h⟩
    · exact List.mem_append.2 (.inl (List.mem_map.2 ⟨_, h, rfl⟩))
    · rw [keepH_at] at h
      split at h
      · rename_i e; exact List.mem_append.2 (.inr e)
      · cases h
  refine wk_all (Hf := gvH gv H) (rnm rn) (fun t => ?_) (fun i r h => ?_) (fun i j r s k1 k2 e => .inl (hi.1 i (hmem i r k1) j (hmem j s k2) e)) (fun i r h => ?_)
  · clear hi hid h3 hmem
    induction sl with
    | nil =>
      rw [addS_n, keepS_at]
      split
      · rename_i h; rw [← h2 t h]; exact .same _
      · exact .any _
    | cons p sl ih =>
      obtain ⟨s, d⟩ := p
      simp only [addS, upd]
      split
      · rename_i e; subst e; exact h1.1
      · exact ih h1.2
  · rcases addH_mem h with h | ⟨h5, h⟩
    · exact matchR_mem h3 h
    · rw [keepH_at] at h
      split at h
      · rename_i e
        rw [hid i e h5, h4 i e]
        exact .inl ⟨r, h, .inl rfl⟩
      · cases h
  · simp only [gvH] at h
    split at h
    · rename_i e
      exact ⟨h, fun j r' k1 k2 => absurd e (k2 ▸ hi.2 j (hmem j r' k1))⟩
    · cases h

@[simp] theorem rnm_n (i : Nat) : rnm [] i = i := id rfl
@[simp] theorem rnm_c (i j : Nat) (l : List (Nat × Nat)) (k : Nat) : rnm ((i, j) :: l) k = if k = i then j else rnm l k := by
  simp only [rnm, List.lookup]
  by_cases e : k = i
  · subst e; simp
  · have : (k == i) = false := by simpa using e
    simp [this, e]
def FzL (Hf : HMap) : List D → List D → Prop
  | [], [] => True
  | a :: l, b :: r => FrzTo Hf a b ∧ FzL Hf l r
  | _, _ => False
@[simp] theorem fzL_n (Hf : HMap) : FzL Hf [] [] = True := id rfl
@[simp] theorem fzL_c (Hf : HMap) (a b : D) (l r : List D) : FzL Hf (a :: l) (b :: r) = (FrzTo Hf a b ∧ FzL Hf l r) := id rfl
theorem FzL.get {Hf : HMap} : ∀ {l r : List D}, FzL Hf l r → l.length = r.length ∧ ∀ (m : Nat) (c c' : D), l[m]? = some c → r[m]? = some c' → FrzTo Hf c c'
  | [], [], _ => ⟨rfl, fun m c c' h => by simp at h⟩
  | a :: l, b :: r, h => by
    obtain ⟨h1, h2⟩ := h
    have ih := FzL.get h2
    refine ⟨by simp [ih.1], fun m c c' e1 e2 => ?_⟩
    cases m with
    | zero => simp at e1 e2; subst e1; subst e2; exact h1
    | succ m => simp at e1 e2; exact ih.2 m c c' e1 e2
@[simp] theorem rfe_box (Hf : HMap) (b : Nat) (cs cs' : List D) : RFe Hf (.box b cs) (.box b cs') = (cs = cs' ∨ FzL Hf cs cs') := by
  refine propext ⟨fun h => ?_, fun h => ?_⟩
  · rcases h with h | ⟨_, hl, hc⟩
    · cases h; exact .inl rfl
    · right
      induction cs generalizing cs' with
      | nil => cases cs' with
        | nil => trivial
        | cons b r => simp at hl
      | cons a l ih => cases cs' with
        | nil => simp at hl
        | cons b r => exact ⟨hc 0 a b rfl rfl, ih r (by simpa using hl) fun m c c' h1 h2 => hc (m + 1) c c' (by simpa using h1) (by simpa using h2)⟩
  · rcases h with rfl | h
    · exact .inl rfl
    · exact .inr ⟨rfl, h.get.1, h.get.2⟩
def BackG (σ0 : Sg) (H0 : HMap) (ks hk gv : List Nat) (rn : List (Nat × Nat)) (sl : List (Nat × D)) (hp : List (Nat × Res)) (σ : Sg) (H : HMap) : Prop := MatchF (gvH gv H) sl σ ∧ KeptS ks σ0 σ ∧ MatchR (gvH gv H) rn hp H ∧ KeptH hk H0 H
@[simp] theorem backG_eq (σ0 : Sg) (H0 : HMap) (ks hk gv : List Nat) (rn : List (Nat × Nat)) (sl : List (Nat × D)) (hp : List (Nat × Res)) (σ : Sg) (H : HMap) : BackG σ0 H0 ks hk gv rn sl hp σ H = (MatchF (gvH gv H) sl σ ∧ KeptS ks σ0 σ ∧ MatchR (gvH gv H) rn hp H ∧ KeptH hk H0 H) := id rfl
section
variable {S : Nat → Spc} {σ : Sg} {H : HMap} {K : Ex → Sg → HMap → Prop}
/-- Two pieces of text; between them memory is given up (gv) and resources are renamed (rn: (new, old)). -/
theorem vc_midG {X : Type} (ks hk gv : List Nat) (rn : List (Nat × Nat)) (P : X → Prop) (sl : X → List (Nat × D)) (hp : X → List (Nat × Res)) {k : Nat} {a b : CC} (ids : List Nat) (hids : ∀ x, (hp x).map (·.1) = ids) (hi : Inj rn (ids ++ hk) gv ∧ ∀ i ∈ hk, i ∉ ids → rnm rn i = i)
    (ha : vc S a (midK (fun σ' H' => ∃ x, P x ∧ BackG σ H ks hk gv rn (sl x) (hp x) σ' H') K) σ H)
    (hb : ∀ x, P x → vc S b K (addS (sl x) (keepS ks σ)) (addH (hp x) (keepH hk H))) : vc S (seqM k a b) K σ H := by
  refine vc_midW P _ _ (vc_mono a _ _ (fun e σ' H' h => ?_) ha) hb
  cases e with
  | norm =>
    obtain ⟨x, h1, h2⟩ := h
    exact ⟨x, h1, wk_matchG (by rw [hids x]; exact hi.1) (by rw [hids x]; exact hi.2) h2.1 h2.2.1 h2.2.2.1 h2.2.2.2⟩
  | ex i => exact h
  | ret => exact h
end
end Go.Gv

namespace Go.Gv
set_option linter.unusedSimpArgs false
set_option linter.unusedVariables false
set_option maxRecDepth 100000
open Cod (enc dec)
variable {S S0 : Nat → Spc}
end Go.Gv

namespace Go.Gv
set_option linter.unusedSimpArgs false
set_option linter.unusedVariables false
set_option maxRecDepth 100000
open Cod (enc dec)
variable {S S0 : Nat → Spc}

end Go.Gv

namespace Go.Gv
set_option linter.unusedSimpArgs false
set_option linter.unusedVariables false
set_option maxRecDepth 100000
open Cod (enc dec)
variable {S S0 : Nat → Spc}

def Q_SortFunc (_ : D × Unit) (l r : List Span) : Prop := r.length = l.length ∧ (∀ x, x ∈ r ↔ x ∈ l) ∧ WS r
end Go.Gv

namespace Go.Gv
set_option linter.unusedSimpArgs false
set_option linter.unusedVariables false
set_option maxRecDepth 100000
open Cod (enc dec)
variable {S : Nat → Spc}
def cmpSp (a b : Span) : Int := if cmpI a.b b.b ≠ 0 then cmpI a.b b.b else cmpI a.e b.e
theorem cmpSp_ge (a b : Span) : 0 ≤ cmpSp a b ↔ ¬ ltS a b := by
  unfold cmpSp cmpI ltS
  repeat' split
  all_goals omega
end Go.Gv

namespace Go.Gv
open Go.Proofs
end Go.Gv

namespace Go.Gv
set_option linter.unusedSimpArgs false
set_option linter.unusedVariables false
set_option maxRecDepth 100000
open Cod (enc dec)
variable {S S0 : Nat → Spc}
instance (a b : Span) : Decidable (ltS a b) := by unfold ltS; infer_instance
end Go.Gv

namespace Go.Gv
set_option linter.unusedSimpArgs false
set_option linter.unusedVariables false
section
variable {X Y : Type}
variable {P : Program} {S : Nat → Spc} {f : Nat} {im : List Nat} {cc : CC} {rs : List CRes} {N : Nat}
end
end Go.Gv

namespace Go.Gv
set_option linter.unusedSimpArgs false
set_option linter.unusedVariables false
set_option maxRecDepth 100000
open Cod (enc dec)
variable {S S0 : Nat → Spc}
theorem w_m_New : WalkFB cc_m_New rs_m_New S := by
  intro l
  simp [cc_m_New, rs_m_New, -List.map_take, take_enc, tpBox]
  omega
end Go.Gv

namespace Go.Gv
set_option linter.unusedSimpArgs false
set_option linter.unusedVariables false
section
variable {S : Nat → Spc} {σ : Sg} {H : HMap} {K : Ex → Sg → HMap → Prop}
theorem vc_whileG {X : Type} (ks hk gv0 gv : List Nat) (rn0 rn : List (Nat × Nat)) (P : X → Prop) (sl : X → List (Nat × D)) (hp : X → List (Nat × Res)) (m : X → Nat) (x0 : X) (ids : List Nat) (hids : ∀ x, (hp x).map (·.1) = ids)
    (hi0 : Inj rn0 (ids ++ hk) gv0 ∧ ∀ i ∈ hk, i ∉ ids → rnm rn0 i = i) (hi : Inj rn (ids ++ hk) gv ∧ ∀ i ∈ hk, i ∉ ids → rnm rn i = i) {k : Nat} {b : CC} (h0 : P x0)
    (hs : MatchF (gvH gv0 H) (sl x0) σ) (hh : MatchR (gvH gv0 H) rn0 (hp x0) H)
    (hr : ∀ x, P x → vc S b (whlK P (fun y => BackG σ H ks hk gv rn (sl y) (hp y)) m x K) (addS (sl x) (keepS ks σ)) (addH (hp x) (keepH hk H))) : vc S (.loop k b) K σ H := by
  rw [e_loop]
  refine ⟨⟨X, P, fun x => addS (sl x) (keepS ks σ), fun x => addH (hp x) (keepH hk H), m⟩, ⟨x0, h0, wk_matchG (by rw [hids x0]; exact hi0.1) (by rw [hids x0]; exact hi0.2) hs (fun _ _ => rfl) hh (fun _ _ => rfl)⟩, fun x hx => vc_mono b _ _ (fun e σ' H' h => ?_) (hr x hx)⟩
  cases e with
  | norm =>
    obtain ⟨y, h1, h2, h3⟩ := h
    exact ⟨y, h1, wk_matchG (by rw [hids y]; exact hi.1) (by rw [hids y]; exact hi.2) h2.1 h2.2.1 h2.2.2.1 h2.2.2.2, h3⟩
  | ex i => exact h
  | ret => exact h
end
end Go.Gv

namespace Go.Gv
set_option linter.unusedSimpArgs false
set_option linter.unusedVariables false
set_option maxRecDepth 100000
open Cod (enc dec)
variable {S S0 : Nat → Spc}
def strs (l : List B) : List D := l.map enc
theorem strs2 (a b : B) : D.list 1 [.v (.string a), .v (.string b)] = .list 1 (strs [a, b]) := id rfl
theorem strs3 (a b c : B) : D.list 1 [.v (.string a), .v (.string b), .v (.string c)] = .list 1 (strs [a, b, c]) := id rfl
theorem strs_len (l : List B) : (strs l).length = l.length := by simp [strs]
theorem strs_at (l : List B) (i : Nat) (d : D) : ((strs l)[i]? = some d) = ∃ s, l[i]? = some s ∧ .v (.string s) = d := by
  simp [strs]
end Go.Gv

namespace Go.Gv
set_option linter.unusedSimpArgs false
set_option linter.unusedVariables false
end Go.Gv

namespace Go.Gv
set_option linter.unusedSimpArgs false
set_option linter.unusedVariables false
set_option maxRecDepth 100000
open Cod (enc dec)
variable {S S0 : Nat → Spc}
end Go.Gv

namespace Go.Gv
set_option linter.unusedSimpArgs false
set_option linter.unusedVariables false
set_option maxRecDepth 100000
open Cod (enc dec)
variable {S S0 : Nat → Spc}
end Go.Gv

namespace Go.Gv
set_option linter.unusedSimpArgs false
set_option linter.unusedVariables false
set_option maxRecDepth 100000
open Cod (enc dec)
variable {S S0 : Nat → Spc}
end Go.Gv

namespace Go.Gv
open Go.Proofs
set_option maxRecDepth 100000
theorem t_m_Mod : Tri Tryz.prog f_m_Mod s_m_Mod.pt :=
  tri_walk (S := tab []) (tab_ok tab_nil) ok_m_Mod (fun _ => Nat.le_of_ble_eq_true rfl) (w_m_Mod)
theorem t_m_Tape_Next : Tri Tryz.prog f_m_Tape_Next s_m_Next.pt := tri_next (S := tab [(f_m_Mod, s_m_Mod)]) (tab_ok (tab_cons t_m_Mod tab_nil)) rfl ok_m_Tape_Next (by decide)
theorem t_m_New : Tri Tryz.prog f_m_New s_m_New.pt := tri_new (tri_walkFB (S := tab []) (tab_ok tab_nil) ok_m_New (by decide) w_m_New)
theorem t_cmp_isNaN_int : Tri Tryz.prog f_cmp_isNaN_int s_cmp_isNaN_int.pt :=
  tri_walk (S := tab []) (tab_ok tab_nil) ok_cmp_isNaN_int (fun _ => Nat.le_of_ble_eq_true rfl) (w_cmp_isNaN_int)
theorem t_cmp_Compare_int : Tri Tryz.prog f_cmp_Compare_int s_cmp_Compare_int.pt :=
  tri_walk (S := tab [(f_cmp_isNaN_int, s_cmp_isNaN_int)]) (tab_ok (tab_cons t_cmp_isNaN_int tab_nil)) ok_cmp_Compare_int (fun _ => Nat.le_of_ble_eq_true rfl) (w_cmp_Compare_int rfl)
theorem t_cmp_Or_int : Tri Tryz.prog f_cmp_Or_int s_cmp_Or_int.pt :=
  tri_walk (S := tab []) (tab_ok tab_nil) ok_cmp_Or_int (fun _ => Nat.le_of_ble_eq_true rfl) (w_cmp_Or_int)
end Go.Gv

namespace Go.Gv
set_option linter.unusedSimpArgs false
set_option linter.unusedVariables false
open Cod (enc dec)
open Go.Proofs Go.Sort Go.Shelf Go.Lib Go.RowKit
theorem fm_get {α β : Type} {f : α → List β} {n : Nat} : ∀ {l : List α}, (∀ x ∈ l, (f x).length = n) → ∀ {i j : Nat}, j < n → (l.flatMap f)[i * n + j]? = (l[i]?).bind fun x => (f x)[j]?
  | [], _, i, j, _ => by simp
  | d :: es, h, 0, j, hj => by
    have hd := h d (by simp)
    simp only [List.flatMap_cons, Nat.zero_mul, Nat.zero_add]
    rw [List.getElem?_append_left (by omega)]
    simp
  | d :: es, h, i + 1, j, hj => by
    have hd := h d (by simp)
    have ih := fm_get (l := es) (fun d hd => h d (by simp [hd])) (i := i) hj
    simp only [List.flatMap_cons]
    rw [List.getElem?_append_right (by rw [hd, Nat.succ_mul]; omega), hd]
    have : (i + 1) * n + j - n = i * n + j := by rw [Nat.succ_mul]; omega
    rw [this, ih]
    simp
theorem fm_len {α β : Type} {f : α → List β} {n : Nat} : ∀ {l : List α}, (∀ x ∈ l, (f x).length = n) → (l.flatMap f).length = l.length * n
  | [], _ => by simp
  | d :: es, h => by
    have ih := fm_len (l := es) (fun d hd => h d (by simp [hd]))
    simp only [List.flatMap_cons, List.length_append]
    rw [ih, h d (by simp), List.length_cons, Nat.succ_mul]
    omega
section
variable {X : Type} [Cod X] [Inhabited X] (ev : X → List Value) (k : Nat) (hk : ∀ x, (ev x).length = k)
include hk
omit [Cod X] in
theorem flatK_list (l : List X) : (flatK ev k l.toArray).toList = l.flatMap ev := by
  have hl := fm_len (f := ev) (n := k) (l := l) (fun x _ => hk x)
  apply List.ext_getElem?
  intro t
  by_cases ht : t < l.length * k
  · have k0 : 0 < k := by
      rcases Nat.eq_zero_or_pos k with h | h
      · subst h; simp at ht
      · exact h
    have h1 := get_flatK ev k l.toArray t (by simpa using ht)
    have hs : t < (flatK ev k l.toArray).size := by simpa using ht
    rw [getElem!_pos _ t hs] at h1
    rw [Array.getElem?_toList, Array.getElem?_eq_getElem hs, h1]
    have hm : t % k < k := Nat.mod_lt _ k0
    have hdm : t = (t / k) * k + t % k := by have := Nat.div_add_mod t k; rw [Nat.mul_comm] at this; omega
    have hq : t / k < l.length := Nat.div_lt_of_lt_mul (by rw [Nat.mul_comm]; exact ht)
    have h2 := fm_get (f := ev) (n := k) (l := l) (fun x _ => hk x) (i := t / k) hm
    rw [← hdm] at h2
    rw [h2, List.getElem?_eq_getElem hq]
    have h3 : (l.toArray)[t / k]! = l[t / k] := by rw [getElem!_pos l.toArray (t / k) (by simpa using hq)]; simp
    rw [h3]
    have h4 : t % k < (ev l[t / k]).length := by rw [hk]; exact hm
    simp only [Option.bind_some]
    rw [getElem!_pos (ev l[t / k]) (t % k) h4, List.getElem?_eq_getElem h4]
  · rw [List.getElem?_eq_none (by simpa using ht), List.getElem?_eq_none (by omega)]
end
theorem frozen_plain {w : World} {b j el : Nat} {c : Array Value} (h : w.heap[b]? = some (.cells c el (0, 0))) : w.frozen? ⟨b, j, none⟩ = false := by
  simp [World.frozen?, h]
theorem cell_plain {w : World} {b j el : Nat} {c : Array Value} {fr : Nat × Nat} (h : w.heap[b]? = some (.cells c el fr)) : w.cell? ⟨b, j, none⟩ = c[j]? := by
  simp [World.cell?, h]

theorem put_other {w : World} {gb b : Nat} {f : Array Value → Array Value} {os : Array Obj} (hb : b < w.heap.size) (hne : b ≠ gb) : (grow (mapBlock w gb f) os).heap[b]? = w.heap[b]? := by
  simp only [grow, mapBlock]
  rw [Array.getElem?_append_left (by simpa using hb), Array.getElem?_modify]
  have : ¬ gb = b := fun e => hne e.symm
  simp [this]
theorem put_this {w : World} {gb el : Nat} {c : Array Value} {fr : Nat × Nat} {f : Array Value → Array Value} {os : Array Obj} (h : w.heap[gb]? = some (.cells c el fr)) : (grow (mapBlock w gb f) os).heap[gb]? = some (.cells (f c) el fr) := by
  have hb : gb < w.heap.size := (Array.getElem?_eq_some_iff.1 h).1
  simp only [grow, mapBlock]
  rw [Array.getElem?_append_left (by simpa using hb), Array.getElem?_modify]
  simp [h, onCells]

section
variable {P : Program} {ρ : Ren} {X : Type} [Cod X] [Inhabited X]
def P_srt (g : Nat) (x : D × Unit) (l : List X) : Prop := x.1 = .clo g [] ∧ l.length ≤ 100000
def Q_srt (cf : X → X → Int) (_ : D × Unit) (l r : List X) : Prop := r = l.mergeSort fun x y => !(ltOf cf) y x

/-- What a comparison leaves: the world has grown at its end. -/
theorem cmp_lays {g : Nat} {cf : X → X → Int} (ev : X → List Value) (hev : ∀ x, enc x = D.agg ((ev x).map D.v)) (hone : ∀ x, ∀ v ∈ ev x, v.oneCell' = true ∧ ∀ s, v = .string s → s.size ≤ maxLen)
    (hg : Tri P g (spc (a2 X X) (fun _ => True) (enc (X := Int)) fun x y => y = cf x.1 x.2).pt) (blk size k : Nat) (w : World) : CmpLays P g #[] ev k cf blk 0 size w := by
  intro m os dk _ x y
  generalize sortWorldK ev k w blk 0 m dk os = W
  have hR : ∀ z, R (fun _ => False) (Imm (fun b => b < W.heap.size) (fun _ => False) noH W) W (.agg (ev z).toArray) (enc z) := fun z => by
    rw [hev z]
    refine .agg (ev z) _ (by simp) (fun v hv => (hone z v hv).1) fun j v c h1 h2 => ?_
    rw [List.getElem?_map] at h2
    rw [h1] at h2
    cases h2
    exact .v v (hone z v (List.mem_of_getElem? h1)).1 (hone z v (List.mem_of_getElem? h1)).2
  obtain ⟨_, hc⟩ := hg (fun b => b < W.heap.size) (fun _ => False) W [.agg (ev x).toArray, .agg (ev y).toArray] [enc x, enc y] noH 0 (fun r H' => r = enc (cf x y) ∧ H' = noH) (fun b h => h) (fun b h => h.elim)
    ⟨fun i j r s b h => by simp [noH] at h, fun i r b h => by simp [noH] at h, fun i r h => by simp [noH] at h⟩ rfl
    (fun j v c h1 h2 => by
      rcases j with _ | _ | j
      · simp at h1 h2; subst h1; subst h2; exact hR x
      · simp at h1 h2; subst h1; subst h2; exact hR y
      · simp at h1)
    (by rw [spc_pt]; simp)
  refine hc.mono ?_
  rintro e w' ⟨v, r, H', tp', rfl, ⟨rfl, rfl⟩, _, _, _, hs, _, _, hv⟩
  have hv' : v = .int .i64 (cf x y) := by
    have : R tp' (Imm (fun b => b < W.heap.size) tp' noH w') w' v (.v (.int .i64 (cf x y))) := hv
    exact this.inv_v
  subst hv'
  refine ⟨rfl, w'.drawn - W.drawn, w'.heap.extract W.heap.size w'.heap.size, ?_⟩
  have hheap : w'.heap = W.heap ++ w'.heap.extract W.heap.size w'.heap.size := by
    apply Array.ext_getElem?
    intro b
    by_cases hb : b < W.heap.size
    · rw [Array.getElem?_append_left hb]
      exact hs.same b hb (fun ⟨i, r, h, _⟩ => by simp [noH] at h) (fun h => h)
    · rw [Array.getElem?_append_right (by omega), Array.getElem?_extract]
      have hsz : W.heap.size ≤ w'.heap.size := hs.size
      by_cases hb2 : b < w'.heap.size
      · rw [if_pos (by omega)]
        congr 1
        omega
      · rw [if_neg (by omega), Array.getElem?_eq_none (by omega)]
  have h1 := hs.os
  have h2 := hs.tape
  have h3 := hs.output
  have h4 := hs.drawn
  have h5 : W.drawn + (w'.drawn - W.drawn) = w'.drawn := by omega
  cases w'
  cases W
  simp only [grow, World.drewN] at *
  subst h1; subst h2; subst h3
  rw [h5, ← hheap]

theorem tri_sortFunc {fsort g : Nat} {cf : X → X → Int} (L : SlLaysF0.n6 P ρ) (hf : ρ.f 6 = fsort) (ev : X → List Value) (k el : Nat) (hk : ∀ x, (ev x).length = k) (hev : ∀ x, enc x = D.agg ((ev x).map D.v))
    (hone : ∀ x, ∀ v ∈ ev x, v.oneCell' = true ∧ ∀ s, v = .string s → s.size ≤ maxLen) (aE : ∀ w, (isAgg (ρ.t 24)).run P w = .ok true w) (zE : ∀ w, (Go.sizeOf (ρ.t 24)).run P w = .ok k w)
    (hO : SWO (ltOf cf)) (hT : ∀ x y, (ltOf cf) x y = false → (ltOf cf) y x = false → x = y) (hg : Tri P g (spc (a2 X X) (fun _ => True) (enc (X := Int)) fun x y => y = cf x.1 x.2).pt) (eg : CallEnter P g) (ef : CallEnter P fsort) :
    Tri P fsort (iuC (aD a0) (P_srt g) (Q_srt cf) el k).pt := by
  subst hf
  intro O tp w vs ds H d K hO' htl hsat hlen hargs hA
  obtain ⟨id, v, l, ds', x, rfl, hd, hid, ⟨hx1, hl5⟩, hK⟩ := hA
  have hds : ds' = [.clo g []] := by
    match ds', hd with
    | [], h => cases h
    | a :: r, h =>
      rw [aD_dec] at h
      match r, h with
      | [], h =>
        simp at h
        subst h
        simp only at hx1
        rw [hx1]
      | b :: r, h => cases h
  subst hds
  match vs, hlen, hargs with
  | [v0, fv], _, hargs =>
  have e0 : v0 = v := by
    have := hargs 0 v0 _ rfl rfl
    cases this; rfl
  have e1 : fv = .func (.func g) #[] #[] := by
    have := hargs 1 fv _ rfl rfl
    cases this with
    | clo _ xs _ hl _ =>
      have : xs = [] := by simpa using hl
      subst this; rfl
  subst e0; subst e1
  refine ⟨ef, ?_⟩
  obtain ⟨xs, ⟨hxl, hx⟩, hkn, hcells⟩ := hsat.ok id _ hid
  rcases hx with ⟨rfl, h0⟩ | ⟨gb, cap, cur, rfl, _, hgb, hcap, hcapm, hsz, htake⟩
  · have hl0 : l = [] := by simpa using h0
    subst hl0
    refine (AnyF.slices_SortFunc_none L none 0 _ w).mono ?_
    rintro e w' ⟨rfl, rfl⟩
    have hH : updH H id (some (.row (.slice none 0 0) el k (([] : List X).map enc))) = H := by
      funext i
      simp only [updH]
      by_cases hi : i = id
      · subst hi; simp [hid]
      · simp [hi]
    refine ⟨_, _, _, tp, rfl, hK [] (by simp [Q_srt]), fun b h => h, fun b h => .inl h, htl, .refl _ _ _, fun b h => .inl (by rwa [hH] at h), by rw [hH]; exact hsat, .tup [] [] rfl (fun k x c h => by simp at h)⟩
  · have hll : (l.map (enc (X := X))).length = l.length := by simp
    rw [hll] at hcap hxl htake ⊢
    have hval : ∀ (j : Nat) (y v' : Value), xs[j]? = some y → (flat (l.map enc))[j]? = some (.v v') → y = v' := fun j y v' h1 h2 => ((hcells j y _ h1 h2).2).inv_v
    have hfl : flat (l.map enc) = (l.flatMap ev).map D.v := by
      unfold flat
      rw [List.flatMap_map, List.map_flatMap]
      congr 1
      funext z
      rw [hev z]; rfl
    have hfml := fm_len (f := ev) (n := k) (l := l) (fun x _ => hk x)
    have hxs : xs = l.flatMap ev := by
      apply List.ext_getElem?
      intro j
      by_cases hj : j < l.length * k
      · have e1 : xs[j]? = some xs[j] := List.getElem?_eq_getElem (by omega)
        have e2 : (l.flatMap ev)[j]? = some (l.flatMap ev)[j] := List.getElem?_eq_getElem (by omega)
        rw [e1, e2]
        congr 1
        refine hval j _ _ e1 ?_
        rw [hfl, List.getElem?_map, e2]; rfl
      · rw [List.getElem?_eq_none (by omega), List.getElem?_eq_none (by omega)]
    have hcur : ∀ j, j < l.length * k → cur[j]? = (l.flatMap ev)[j]? := fun j hj => by
      rw [← hxs, ← htake, List.getElem?_take, if_pos hj, Array.getElem?_toList]
    have hgs : gb < w.heap.size := (Array.getElem?_eq_some_iff.1 hgb).1
    have hH : HoldsK ev k w gb 0 l.toArray := by
      intro j hj
      have hj' : j < l.length * k := by simpa using hj
      refine ⟨?_, frozen_plain hgb⟩
      rw [cell_plain hgb, Nat.zero_add, hcur j hj', ← flatK_list ev k hk l, Array.getElem?_toList, Array.getElem?_eq_getElem hj, getElem!_pos _ j hj]
      rfl
    have hcall := AnyQ.slices_SortFunc_total L k aE zE ev hk (fun x v hv => (hone x v hv).1) cf hO g #[] gb 0 cap l.toArray w eg (cmp_lays ev hev hone hg gb _ k w) hH hgs (by simp; omega) hT
    simp only [List.size_toArray] at hcall
    refine hcall.mono ?_
    rintro e w' ⟨rfl, n, os, hw'⟩
    generalize hl' : (l.mergeSort fun x y => !(ltOf cf) y x) = l' at hw'
    have hlen' : l'.length = l.length := by rw [← hl']; simp
    have hwo : ∀ b, b < w.heap.size → b ≠ gb → w'.heap[b]? = w.heap[b]? := fun b hb hne => by
      rw [hw']; exact put_other (w := Sort.ahead w n) hb hne
    have hthis : w'.heap[gb]? = some (.cells (putCells _root_.id 0 (flatK ev k l'.toArray) cur) el (0, 0)) := by
      rw [hw']; exact put_this (w := Sort.ahead w n) hgb
    have hws : w.heap.size ≤ w'.heap.size := by
      rw [hw']; simp [sortWorldK, grow, putRowK, putRow, mapBlock, Sort.ahead]
    have hos : w'.os = w.os ∧ w'.tape = w.tape ∧ w'.output = w.output ∧ w.drawn ≤ w'.drawn := by
      rw [hw']; exact ⟨rfl, rfl, rfl, Nat.le_add_right _ _⟩
    clear hw' hcall
    have hbo : (Res.row (.slice (some ⟨gb, 0, none⟩) l.length cap) el k (l.map enc)).blk = some gb := rfl
    have hid' : H id = some (.row (.slice (some ⟨gb, 0, none⟩) l.length cap) el k (l.map enc)) := by rw [hid, hll]
    have hown : owns H gb := ⟨id, _, hid', hbo⟩
    have htp : ∀ b, tp b → b ≠ gb := fun b hb e => (hsat.out id _ gb hid' hbo).2 (e ▸ hb)
    have htapes : ∀ b, tp b → TapeStep w w' b := fun b hb => .same (hwo b (htl b hb) (htp b hb))
    have hK' := hK l' (by simp only [Q_srt]; rw [hl'])
    rw [hll] at hK'
    generalize hH2 : updH H id (some (.row (.slice (some ⟨gb, 0, none⟩) l.length cap) el k (l'.map enc))) = H2 at hK'
    have hown2 : ∀ b, owns H2 b → owns H b := fun b ⟨i, r, h1, h2⟩ => by
      rw [← hH2] at h1
      simp only [updH] at h1
      split at h1
      · cases h1; cases h2; exact hown
      · exact ⟨i, r, h1, h2⟩
    have hmove : ∀ y c, R tp (Imm O tp H w) w y c → R tp (Imm O tp H2 w') w' y c := fun y c hr => hr.mono (fun _ h => h) (fun b hb => ⟨⟨Nat.lt_of_lt_of_le hb.1 hws, hb.2.1, hb.2.2.1, fun h => hb.2.2.2 (hown2 b h)⟩, hwo b hb.1 (fun e => hb.2.2.2 (e ▸ hown))⟩) htapes
    have hget : ∀ i r, H2 i = some r → (i = id ∧ r = .row (.slice (some ⟨gb, 0, none⟩) l.length cap) el k (l'.map enc)) ∨ (i ≠ id ∧ H i = some r) := fun i r h => by
      rw [← hH2] at h
      simp only [updH] at h
      split at h
      · rename_i e; cases h; exact .inl ⟨e, rfl⟩
      · rename_i e; exact .inr ⟨e, h⟩
    refine ⟨_, _, H2, tp, rfl, hK', fun b h => h, fun b h => .inl h, fun b hb => Nat.lt_of_lt_of_le (htl b hb) hws, ⟨hos.1, hos.2.1, hos.2.2.1, hws, fun b hb ho ht => hwo b hb (fun e => ho (e ▸ hown)), htapes, hos.2.2.2⟩, fun b h => .inl (hown2 b h), ⟨?_, ?_, ?_⟩, .tup [] [] rfl (fun k x c h => by simp at h)⟩
    · intro i j r s b h1 h2 h3 h4
      rcases hget i r h1 with ⟨rfl, rfl⟩ | ⟨n1, k1⟩
      · rcases hget j s h2 with ⟨rfl, rfl⟩ | ⟨n2, k2⟩
        · rfl
        · exact hsat.dis _ j _ s b hid' k2 h3 h4
      · rcases hget j s h2 with ⟨rfl, rfl⟩ | ⟨n2, k2⟩
        · exact hsat.dis i _ r _ b k1 hid' h3 h4
        · exact hsat.dis i j r s b k1 k2 h3 h4
    · intro i r b h1 h2
      rcases hget i r h1 with ⟨rfl, rfl⟩ | ⟨n1, k1⟩
      · exact hsat.out _ _ b hid' h2
      · exact hsat.out i r b k1 h2
    · intro i r h1
      rcases hget i r h1 with ⟨rfl, rfl⟩ | ⟨n1, k1⟩
      · have hfml' := fm_len (f := ev) (n := k) (l := l') (fun x _ => hk x)
        have hps : (putCells _root_.id 0 (flatK ev k l'.toArray) cur).size = cur.size := by simp [putCells]
        refine ⟨l'.flatMap ev, ⟨by simp; rw [← List.length_flatMap]; exact hfml', .inr ⟨gb, cap, _, by simp [hlen'], Nat.zero_le _, hthis, by simp; omega, hcapm, by rw [hps, hsz], ?_⟩⟩, fun d hd => ?_, fun j y c h1 h2 => ?_⟩
        · simp only [List.length_map, hlen']
          apply List.ext_getElem?
          intro j
          rw [List.getElem?_take]
          by_cases hj : j < l.length * k
          · have hjc : j < cur.size := by
              have : l.length * k ≤ cap * k := Nat.mul_le_mul_right k hcap
              omega
            have hjf : j < (flatK ev k l'.toArray).size := by simp [hlen']; exact hj
            rw [if_pos hj, Array.getElem?_toList, ← flatK_list ev k hk l', Array.getElem?_toList]
            simp only [putCells, Array.getElem?_mapIdx, Array.getElem?_eq_getElem hjc, Option.map_some, Nat.zero_le, Nat.zero_add, hjf, and_self, if_true, Nat.sub_zero, id_eq]
            rw [Array.getElem?_eq_getElem hjf, getElem!_pos _ j hjf]
          · rw [if_neg hj, List.getElem?_eq_none (by rw [hfml', hlen']; omega)]
        · obtain ⟨z, _, rfl⟩ := List.mem_map.1 hd
          rw [hev z]
          exact ⟨rfl, by simp [D.cells, hk]⟩
        · have hfl' : flat (l'.map enc) = (l'.flatMap ev).map D.v := by
            unfold flat
            rw [List.flatMap_map, List.map_flatMap]
            congr 1
            funext z
            rw [hev z]; rfl
          rw [hfl', List.getElem?_map, h1] at h2
          cases h2
          obtain ⟨z, _, hz⟩ := List.mem_flatMap.1 (List.mem_of_getElem? h1)
          exact ⟨(hone z y hz).1, .v y (hone z y hz).1 (hone z y hz).2⟩
      · have hne : ∀ b, r.blk = some b → b ≠ gb := fun b hb e => n1 (hsat.dis i id r _ gb k1 hid' (e ▸ hb) hbo)
        exact (hsat.ok i r k1).conv hmove (fun b hb => hwo b ((hsat.ok i r k1).lt hb) (hne b hb))
end
end Go.Gv

namespace Go.Proofs
open Go.Shelf
end Go.Proofs

namespace Go.Gv
open Go.Proofs Cod
set_option maxRecDepth 100000
/-! ### The sort -/
instance : Inhabited Span := ⟨⟨0, 0⟩⟩
def evS (s : Span) : List Value := [.int .i64 s.b, .int .i64 s.e]
theorem ltOf_sp (x y : Span) : ltOf cmpSp x y = decide (ltS x y) := by
  unfold ltOf
  have := cmpSp_ge x y
  by_cases h : ltS x y
  · simp only [h, decide_true, decide_eq_true_eq]
    by_cases h0 : 0 ≤ cmpSp x y
    · exact absurd h (this.1 h0)
    · omega
  · simp only [h, decide_false, decide_eq_false_iff_not]
    have := this.2 h
    omega
theorem swo_sp : Go.Sort.SWO (ltOf cmpSp) where
  irrefl x := by rw [ltOf_sp]; simp [ltS_irr]
  trans x y z h1 h2 := by rw [ltOf_sp] at *; simp at *; exact ltS_trans h1 h2
  ntrans x y z h1 h2 := by rw [ltOf_sp] at *; simp at *; unfold ltS at *; omega
theorem tri_iu_mono {P : Program} {f : Nat} {X Y : Type} [Cod Y] {A : Arg X} {pre pre' : X → List Y → Prop} {post post' : X → List Y → List Y → Prop} {el n : Nat} (h : Tri P f (iuC A pre post el n).pt) (h1 : ∀ x l, pre' x l → pre x l) (h2 : ∀ x l r, pre' x l → post x l r → post' x l r) :
    Tri P f (iuC A pre' post' el n).pt := fun O tp w vs ds H d K a b c e g ⟨id, v, l, ds', x, k1, k2, k3, k4, k5⟩ => h O tp w vs ds H d K a b c e g ⟨id, v, l, ds', x, k1, k2, k3, h1 x l k4, fun l' hp => k5 l' (h2 x l l' k4 hp)⟩
end Go.Gv

namespace Go.Gv
open Go.Proofs
/-- corpora/corporalaw31.EstimateFixed [L_int] -> [bool] -/
def cc_law31_EstimateFixed : CC :=
  .seq (.reg [
    .op (some 2) none (.mv (.const (.bool false)))])
  (.keep [0] [] (.seq (.reg [
    .op (some 4) none (.mv (.tmp 0)),
    .op (some 5) none (.call f_m_New [(.tmp 4)]),
    .op (some 6) none (.call f_m_Tape_Query [(.tmp 5), (.const (.int .i64 4))]),
    .op (some 7) none (.fld true 13 0 (.tmp 6)),
    .op (some 3) none (.alloc ty_Pattern [(.int .i64 0), (.int .i64 0), (.string ⟨#[]⟩), (.string ⟨#[]⟩), (.string ⟨#[]⟩), (.string ⟨#[]⟩), (.bool false), (.slice none 0 0), (.string ⟨#[]⟩), (.string ⟨#[]⟩), (.int .i64 0), (.int .i64 0), (.slice none 0 0)]),
    .op none none (.store none 13 (.tmp 3) (.tmp 7))])
  (.keep [3] [3] (.seq (.regd [
    .op (some 8) none (.load true 13 (.tmp 3)),
    .op (some 9) none (.call f_estimate_Fixed [(.tmp 8)]),
    .op (some 10) none (.load true 13 (.tmp 3))] [
    .op (some 11) none (.call f_r31_Fixed [(.tmp 10)]),
    .op (some 12) none (.call f_r31_Same [(.tmp 9), (.tmp 11)]),
    .op (some 13) none (.mv (.tmp 12)),
    .op (some 14) (some (13, true)) (.call f_law31_known []),
    .op (some 15) none (.pick (.tmp 13) (.tmp 14) (.const (.bool false))),
    .op (some 2) none (.mv (.tmp 15))])
  (.keep [2] [] (.ret))))))
def rs_law31_EstimateFixed : List CRes := [.tmp 2]
def im_law31_EstimateFixed : List Nat := []
theorem ok_law31_EstimateFixed : FnOk Tryz.prog f_law31_EstimateFixed im_law31_EstimateFixed cc_law31_EstimateFixed rs_law31_EstimateFixed 16 := fnOk1 mixed (by kernel_rfl)
-- law31_EstimateSequences while id=0: live [1:n, 5:t, 6:p, 7:want, 8:i] changed [7, 8] res [6, 26, 33]
-- law31_EstimateShifts range i=22 n=21 c=23 i2=36 id=0: live [3:p, 4:token, 5:want, 20:] changed [5] res [3, 4, 18, 35]
end Go.Gv
