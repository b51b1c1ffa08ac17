/- A part of the framework and of the walks: T2 T3. -/
import Derived.Test.YtaiffcbkmgfklaaGreatDoorGw05
set_option linter.unusedSimpArgs false
set_option linter.unusedVariables false

namespace Go.Gv

inductive CI where
 | op (dst : Option Nat) (g : Option (Nat × Bool)) (c : COp)
 | frz (t n : Nat)

def CI.real : CI → Bool
 | .op _ _ _ => true
 | .frz _ _ => false

/-- What is asked of the functions that it calls. -/
def CallOkI (P : Program) (z : List PanicEntry → Prop) (S : Nat → Spc) : CI → Prop
 | .op _ _ c => CallOk P z S c
 | .frz _ _ => True

def guardOf (ops : Array Oper) (o : Oper) : Option (Option (Nat × Bool)) :=
 match o.guard with
 | none => some none
 | some (j, b) => ((ops[j]?).bind (·.dst)).map fun d => some (d, b)

def compileCI (P : Program) (im : List Nat) (N : Nat) (ops : Array Oper) (o : Oper) : Option CI := do
 let c ← compileOp P im o
 let g ← guardOf ops o
 if o.dst.all (· < N) then some (.op o.dst g c) else none

def compileOps (P : Program) (im : List Nat) (N : Nat) (ops : Array Oper) : Option (List CI) := ops.toList.mapM (compileCI P im N ops)

def guardVC (g : Option (Nat × Bool)) (σ : Sg) (yes no : Sg → Prop) : Prop :=
 match g with
 | none => yes σ
 | some (s, b) => match σ s with
   | .v (.bool t) => (t = b → yes (upd σ s (.v (.bool b)))) ∧ (t = (!b) → no (upd σ s (.v (.bool (!b)))))
   | .undef => no σ
   | _ => False

def frzL : List D → HMap → (List D → HMap → Prop) → Prop
 | [], H, K => K [] H
 | .own id x :: cs, H, K => match H id with
   | some (.row x' _ n es) => x' = x ∧ frzL cs (updH H id none) fun cs' H' => K (.list n es :: cs') H'
   | _ => False
 | c :: cs, H, K => frzL cs H fun cs' H' => K (c :: cs') H'

open Classical in
/-- The other names of a slice that is given up. -/
noncomputable def frzD (id : Nat) (x : Value) (L : D) : D → D
 | .own i y => if i = id ∧ y = x then L else .own i y
 | d => d
noncomputable def frzG (id : Nat) (x : Value) (L : D) (σ : Sg) : Sg := fun s => frzD id x L (σ s)

def frzVC (t n : Nat) (σ : Sg) (H : HMap) (K : Sg → HMap → Prop) : Prop :=
 match σ t with
 | .own id x => match H id with
   | some (.row x' _ n' es) => x' = x ∧ K (frzG id x (.list n' es) σ) (updH H id none)
   | _ => False
 | .bptr id b off => match H id with
   | some (.box b' cs) => b' = b ∧ K (upd σ t (.cptr cs off)) (updH H id none)
   | _ => False
 | .v (.slice none 0 0) => K (upd σ t (.list n [])) H
 | .sub id x n' lo hi => match H id with
   | some (.row x' el n'' es) => x' = x ∧ n' = n'' ∧ (if n = 0 then lo = 0 ∧ ∀ v, K (upd σ t (.own id v)) (updH H id (some (.row v el n'' (es.take hi)))) else K (upd σ t (.list n'' ((es.take hi).drop lo))) (updH H id none))
   | _ => False
 | .agg cs => frzL cs H fun cs' H' => K (upd σ t (.agg cs')) H'
 | _ => K σ H

def vcL (S : Nat → Spc) : List CI → Sg → HMap → (Sg → HMap → Prop) → Prop
 | [], σ, H, K => K σ H
 | .frz t n :: r, σ, H, K => frzVC t n σ H fun σ' H' => vcL S r σ' H' K
 | .op dst g c :: r, σ, H, K => guardVC g σ (fun σ => callVC S c dst σ H fun d H' => vcL S r (updO σ dst d) H' K) (fun σ => vcL S r (updO σ dst .undef) H K)

section
variable {P : Program} {im : List Nat} {a : Act} {E : Env} {tp I : Nat → Prop} {H : HMap} {w : World} {σ : Sg} {S : Nat → Spc}

/-- A resource is given up: its memory is there for good. -/
theorem StW.drop (h : StW E tp H w) (id : Nat) : StW E tp (updH H id none) w ∧ ∀ x d, R tp (Imm E.O tp H w) w x d → R tp (Imm E.O tp (updH H id none) w) w x d :=
 h.own id none (grownBy_refl w none) (fun b hb => by cases hb) (fun r b h1 => by cases h1) (fun _ r h1 => by cases h1)

theorem imm_dropped (h : StW E tp H w) {id b : Nat} {r : Res} (hr : H id = some r) (hb : r.blk = some b) : Imm E.O tp (updH H id none) w b := by
 have ho := h.sat.out id r b hr hb
 refine ⟨(h.sat.ok id r hr).lt hb, ho.1, ho.2, fun ⟨i, s, h1, h2⟩ => ?_⟩
 by_cases hi : i = id
 ·subst hi; simp [updH] at h1
 ·simp [updH, hi] at h1
  exact hi (h.sat.dis _ _ _ _ b h1 hr h2 hb)

/-- An exclusive slice that is given up is a list. -/
theorem frz_row (h : StW E tp H w) {id el n : Nat} {x : Value} {es : List D} (hr : H id = some (.row x el n es)) : R tp (Imm E.O tp (updH H id none) w) w x (.list n es) := by
 obtain ⟨xs, ⟨g1, g2⟩, g3, g4⟩ := h.sat.ok id _ hr
 have hm := (h.drop id).2
 have hfl := flat_length (es := es) (fun d hd => (g3 d hd).2)
 rcases g2 with ⟨rfl, h0⟩ | ⟨g, cap, cur, rfl, _, g5, g6, g7, g8, g9⟩
 ·have : es = [] := List.eq_nil_of_length_eq_zero h0
  subst this
  exact .nolist _ _ _
 ·have hcell : ∀ (k : Nat) (c : D), (flat es)[k]? = some c → ∃ y, xs[k]? = some y ∧ w.cell? ⟨g, 0 + k, none⟩ = some y ∧ y.oneCell' = true ∧ R tp (Imm E.O tp (updH H id none) w) w y c := by
   intro k c hk
   have hlt : k < xs.length := by
    rw [g1, ← hfl]; exact (List.getElem?_eq_some_iff.1 hk).1
   have hy : xs[k]? = some xs[k] := List.getElem?_eq_getElem hlt
   refine ⟨xs[k], hy, ?_, (g4 k _ c hy hk).1, hm _ _ (g4 k _ c hy hk).2⟩
   rw [Nat.zero_add, cell_of_row w g k cur el (0, 0) g5]
   have : (cur.toList.take (es.length * n))[k]? = some xs[k] := by rw [g9]; exact hy
   rw [List.getElem?_take] at this
   split at this
   ·simpa using this
   ·cases this
  refine .list g 0 cap n es (fun k => xs.getD k undef) (imm_dropped h hr rfl) g6 g7 g3 (fun k c hk => ?_) (fun k c hk => ?_) (fun k c hk => ?_)
  all_goals
   obtain ⟨y, h1, h2, h3, h4⟩ := hcell k c hk
   have hg : xs.getD k undef = y := by simp [List.getD, h1]
   try dsimp only
   rw [hg]
  ·exact h2
  ·exact h3
  ·exact h4

theorem frz_box (h : StW E tp H w) {id b off : Nat} {cs : List D} (hr : H id = some (.box b cs)) : R tp (Imm E.O tp (updH H id none) w) w (.pointer (some ⟨b, off, none⟩)) (.cptr cs off) := by
 obtain ⟨xs, el, g1, g2, g3⟩ := h.sat.ok id _ hr
 have hm := (h.drop id).2
 obtain ⟨f, k1, k2, k3⟩ := box_cells g1 g2 (fun k y c h1 h2 => ⟨(g3 k y c h1 h2).1, hm _ _ (g3 k y c h1 h2).2⟩)
 have := R.cptr (tp := tp) b 0 cs off f (imm_dropped h hr rfl) k1 k2 k3
 simpa using this

theorem frzL_sound : ∀ (cs : List D) (H : HMap) (K : List D → HMap → Prop) (xs : List Value), StW E tp H w → xs.length = cs.length → CellsOk (R tp (Imm E.O tp H w) w) xs cs → frzL cs H K →
 ∃ cs' H', StW E tp H' w ∧ (∀ x d, R tp (Imm E.O tp H w) w x d → R tp (Imm E.O tp H' w) w x d) ∧ xs.length = cs'.length ∧ CellsOk (R tp (Imm E.O tp H' w) w) xs cs' ∧ K cs' H' := by
 intro cs
 induction cs with
 | nil => intro H K xs hst hl hc hv; exact ⟨[], H, hst, fun _ _ h => h, hl, hc, hv⟩
 | cons c cs ih =>
   intro H K xs hst hl hc hv
   cases xs with
   | nil => simp at hl
   | cons x xs =>
     simp at hl
     have hx := hc 0 x c rfl rfl
     have htl : ∀ {H' : HMap}, (∀ x d, R tp (Imm E.O tp H w) w x d → R tp (Imm E.O tp H' w) w x d) → CellsOk (R tp (Imm E.O tp H' w) w) xs cs := fun m k y e h1 h2 =>
      ⟨(hc (k + 1) y e (by simpa using h1) (by simpa using h2)).1, m _ _ (hc (k + 1) y e (by simpa using h1) (by simpa using h2)).2⟩
     have keep : (∃ H1 c', StW E tp H1 w ∧ (∀ x d, R tp (Imm E.O tp H w) w x d → R tp (Imm E.O tp H1 w) w x d) ∧ R tp (Imm E.O tp H1 w) w x c' ∧ frzL cs H1 fun cs' H' => K (c' :: cs') H') := by
      have plain : (∀ id y, c ≠ .own id y) → frzL cs H (fun cs' H' => K (c :: cs') H') := by
       intro hne
       cases c <;> first | exact hv | (exact absurd rfl (hne _ _))
      by_cases hown : ∃ id y, c = .own id y
      ·obtain ⟨id, y, rfl⟩ := hown
       simp only [frzL] at hv
       split at hv
       ·rename_i x' el n es hH
        obtain ⟨rfl, hv⟩ := hv
        have hd := hst.drop id
        have hxe : x = x' := by cases hx.2; rfl
        subst hxe
        exact ⟨updH H id none, _, hd.1, hd.2, frz_row hst hH, hv⟩
       ·exact hv.elim
      ·exact ⟨H, c, hst, fun _ _ h => h, hx.2, plain (fun id y h => hown ⟨id, y, h⟩)⟩
     obtain ⟨H1, c', s1, m1, r1, v1⟩ := keep
     obtain ⟨cs', H', s2, m2, l2, c2, k2⟩ := ih H1 _ xs s1 hl (htl m1) v1
     refine ⟨c' :: cs', H', s2, fun y d h => m2 _ _ (m1 _ _ h), by simp [l2], fun k y e h1 h2 => ?_, k2⟩
     cases k with
     | zero => simp at h1 h2; subst h1; subst h2; exact ⟨hx.1, m2 _ _ r1⟩
     | succ k => simp at h1 h2; exact c2 k y e h1 h2

/-- A part of an exclusive slice that is given up. -/
theorem frz_sub (h : StW E tp H w) {id el n lo hi : Nat} {x q : Value} {es : List D} {I : Nat → Prop} (hr : H id = some (.row x el n es)) (hl : R tp (Imm E.O tp (updH H id none) w) w x (.list n es)) (hq : R tp I w q (.sub id x n lo hi)) :
 R tp (Imm E.O tp (updH H id none) w) w q (.list n ((es.take hi).drop lo)) := by
 cases hq with
 | subnil =>
   have : ((es.take 0).drop 0) = [] := by simp
   rw [this]
   exact .nolist _ _ _
 | sub _ b len cap _ _ _ p h1 h2 h3 hm hp =>
   cases hl with
   | nolist _ _ _ =>
     have e0 : hi - lo = 0 := by omega
     rw [e0, List.take_nil, List.drop_nil]
     exact .nolist _ _ _
   | list _ _ _ _ _ f hI hc hm' hn hcell hone hR =>
     by_cases hlc : lo < cap ∨ lo = 0
     ·have := list_cut hI hc hm' hn hcell hone hR h1 h2
      rw [hp hlc]
      simpa using this
     ·have e0 : hi - lo = 0 := by omega
      have e1 : (es.take hi).drop lo = [] := by
       apply List.eq_nil_of_length_eq_zero
       simp; omega
      rw [e0, e1]
      exact .nolist _ _ _

/-- The beginning of an exclusive slice, as an exclusive slice. -/
theorem reown (h : StW E tp H w) {id el n hi : Nat} {x q : Value} {es : List D} (hr : H id = some (.row x el n es)) (hq : R tp (Imm E.O tp H w) w q (.sub id x n 0 hi)) :
 q.oneCell' = true ∧ StW E tp (updH H id (some (.row q el n (es.take hi)))) w ∧ ∀ y e, R tp (Imm E.O tp H w) w y e → R tp (Imm E.O tp (updH H id (some (.row q el n (es.take hi)))) w) w y e := by
 obtain ⟨xs, ⟨g1, g2⟩, g3, g4⟩ := h.sat.ok id _ hr
 cases hq with
 | subnil =>
   refine ⟨rfl, h.own id _ (grownBy_refl w none) (fun b hb => by cases hb) (fun r b h1 h2 => by cases h1; simp [Res.blk, Value.ownBlock] at h2) (fun m r h1 => ?_)⟩
   cases h1
   rw [List.take_zero]
   exact ⟨[], World.ownsRow_nil _ _ _ _, by simp, fun k y c h => by simp at h⟩
 | sub _ b len cap _ _ _ p h1 h2 h3 hm hp =>
   have := hp (.inr rfl)
   subst this
   rcases g2 with ⟨h, _⟩ | ⟨g, cap', cur, h', g4', g5, g6, g7, g8, g9⟩
   ·cases h
   ·cases h'
    have hl : (es.take hi).length = hi := by simp; omega
    have hmul2 : hi * n ≤ es.length * n := Nat.mul_le_mul_right n h2
    refine ⟨rfl, h.own id _ (grownBy_refl w none) (fun b hb => by cases hb) (fun r b' h1 h2 => by cases h1; exact .inr ⟨_, hr, by simpa [Res.blk, Value.ownBlock] using h2⟩) (fun m r h1 => ?_)⟩
    cases h1
    refine ⟨xs.take (hi * n), ?_, fun d hd => g3 d (List.mem_of_mem_take hd), fun k y c hy hc => ?_⟩
    ·rw [hl]
     refine ⟨by rw [List.length_take, g1]; omega, .inr ⟨b, cap, cur, by simp, Nat.zero_le _, g5, by omega, g7, g8, ?_⟩⟩
     rw [← g9, List.take_take]
     congr 1
     omega
    ·rw [List.getElem?_take] at hy
     split at hy
     ·have := g4 k y c hy (flat_take_get hc)
      exact ⟨this.1, m _ _ this.2⟩
     ·cases hy

theorem frz_sound {t n : Nat} {K : Sg → HMap → Prop} (hst : St E σ H a w) (hv : frzVC t n σ H K) : ∃ σ' H', St E σ' H' a w ∧ K σ' H' := by
 obtain ⟨hd, hN, tp, hw, hr⟩ := hst
 have mk : ∀ (H' : HMap) (d : D), StW E tp H' w → (∀ x e, R tp (Imm E.O tp H w) w x e → R tp (Imm E.O tp H' w) w x e) → R tp (Imm E.O tp H' w) w (a.tmps.getD t undef) d → St E (upd σ t d) H' a w := by
  intro H' d h1 h2 h3
  refine ⟨hd, hN, tp, h1, fun s => ?_⟩
  unfold upd
  split
  ·rename_i h; subst h; exact h3
  ·exact h2 _ _ (hr s)
 have ht := hr t
 simp only [frzVC] at hv
 split at hv
 ·rename_i id x e1
  rw [e1] at ht
  split at hv
  ·rename_i x' el n' es hH
   obtain ⟨rfl, hk⟩ := hv
   have hm := hw.drop id
   have hxe : a.tmps.getD t undef = x' := by
    generalize a.tmps.getD t undef = q at ht
    cases ht; rfl
   refine ⟨_, _, ⟨hd, hN, tp, hm.1, fun s => ?_⟩, hk⟩
   have hs := hr s
   unfold frzG
   generalize a.tmps.getD s undef = q at hs ⊢
   cases hσ : σ s with
   | own i y =>
     rw [hσ] at hs
     simp only [frzD]
     split
     ·rename_i hiy
      obtain ⟨rfl, rfl⟩ := hiy
      cases hs
      exact frz_row hw hH
     ·exact hm.2 _ _ hs
   | _ => rw [hσ] at hs; exact hm.2 _ _ hs
  ·exact hv.elim
 ·rename_i id b off e1
  rw [e1] at ht
  split at hv
  ·rename_i b' cs hH
   obtain ⟨rfl, hk⟩ := hv
   have hm := hw.drop id
   have hxe : a.tmps.getD t undef = .pointer (some ⟨b', off, none⟩) := by
    generalize a.tmps.getD t undef = q at ht
    cases ht; rfl
   exact ⟨_, _, mk _ _ hm.1 hm.2 (by rw [hxe]; exact frz_box hw hH), hk⟩
  ·exact hv.elim
 ·rename_i e1
  rw [e1] at ht
  exact ⟨_, _, mk _ _ hw (fun _ _ h => h) (by rw [ht.inv_v]; exact .nolist _ _ _), hv⟩
 ·rename_i id x n' lo hi e1
  rw [e1] at ht
  split at hv
  ·rename_i x' el n'' es hH
   obtain ⟨hxe, rfl, hk⟩ := hv
   subst hxe
   split at hk
   ·obtain ⟨rfl, hk⟩ := hk
    obtain ⟨r1, r2, r3⟩ := reown hw hH ht
    exact ⟨_, _, mk _ _ r2 r3 (.own _ _ r1), hk _⟩
   ·have hm := hw.drop id
    exact ⟨_, _, mk _ _ hm.1 hm.2 (frz_sub hw hH (frz_row hw hH) ht), hk⟩
  ·exact hv.elim
 ·rename_i cs e1
  rw [e1] at ht
  obtain ⟨xs, hx, hl, hc⟩ := ht.inv_agg
  obtain ⟨cs', H', s1, m1, l1, c1, k1⟩ := frzL_sound cs H _ xs hw hl hc hv
  refine ⟨_, _, mk _ _ s1 m1 ?_, k1⟩
  rw [hx]
  refine .agg xs cs' l1 (fun x hx' => ?_) (fun k x c h1 h2 => (c1 k x c h1 h2).2)
  obtain ⟨k, hk⟩ := List.mem_iff_getElem?.1 hx'
  have hlt : k < cs'.length := by rw [← l1]; exact (List.getElem?_eq_some_iff.1 hk).1
  exact (c1 k x _ hk (List.getElem?_eq_getElem hlt)).1
 ·exact ⟨_, _, ⟨hd, hN, tp, hw, hr⟩, hv⟩

theorem yielded_true {ops : Array Oper} {j s : Nat} {t : Bool} (hr : R tp I w (a.tmps.getD s undef) (.v (.bool t))) (hj : (ops[j]?).bind (·.dst) = some s) : yielded ops a.tmps j = some t := by
 have h := hr.inv_v
 unfold yielded
 rw [hj]
 simp only [Option.bind_some]
 rw [Array.getD_eq_getD_getElem?] at h
 cases hq : a.tmps[s]? with
 | none => rw [hq] at h; simp [undef] at h
 | some q => rw [hq] at h; simp at h; subst h; rfl

theorem yielded_undef {ops : Array Oper} {j s : Nat} (hr : R tp I w (a.tmps.getD s undef) .undef) (hj : (ops[j]?).bind (·.dst) = some s) : yielded ops a.tmps j = none := by
 have h : a.tmps.getD s undef = undef := by
  generalize a.tmps.getD s undef = q at hr
  cases hr; rfl
 unfold yielded
 rw [hj]
 simp only [Option.bind_some]
 rw [Array.getD_eq_getD_getElem?] at h
 cases hq : a.tmps[s]? with
 | none => rfl
 | some q => rw [hq] at h; simp at h; subst h; rfl

theorem upd_self {s : Nat} {d : D} (h : σ s = d) : upd σ s d = σ := by
 funext t
 unfold upd
 split
 ·rename_i e; rw [e, h]
 ·rfl

/-- THE GUARD: is the operation wanted? -/
theorem guard_sound {ops : Array Oper} {o : Oper} {g : Option (Nat × Bool)} {yes no : Sg → Prop} (hg : guardOf ops o = some g) (hr : ∀ t, R tp I w (a.tmps.getD t undef) (σ t)) (hv : guardVC g σ yes no) :
 (Region.wanted o (yielded ops a.tmps) = true ∧ yes σ) ∨ (Region.wanted o (yielded ops a.tmps) = false ∧ no σ) := by
 unfold guardOf at hg
 cases ho : o.guard with
 | none =>
   rw [ho] at hg
   simp at hg
   subst hg
   exact .inl ⟨by simp [Region.wanted, ho], hv⟩
 | some jb =>
   obtain ⟨j, b⟩ := jb
   rw [ho] at hg
   obtain ⟨s, hs, rfl⟩ := opt_map_some hg
   simp only [guardVC] at hv
   have hrs := hr s
   split at hv
   ·rename_i t e1
    rw [e1] at hrs
    have hy := yielded_true hrs hs
    cases hb : (t == b) with
    | true =>
      have : t = b := by simpa using hb
      subst this
      refine .inl ⟨by simp [Region.wanted, ho, hy], ?_⟩
      have := hv.1 rfl
      rwa [upd_self e1] at this
    | false =>
      have hne : t = (!b) := by cases t <;> cases b <;> simp_all
      refine .inr ⟨by simp only [Region.wanted, ho, hy, hne]; cases b <;> rfl, ?_⟩
      have := hv.2 hne
      rw [← hne, upd_self e1] at this
      exact this
   ·rename_i e1
    rw [e1] at hrs
    have hy := yielded_undef hrs hs
    exact .inr ⟨by simp [Region.wanted, ho, hy], hv⟩
   ·exact hv.elim

theorem St.skip (hst : St E σ H a w) (dst : Option Nat) (hdst : ∀ t, dst = some t → t < E.N) : St E (updO σ dst .undef) H (a.put dst undef) w := by
 obtain ⟨hd, hN, tp, hw, hr⟩ := hst
 exact St.put hd hN hr ⟨hw, fun _ _ h => h⟩ dst hdst .undef

theorem dst_lt {N : Nat} {o : Oper} (h : o.dst.all (· < N) = true) : ∀ t, o.dst = some t → t < N := by
 intro t ht
 rw [ht] at h
 simpa using h

/-- OPERATIONS ONE AFTER THE OTHER. -/
theorem seq_sound {ops : Array Oper} {Q : Exit → Act → World → Prop} {K : Sg → HMap → Prop} {z : List PanicEntry → Prop} (hpan : ∀ c a w', a.defers = E.ds → PanS E z c w' → Q (.panic c) a w') (hQ : ∀ σ H a w, St E σ H a w → K σ H → Q .normal a w) :
 ∀ (cis : List CI) (hS : ∀ x ∈ cis, CallOkI P z S x) (l : List Oper), l.mapM (compileCI P im E.N ops) = some (cis.filter CI.real) → ∀ (σ : Sg) (H : HMap) (a : Act) (w : World), St E σ H a w → vcL S cis σ H K → wpList P ops Q l a w := by
 intro cis
 induction cis with
 | nil =>
   intro hS l hl σ H a w hst hv
   cases l with
   | nil => exact hQ σ H a w hst hv
   | cons o l =>
     rw [List.mapM_cons] at hl
     simp only [Option.bind_eq_bind, Option.bind_eq_some_iff, List.filter_nil] at hl
     obtain ⟨x, _, y, _, h⟩ := hl
     cases h
 | cons x cis ih =>
   intro hS l hl σ H a w hst hv
   have ih := ih fun x hx => hS x (by simp [hx])
   have hS0 := hS _ (List.mem_cons_self ..)
   cases x with
   | frz t n =>
     simp only [vcL] at hv
     obtain ⟨σ', H', hst', hv'⟩ := frz_sound hst hv
     exact ih l (by simpa [List.filter_cons, CI.real] using hl) σ' H' a w hst' hv'
   | op dst g c =>
     cases l with
     | nil => simp [List.filter_cons, CI.real] at hl
     | cons o l =>
       rw [List.mapM_cons] at hl
       simp only [Option.bind_eq_bind, Option.bind_eq_some_iff, List.filter_cons, CI.real, if_true] at hl
       obtain ⟨x, hx, y, hy, h⟩ := hl
       cases h
       unfold compileCI at hx
       simp only [Option.bind_eq_bind, Option.bind_eq_some_iff] at hx
       obtain ⟨c', hc, g', hg, hx⟩ := hx
       split at hx
       ·rename_i hdst
        cases hx
        have hdst := dst_lt hdst
        have hst0 := hst
        obtain ⟨hd, hN, tp, hw, hr⟩ := hst
        simp only [vcL] at hv
        unfold wpList
        rcases guard_sound hg hr hv with ⟨hwant, hyes⟩ | ⟨hwant, hno⟩
        ·rw [if_pos hwant]
         exact .inl (any_sound hS0 hc hw hd hN hr hdst hyes (fun c w' => hpan c a w' hd) (fun r H' x w' hk hst' => ih l hy _ _ _ _ hst' hk))
        ·rw [if_neg (by simp [hwant])]
         exact ih l hy _ _ _ _ (hst0.skip o.dst hdst) hno
       ·cases hx
end
end Go.Gv

namespace Go.Gv

def COp.ops : COp → List Operand
 | .mv x | .box _ _ x | .tbx _ x | .load _ _ x | .nilck x | .not x | .neg x | .conv _ x | .faddr _ x | .fld _ _ _ x | .ext x _ | .len x | .slen x => [x]
 | .pick c x y => [c, x, y]
 | .alloc _ _ | .nslice _ _ | .bad => []
 | .build _ ps => ps.map (·.2.2)
 | .bslice _ _ ps => ps
 | .mslice _ _ ps => ps
 | .store _ _ x y | .arith _ x y | .cmp _ x y | .eql _ _ _ x y | .scat x y | .iaddr _ x y | .sidx x y | .append _ _ _ _ x y => [x, y]
 | .clo _ xs | .mm _ xs | .call _ xs | .callb _ _ xs => xs
 | .appmk _ _ _ _ _ x y | .copy _ x y => [x, y]
 | .clear _ _ _ x | .cap x | .srange x | .snext x | .sbytes x | .bstr x | .mkif _ x => [x]
 | .mkslice _ _ _ _ _ l c => [l, c]
 | .slice _ x lo hi | .sslice x lo hi => x :: lo.toList ++ hi.toList
 | .callv f xs => f :: xs

/-- A contract that only gives memory of the caller's own: it changes no resource. -/
def IsFr (A : PT) : Prop := ∃ (p : List D → Prop) (o : Nat → List D → D → Res → Prop), ∀ (t : Nat) (ds : List D) (H : HMap) (K : D → HMap → Prop), A t ds H K ↔ (p ds ∧ ∀ d u, o t ds d u → K d (updH H t (some u)))
def preX (dst : Option Nat) (s : Spc) (args : List D) (H : HMap) (K : D → HMap → Prop) : Prop := match s with
 | .pure pc => pc.pre args ∧ ∀ r, pc.post args r → K r H
 | .gen A _ => match dst with
   | some t => IsFr A ∧ A t args H K
   | none => False
 | .none => False

/-- A contract that changes a box (r) alone, and asks for nothing else. -/
def IsBx (r : Nat) (A : PT) (args : List D) : Prop := ∃ (p : Option Res → Prop) (o : Option Res → D → Res → Prop), ∀ (t : Nat) (H : HMap) (K : D → HMap → Prop), A t args H K ↔ (p (H r) ∧ ∀ d u, o (H r) d u → K d (updH H r (some u)))
def preBx (r : Nat) (dst : Option Nat) (s : Spc) (args : List D) (H : HMap) (K : D → HMap → Prop) : Prop := match s with
 | .gen A _ => IsBx r A args ∧ A (dst.getD 0) args H K
 | _ => False

def preVC (S : Nat → Spc) (c : COp) (dst : Option Nat) (σ : Sg) (Hr H : HMap) (K : D → HMap → Prop) : Prop :=
 match c with
 | .call f args => preX dst (S f) (args.map (ev σ)) H K
 | .callb r f args => preBx r dst (S f) (args.map (ev σ)) H K
 | .callv f args => match ev σ f with
   | .clo g caps => match S g with
     | .pure pc => pc.pre (args.map (ev σ) ++ caps) ∧ ∀ r, pc.post (args.map (ev σ) ++ caps) r → K r H
     | _ => False
   | _ => False
 | .alloc el z => opVC (.alloc el z) dst σ H K
 | .box el false x => opVC (.box el false x) dst σ H K
 | .tbx el x => opVC (.tbx el x) dst σ H K
 | .nslice el n => opVC (.nslice el n) dst σ H K
 | .mslice el n ps => opVC (.mslice el n ps) dst σ H K
 | .mkslice el n b agg z l c => opVC (.mkslice el n b agg z l c) dst σ H K
 | .append rt el n b x y => srcVC n (ev σ y) Hr fun es2 => match rt with
   | none => match dst, ev σ x with
     | some t, .v (.slice none 0 0) => es2.length * b ≤ 140737488355328 ∧ es2.length ≤ 140737488355328 ∧ ∀ v, K (.own t v) (updH H t (some (.row v el n es2)))
     | _, _ => False
   | some r => match ev σ x with
     | .own id x => id = r ∧ match H r with
       | some (.row x' el' n' es) => x' = x ∧ el' = el ∧ n' = n ∧ (es.length + es2.length) * b ≤ 140737488355328 ∧ es.length + es2.length ≤ 140737488355328 ∧ ∀ v, K (.own r v) (updH H r (some (.row v el n (es ++ es2))))
       | _ => False
     | _ => False
 | .store rt sz x y => (ev σ y).kn = true ∧ (ev σ y).cells.length = sz ∧ match rt with
   | none => False
   | some r => match ev σ x with
     | .bptr id b off => id = r ∧ match H r with
       | some (.box b' cells) => b' = b ∧ off + sz ≤ cells.length ∧ K .undef (updH H r (some (.box b' (setAt cells off (ev σ y).cells))))
       | _ => False
     | .eptr id x n i off => id = r ∧ match H r with
       | some (.row x' el n' es) => x' = x ∧ n' = n ∧ 0 < n ∧ off + sz ≤ n ∧ i < es.length ∧ ∀ d, es[i]? = some d →
          K .undef (updH H r (some (.row x' el n' (es.set i (if off = 0 ∧ sz = n then ev σ y else .agg (setAt d.cells off (ev σ y).cells))))))
       | _ => False
     | _ => False
 | .clear .. | .copy .. | .srange .. | .snext .. => False
 | .appmk el n b agg z x c => opVC (.appmk el n b agg z x c) dst σ H K
 | c => readVC c σ Hr fun d => K d H

/-- The resource that it changes. -/
def COp.wid (c : COp) (dst : Option Nat) : Option Nat :=
 match c with
 | .append (some r) _ _ _ _ _ => some r
 | .store (some r) _ _ _ => some r
 | .callb r _ _ => some r
 | _ => dst
def CI.wid : CI → Option Nat
 | .op d _ c => c.wid d
 | .frz _ _ => none
/-- What may be read ahead of the mark while those behind it wait. -/
def maskH : List CI → HMap → HMap
 | [], H => H
 | .frz _ _ :: _, H => H
 | .op d g c :: l, H => fun i => if (CI.op d g c).wid = some i then none else maskH l H i
def vcPre (S : Nat → Spc) : List CI → Sg → HMap → HMap → (Sg → HMap → Prop) → Prop
 | [], σ, _, H, K => K σ H
 | .frz _ _ :: r, σ, Hr, H, K => vcPre S r σ (maskH r Hr) H K
 | .op dst g c :: r, σ, Hr, H, K => guardVC g σ (fun σ => preVC S c dst σ Hr H fun d H' => vcPre S r (updO σ dst d) Hr H' K) (fun σ => vcPre S r (updO σ dst .undef) Hr H K)

/-- The same without the guard's value written in. -/
def pOp (S : Nat → Spc) (x : CI) (σ : Sg) (Hr H : HMap) (K : D → HMap → Prop) : Prop :=
 match x with
 | .frz _ _ => False
 | .op dst g c => match g with
   | none => preVC S c dst σ Hr H K
   | some (s, b) => match σ s with
     | .v (.bool t) => (t = b → preVC S c dst σ Hr H K) ∧ (t = (!b) → K .undef H)
     | .undef => K .undef H
     | _ => False
def CI.dst : CI → Option Nat
 | .op d _ _ => d
 | .frz _ _ => none
def vcP (S : Nat → Spc) : List (CI × HMap) → Sg → HMap → (Sg → HMap → Prop) → Prop
 | [], σ, H, K => K σ H
 | x :: r, σ, H, K => pOp S x.1 σ x.2 H fun d H' => vcP S r (updO σ x.1.dst d) H' K

/-! ### What such an operation asks, and which outcomes it has, apart from what follows -/
def Lin (F : (D → Prop) → Prop) : Prop := ∃ (pre : Prop) (out : D → Prop), ∀ K, F K ↔ (pre ∧ ∀ d, out d → K d)

theorem lin_eval (d : D) : Lin fun K => K d := ⟨True, fun e => e = d, fun K => ⟨fun h => ⟨trivial, fun e he => he ▸ h⟩, fun h => h.2 d rfl⟩⟩
theorem lin_false : Lin fun _ => False := ⟨False, fun _ => True, fun K => ⟨fun h => h.elim, fun h => h.1⟩⟩
theorem lin_and {A : Prop} {F : (D → Prop) → Prop} (h : Lin F) : Lin fun K => A ∧ F K := by
 obtain ⟨pre, out, h⟩ := h
 exact ⟨A ∧ pre, out, fun K => by dsimp only; rw [h K, and_assoc]⟩
theorem lin_imp {A : Prop} {F : (D → Prop) → Prop} (h : Lin F) : Lin fun K => A → F K := by
 obtain ⟨pre, out, h⟩ := h
 refine ⟨A → pre, fun d => A ∧ out d, fun K => ?_⟩
 constructor
 ·intro hf
  exact ⟨fun ha => ((h K).1 (hf ha)).1, fun d hd => ((h K).1 (hf hd.1)).2 d hd.2⟩
 ·intro hf ha
  exact (h K).2 ⟨hf.1 ha, fun d hd => hf.2 d ⟨ha, hd⟩⟩
theorem lin_all {α : Type} {F : α → (D → Prop) → Prop} (h : ∀ x, Lin (F x)) : Lin fun K => ∀ x, F x K := by
 have h' : ∀ x, ∃ (p : Prop × (D → Prop)), ∀ K, F x K ↔ (p.1 ∧ ∀ d, p.2 d → K d) := fun x => by
  obtain ⟨pre, out, hx⟩ := h x
  exact ⟨(pre, out), hx⟩
 obtain ⟨p, hp⟩ := Classical.axiomOfChoice h'
 refine ⟨∀ x, (p x).1, fun d => ∃ x, (p x).2 d, fun K => ?_⟩
 constructor
 ·intro hf
  exact ⟨fun x => ((hp x K).1 (hf x)).1, fun d ⟨x, hx⟩ => ((hp x K).1 (hf x)).2 d hx⟩
 ·intro hf x
  exact (hp x K).2 ⟨hf.1 x, fun d hd => hf.2 d ⟨x, hd⟩⟩
theorem lin_conj {F G : (D → Prop) → Prop} (h1 : Lin F) (h2 : Lin G) : Lin fun K => F K ∧ G K := by
 obtain ⟨p1, o1, h1⟩ := h1
 obtain ⟨p2, o2, h2⟩ := h2
 refine ⟨p1 ∧ p2, fun d => o1 d ∨ o2 d, fun K => ?_⟩
 dsimp only
 rw [h1 K, h2 K]
 constructor
 ·rintro ⟨⟨a, b⟩, c, d⟩
  exact ⟨⟨a, c⟩, fun e he => he.elim (b e) (d e)⟩
 ·rintro ⟨⟨a, c⟩, b⟩
  exact ⟨⟨a, fun e he => b e (.inl he)⟩, c, fun e he => b e (.inr he)⟩

theorem lin_build (σ : Sg) : ∀ (ps : List (Nat × Nat × Operand)) (cs : List D), Lin fun K => buildVC σ ps cs fun cs => K (.agg cs)
 | [], cs => lin_eval _
 | (off, sz, x) :: r, cs => lin_and (lin_and (lin_build σ r _))

theorem lin_arith (op : BinOp) (k : IntKind) (a b : Int) : Lin fun K => arithVC op k a b K := by
 cases op <;> simp only [arithVC] <;> first
  | exact lin_false
  | exact lin_and (lin_eval _)
  | exact lin_and (lin_and (lin_eval _))

theorem lin_cut (lo hi : Option (Option (IntKind × Int))) (len : Nat) (f : Nat → Nat → D) : Lin fun K => cutVC lo hi len fun l h => K (f l h) := by
 unfold cutVC
 split <;> first
  | exact lin_eval _
  | exact lin_and (lin_and (lin_eval _))
  | exact lin_and (lin_and (lin_and (lin_eval _)))
  | exact lin_false

theorem lin_read (c : COp) (σ : Sg) (Hr : HMap) : Lin fun K => readVC c σ Hr K := by
 unfold readVC
 split <;> first
  | exact lin_eval _
  | exact lin_false
  | exact lin_build σ _ _
  | exact lin_and (lin_eval _)
  | skip
 all_goals
  (repeat' split) <;> first
    | exact lin_eval _
    | exact lin_false
    | exact lin_conj (lin_imp (lin_eval _)) (lin_imp (lin_eval _))
    | exact lin_and (lin_eval _)
    | exact lin_and (lin_and (lin_eval _))
    | exact lin_and (lin_and (lin_and (lin_eval _)))
    | exact lin_and (lin_and (lin_and (lin_and (lin_eval _))))
    | exact lin_and (lin_and (lin_and (lin_and (lin_all fun _ => lin_imp (lin_eval _)))))
    | exact lin_and (lin_and (lin_and (lin_all fun _ => lin_imp (lin_eval _))))
    | exact lin_and (lin_and (lin_all fun _ => lin_imp (lin_eval _)))
    | exact lin_and (lin_arith _ _ _ _)
    | exact lin_imp (lin_eval _)
    | exact lin_and (lin_imp (lin_eval _))
    | exact lin_and lin_false
    | exact lin_and (lin_and (lin_cut _ _ _ _))
    | exact lin_and (lin_cut _ _ _ _)
    | exact lin_cut _ _ _ fun _ _ => _
    | skip

def appU (H : HMap) (dst : Option Nat) (u : Option Res) : HMap :=
 match dst, u with
 | some t, some r => updH H t (some r)
 | _, _ => H

def LinU0 (dst : Option Nat) (F : HMap → (D → HMap → Prop) → Prop) : Prop :=
 ∃ (pre : Prop) (out : D → Option Res → Prop), ∀ H K, F H K ↔ (pre ∧ ∀ d u, out d u → K d (appU H dst u))

def rdH (H : HMap) : Option Nat → Option Res
 | some t => H t
 | none => none
def LinU (wid : Option Nat) (F : HMap → (D → HMap → Prop) → Prop) : Prop :=
 ∀ r0, ∃ (pre : Prop) (out : D → Option Res → Prop), ∀ H, rdH H wid = r0 → ∀ K, F H K ↔ (pre ∧ ∀ d u, out d u → K d (appU H wid u))
theorem LinU0.lin {dst : Option Nat} {F : HMap → (D → HMap → Prop) → Prop} (h : LinU0 dst F) : LinU dst F := fun _ => by
 obtain ⟨pre, out, h⟩ := h
 exact ⟨pre, out, fun H _ K => h H K⟩

theorem appU_none (H : HMap) (dst : Option Nat) : appU H dst none = H := by cases dst <;> rfl

theorem linU_of {dst : Option Nat} {G : (D → Prop) → Prop} (h : Lin G) : LinU0 dst fun H K => G fun d => K d H := by
 obtain ⟨pre, out, h⟩ := h
 refine ⟨pre, fun d u => out d ∧ u = none, fun H K => ?_⟩
 dsimp only
 rw [h]
 constructor
 ·rintro ⟨a, b⟩
  exact ⟨a, fun d u ⟨h1, h2⟩ => by subst h2; rw [appU_none]; exact b d h1⟩
 ·rintro ⟨a, b⟩
  exact ⟨a, fun d h1 => by have := b d none ⟨h1, rfl⟩; rwa [appU_none] at this⟩

theorem linU_false (dst : Option Nat) : LinU0 dst fun _ _ => False := ⟨False, fun _ _ => True, fun _ _ => ⟨fun h => h.elim, fun h => h.1⟩⟩

theorem linU_new {t : Nat} {α : Type} {A : Prop} (f : α → D) (r : α → Res) : LinU0 (some t) fun H K => A ∧ ∀ b, K (f b) (updH H t (some (r b))) := by
 refine ⟨A, fun d u => ∃ b, d = f b ∧ u = some (r b), fun H K => ?_⟩
 constructor
 ·rintro ⟨a, h⟩
  exact ⟨a, fun d u ⟨b, h1, h2⟩ => by subst h1; subst h2; exact h b⟩
 ·rintro ⟨a, h⟩
  exact ⟨a, fun b => h _ _ ⟨b, rfl, rfl⟩⟩

theorem LinU0.congr {dst : Option Nat} {F G : HMap → (D → HMap → Prop) → Prop} (h : LinU0 dst F) (hfg : ∀ H K, G H K ↔ F H K) : LinU0 dst G := by
 obtain ⟨pre, out, h⟩ := h
 exact ⟨pre, out, fun H K => (hfg H K).trans (h H K)⟩

theorem preVC_read {S : Nat → Spc} {c : COp} {dst : Option Nat} {σ : Sg} {Hr H : HMap} {K : D → HMap → Prop} (h : c.isRead = true) : preVC S c dst σ Hr H K ↔ readVC c σ Hr fun d => K d H := by
 cases c <;> first | exact Iff.rfl | (simp [COp.isRead] at h; done) | skip
 rename_i el im x
 cases im
 ·simp [COp.isRead] at h
 ·exact Iff.rfl

theorem linU_src {dst : Option Nat} {n : Nat} {d : D} {Hr : HMap} {F : List D → HMap → (D → HMap → Prop) → Prop} (h : ∀ es, LinU0 dst (F es)) : LinU0 dst fun H K => srcVC n d Hr fun es => F es H K := by
 have conj : ∀ {A : Prop} {G : HMap → (D → HMap → Prop) → Prop}, LinU0 dst G → LinU0 dst fun H K => A ∧ G H K := fun {A G} h => by
  obtain ⟨pre, out, h⟩ := h
  exact ⟨A ∧ pre, out, fun H K => by dsimp only; rw [h H K, and_assoc]⟩
 unfold srcVC
 split
 ·exact conj (h _)
 ·split
  ·exact conj (conj (h _))
  ·exact linU_false _
 ·exact h _
 ·split
  ·exact conj (conj (conj (h _)))
  ·exact linU_false _
 ·exact linU_false _

theorem linR_src {wid : Option Nat} {n : Nat} {d : D} {Hr : HMap} {r0 : Option Res} {F : List D → HMap → (D → HMap → Prop) → Prop}
 (h : ∀ es, ∃ (pre : Prop) (out : D → Option Res → Prop), ∀ H, rdH H wid = r0 → ∀ K, F es H K ↔ (pre ∧ ∀ d u, out d u → K d (appU H wid u))) :
 ∃ (pre : Prop) (out : D → Option Res → Prop), ∀ H, rdH H wid = r0 → ∀ K, (srcVC n d Hr fun es => F es H K) ↔ (pre ∧ ∀ d u, out d u → K d (appU H wid u)) := by
 have conj : ∀ {A : Prop} {G : HMap → (D → HMap → Prop) → Prop}, (∃ (pre : Prop) (out : D → Option Res → Prop), ∀ H, rdH H wid = r0 → ∀ K, G H K ↔ (pre ∧ ∀ d u, out d u → K d (appU H wid u))) →
  ∃ (pre : Prop) (out : D → Option Res → Prop), ∀ H, rdH H wid = r0 → ∀ K, (A ∧ G H K) ↔ (pre ∧ ∀ d u, out d u → K d (appU H wid u)) := fun {A G} h => by
  obtain ⟨pre, out, h⟩ := h
  exact ⟨A ∧ pre, out, fun H hr K => by rw [h H hr K, and_assoc]⟩
 have no : ∃ (pre : Prop) (out : D → Option Res → Prop), ∀ H, rdH H wid = r0 → ∀ K : D → HMap → Prop, False ↔ (pre ∧ ∀ d u, out d u → K d (appU H wid u)) := ⟨False, fun _ _ => True, fun _ _ _ => ⟨fun h => h.elim, fun h => h.1⟩⟩
 unfold srcVC
 split
 ·exact conj (h _)
 ·split
  ·exact conj (conj (h _))
  ·exact no
 ·exact h _
 ·split
  ·exact conj (conj (conj (h _)))
  ·exact no
 ·exact no

theorem linU_pre0 (S : Nat → Spc) (c : COp) (dst : Option Nat) (σ : Sg) (Hr : HMap) (hna : ∀ r el n b x y, c ≠ .append (some r) el n b x y) (hns : ∀ r sz x y, c ≠ .store (some r) sz x y) (hnb : ∀ r f args, c ≠ .callb r f args) : LinU0 dst fun H K => preVC S c dst σ Hr H K := by
 by_cases hro : c.isRead = true
 ·exact (linU_of (lin_read c σ Hr)).congr fun H K => preVC_read hro
 cases c
 case call f args =>
  simp only [preVC]
  cases S f with
  | pure pc => exact linU_of (G := fun K => pc.pre (args.map (ev σ)) ∧ ∀ r, pc.post (args.map (ev σ)) r → K r) (lin_and (lin_all fun r => lin_imp (lin_eval r)))
  | none => exact linU_false dst
  | gen A hA =>
    cases dst with
    | none => exact linU_false none
    | some t =>
      by_cases hf : IsFr A
      ·obtain ⟨p, o, h⟩ := id hf
       refine ⟨p (args.map (ev σ)), fun d u => ∃ u', u = some u' ∧ o t (args.map (ev σ)) d u', fun H K => ?_⟩
       simp only [preX]
       rw [h t]
       constructor
       ·rintro ⟨_, a, b⟩
        exact ⟨a, fun d u ⟨u', e, h1⟩ => by subst e; exact b d u' h1⟩
       ·rintro ⟨a, b⟩
        exact ⟨hf, a, fun d u h1 => b d (some u) ⟨u, rfl, h1⟩⟩
      ·exact (linU_false (some t)).congr fun H K => ⟨fun h => hf h.1, fun h => h.elim⟩
 case callb r f args => exact absurd rfl (hnb r f args)
 case callv f args =>
  simp only [preVC]
  split
  ·rename_i g caps _
   split
   ·rename_i pc _
    exact linU_of (G := fun K => pc.pre (args.map (ev σ) ++ caps) ∧ ∀ r, pc.post (args.map (ev σ) ++ caps) r → K r) (lin_and (lin_all fun r => lin_imp (lin_eval r)))
   ·exact linU_false dst
  ·exact linU_false dst
 case alloc el z =>
  cases dst with
  | none => simp only [preVC, opVC]; exact linU_false _
  | some t => exact (linU_new (t := t) (A := True) (fun b => D.bptr t b 0) (fun b => Res.box b (z.map cst))).congr (fun H K => by simp only [preVC, opVC, true_and])
 case box el im x =>
  cases im with
  | true => exact absurd rfl hro
  | false =>
    cases dst with
    | none => simp only [preVC, opVC]; exact linU_false _
    | some t => exact (linU_new (t := t) (A := (ev σ x).kn = true) (fun b => D.bptr t b 0) (fun b => Res.box b (ev σ x).cells)).congr (fun H K => by simp only [preVC, opVC])
 case tbx el x =>
  cases dst with
  | none => simp only [preVC, opVC]; exact linU_false _
  | some t => exact (linU_new (t := t) (A := (ev σ x).kn = true) (fun b => D.bptr t b 0) (fun b => Res.tbox el b (ev σ x).cells)).congr (fun H K => by simp only [preVC, opVC])
 case nslice el n =>
  cases dst with
  | none => simp only [preVC, opVC]; exact linU_false _
  | some t => exact (linU_new (t := t) (A := True) (fun x => D.own t x) (fun x => Res.row x el n [])).congr (fun H K => by simp only [preVC, opVC, true_and])
 case mslice el n ps =>
  cases dst with
  | none => simp only [preVC, opVC]; exact linU_false _
  | some t => exact (linU_new (t := t) (A := partsVC n (ps.map (ev σ))) (fun x => D.own t x) (fun x => Res.row x el n (ps.map (ev σ)))).congr (fun H K => by simp only [preVC, opVC])
 case mkslice el n b agg z l cc =>
  cases dst with
  | none => simp only [preVC, opVC]; exact linU_false _
  | some t =>
    simp only [preVC, opVC]
    split
    ·rename_i e1 e2
     rename_i k1 l' k2 c'
     exact (linU_new (t := t) (A := 0 ≤ l' ∧ l' ≤ c' ∧ b * c' ≤ 140737488355328 ∧ c' ≤ 140737488355328) (fun x => D.own t x) (fun x => Res.row x el n (List.replicate l'.toNat (if agg then .agg (z.map cst) else cst (z.headD (.bool false)))))).congr (fun H K => by simp only [and_assoc])
    ·exact linU_false _
 case store rt sz x y =>
  cases rt with
  | some r => exact absurd rfl (hns r sz x y)
  | none => exact (linU_false dst).congr fun H K => ⟨fun h => h.2.2.elim, fun h => h.elim⟩
 case srange x => exact linU_false dst
 case snext x => exact linU_false dst
 case append rt el n b x y =>
  cases rt with
  | some r => exact absurd rfl (hna r el n b x y)
  | none =>
    simp only [preVC]
    refine linU_src fun es2 => ?_
    split
    ·rename_i t _
     exact (linU_new (t := t) (A := es2.length * b ≤ 140737488355328 ∧ es2.length ≤ 140737488355328) (fun v => D.own t v) (fun v => Res.row v el n es2)).congr (fun H K => by simp only [and_assoc])
    ·exact linU_false _
 case clear n agg z x => exact linU_false dst
 case copy n x y => exact linU_false dst
 case appmk el n b agg z x c =>
  simp only [preVC, opVC]
  split
  ·cases dst with
   | none => exact linU_false _
   | some t =>
     cases hc : asI (ev σ c) with
     | none => exact linU_false _
     | some p =>
       obtain ⟨k, c'⟩ := p
       exact (linU_new (t := t) (A := 0 ≤ c' ∧ c' * b ≤ 140737488355328 ∧ c' ≤ 140737488355328) (fun x => D.own t x) (fun x => Res.row x el n (List.replicate c'.toNat (zEl agg z)))).congr (fun H K => by simp only [and_assoc])
  ·exact linU_false _
 all_goals exact absurd rfl hro

theorem linU_pre (S : Nat → Spc) (c : COp) (dst : Option Nat) (σ : Sg) (Hr : HMap) : LinU (c.wid dst) fun H K => preVC S c dst σ Hr H K := by
 by_cases h : ∃ r el n b x y, c = .append (some r) el n b x y
 ·obtain ⟨r, el, n, b, x, y, rfl⟩ := h
  intro r0
  simp only [preVC, COp.wid]
  refine linR_src fun es2 => ?_
  cases ev σ x with
  | own id v =>
    cases r0 with
    | none =>
      refine ⟨False, fun _ _ => True, fun H hr K => ?_⟩
      have hr : H r = none := hr
      rw [hr]
      exact ⟨fun h => h.2.elim, fun h => h.1.elim⟩
    | some q =>
      cases q with
      | box b' cs =>
        refine ⟨False, fun _ _ => True, fun H hr K => ?_⟩
        have hr : H r = some (.box b' cs) := hr
        rw [hr]
        exact ⟨fun h => h.2.elim, fun h => h.1.elim⟩
      | iter b' s' p' =>
        refine ⟨False, fun _ _ => True, fun H hr K => ?_⟩
        have hr : H r = some (.iter b' s' p') := hr
        rw [hr]
        exact ⟨fun h => h.2.elim, fun h => h.1.elim⟩
      | tbox b' s' p' =>
        refine ⟨False, fun _ _ => True, fun H hr K => ?_⟩
        have hr : H r = some (.tbox b' s' p') := hr
        rw [hr]
        exact ⟨fun h => h.2.elim, fun h => h.1.elim⟩
      | row x' el' n' es =>
        refine ⟨id = r ∧ x' = v ∧ el' = el ∧ n' = n ∧ (es.length + es2.length) * b ≤ 140737488355328 ∧ es.length + es2.length ≤ 140737488355328, fun d u => ∃ v, d = .own r v ∧ u = some (.row v el n (es ++ es2)), fun H hr K => ?_⟩
        have hr : H r = some (.row x' el' n' es) := hr
        rw [hr]
        constructor
        ·rintro ⟨h1, h2, h3, h4, h5, h6, h7⟩
         exact ⟨⟨h1, h2, h3, h4, h5, h6⟩, fun d u ⟨v, e1, e2⟩ => by subst e1; subst e2; exact h7 v⟩
        ·rintro ⟨⟨h1, h2, h3, h4, h5, h6⟩, h7⟩
         exact ⟨h1, h2, h3, h4, h5, h6, fun v => h7 _ _ ⟨v, rfl, rfl⟩⟩
  | _ => exact ⟨False, fun _ _ => True, fun H hr K => ⟨fun h => h.elim, fun h => h.1.elim⟩⟩
 ·by_cases hs : ∃ r sz x y, c = .store (some r) sz x y
  ·obtain ⟨r, sz, x, y, rfl⟩ := hs
   intro r0
   simp only [preVC, COp.wid]
   have no : ∃ (pre : Prop) (out : D → Option Res → Prop), ∀ H, rdH H (some r) = r0 → ∀ K : D → HMap → Prop, False ↔ (pre ∧ ∀ d u, out d u → K d (appU H (some r) u)) := ⟨False, fun _ _ => True, fun _ _ _ => ⟨fun h => h.elim, fun h => h.1⟩⟩
   have conj : ∀ {A : Prop} {G : HMap → (D → HMap → Prop) → Prop}, (∃ (pre : Prop) (out : D → Option Res → Prop), ∀ H, rdH H (some r) = r0 → ∀ K, G H K ↔ (pre ∧ ∀ d u, out d u → K d (appU H (some r) u))) →
    ∃ (pre : Prop) (out : D → Option Res → Prop), ∀ H, rdH H (some r) = r0 → ∀ K, (A ∧ G H K) ↔ (pre ∧ ∀ d u, out d u → K d (appU H (some r) u)) := fun {A G} h => by
    obtain ⟨pre, out, h⟩ := h
    exact ⟨A ∧ pre, out, fun H hr K => by rw [h H hr K, and_assoc]⟩
   refine conj (conj ?_)
   cases ev σ x with
   | bptr id b off =>
     refine conj ?_
     cases r0 with
     | none =>
       refine ⟨False, fun _ _ => True, fun H hr K => ?_⟩
       have hr : H r = none := hr
       rw [hr]
       exact ⟨fun h => h.elim, fun h => h.1.elim⟩
     | some q =>
       cases q with
       | box b' cs =>
         refine ⟨b' = b ∧ off + sz ≤ cs.length, fun d u => d = .undef ∧ u = some (.box b' (setAt cs off (ev σ y).cells)), fun H hr K => ?_⟩
         have hr : H r = some (.box b' cs) := hr
         rw [hr]
         constructor
         ·rintro ⟨h1, h2, h3⟩
          exact ⟨⟨h1, h2⟩, fun d u ⟨e1, e2⟩ => by subst e1; subst e2; exact h3⟩
         ·rintro ⟨⟨h1, h2⟩, h3⟩
          exact ⟨h1, h2, h3 _ _ ⟨rfl, rfl⟩⟩
       | row x' el' n' es =>
         refine ⟨False, fun _ _ => True, fun H hr K => ?_⟩
         have hr : H r = some (.row x' el' n' es) := hr
         rw [hr]
         exact ⟨fun h => h.elim, fun h => h.1.elim⟩
       | iter b' s' p' =>
         refine ⟨False, fun _ _ => True, fun H hr K => ?_⟩
         have hr : H r = some (.iter b' s' p') := hr
         rw [hr]
         exact ⟨fun h => h.elim, fun h => h.1.elim⟩
       | tbox b' s' p' =>
         refine ⟨False, fun _ _ => True, fun H hr K => ?_⟩
         have hr : H r = some (.tbox b' s' p') := hr
         rw [hr]
         exact ⟨fun h => h.elim, fun h => h.1.elim⟩
   | eptr id v n i off =>
     refine conj ?_
     cases r0 with
     | none =>
       refine ⟨False, fun _ _ => True, fun H hr K => ?_⟩
       have hr : H r = none := hr
       rw [hr]
       exact ⟨fun h => h.elim, fun h => h.1.elim⟩
     | some q =>
       cases q with
       | row x' el' n' es =>
         refine ⟨x' = v ∧ n' = n ∧ 0 < n ∧ off + sz ≤ n ∧ i < es.length, fun d u => d = .undef ∧ ∃ e, es[i]? = some e ∧ u = some (.row x' el' n' (es.set i (if off = 0 ∧ sz = n then ev σ y else .agg (setAt e.cells off (ev σ y).cells)))), fun H hr K => ?_⟩
         have hr : H r = some (.row x' el' n' es) := hr
         rw [hr]
         constructor
         ·rintro ⟨h1, h2, h3, h4, h5, h6⟩
          exact ⟨⟨h1, h2, h3, h4, h5⟩, fun d u ⟨e1, e, e2, e3⟩ => by subst e1; subst e3; exact h6 e e2⟩
         ·rintro ⟨⟨h1, h2, h3, h4, h5⟩, h6⟩
          exact ⟨h1, h2, h3, h4, h5, fun e he => h6 _ _ ⟨rfl, e, he, rfl⟩⟩
       | box b' cs =>
         refine ⟨False, fun _ _ => True, fun H hr K => ?_⟩
         have hr : H r = some (.box b' cs) := hr
         rw [hr]
         exact ⟨fun h => h.elim, fun h => h.1.elim⟩
       | iter b' s' p' =>
         refine ⟨False, fun _ _ => True, fun H hr K => ?_⟩
         have hr : H r = some (.iter b' s' p') := hr
         rw [hr]
         exact ⟨fun h => h.elim, fun h => h.1.elim⟩
       | tbox b' s' p' =>
         refine ⟨False, fun _ _ => True, fun H hr K => ?_⟩
         have hr : H r = some (.tbox b' s' p') := hr
         rw [hr]
         exact ⟨fun h => h.elim, fun h => h.1.elim⟩
   | _ => exact no
  by_cases hb : ∃ r f args, c = .callb r f args
  ·obtain ⟨r, f, args, rfl⟩ := hb
   intro r0
   simp only [preVC, COp.wid]
   have no : ∃ (pre : Prop) (out : D → Option Res → Prop), ∀ H, rdH H (some r) = r0 → ∀ K : D → HMap → Prop, False ↔ (pre ∧ ∀ d u, out d u → K d (appU H (some r) u)) := ⟨False, fun _ _ => True, fun _ _ _ => ⟨fun h => h.elim, fun h => h.1⟩⟩
   cases hs : S f with
   | none => exact no
   | pure pc => exact no
   | gen A hA =>
     by_cases hx : IsBx r A (args.map (ev σ))
     ·obtain ⟨p, o, h⟩ := id hx
      refine ⟨p r0, fun d u => ∃ u', u = some u' ∧ o r0 d u', fun H hr K => ?_⟩
      have hr : H r = r0 := hr
      simp only [preBx]
      rw [h, hr]
      constructor
      ·rintro ⟨_, a, b⟩
       exact ⟨a, fun d u ⟨u', e, h1⟩ => by subst e; exact b d u' h1⟩
      ·rintro ⟨a, b⟩
       exact ⟨hx, a, fun d u h1 => b d (some u) ⟨u, rfl, h1⟩⟩
     ·exact ⟨False, fun _ _ => True, fun H _ K => ⟨fun h => absurd h.1 hx, fun h => h.1.elim⟩⟩
  have hw : c.wid dst = dst := by
   cases c
   case callb r f args => exact absurd ⟨r, f, args, rfl⟩ hb
   case append rt el n b x y =>
    cases rt with
    | none => rfl
    | some r => exact absurd ⟨r, el, n, b, x, y, rfl⟩ h
   case store rt sz x y =>
    cases rt with
    | none => rfl
    | some r => exact absurd ⟨r, sz, x, y, rfl⟩ hs
   all_goals rfl
  rw [hw]
  exact (linU_pre0 S c dst σ Hr (fun r el n b x y e => h ⟨r, el, n, b, x, y, e⟩) (fun r sz x y e => hs ⟨r, sz, x, y, e⟩) (fun r f args e => hb ⟨r, f, args, e⟩)).lin

theorem linU_pOp (S : Nat → Spc) (x : CI) (σ : Sg) (Hr : HMap) : LinU x.wid fun H K => pOp S x σ Hr H K := by
 cases x with
 | frz t n => exact (linU_false _).lin
 | op dst g c =>
   intro r0
   obtain ⟨pre, out, h⟩ := linU_pre S c dst σ Hr r0
   have h' : ∀ H, rdH H (c.wid dst) = r0 → ∀ K, preVC S c dst σ Hr H K ↔ (pre ∧ ∀ d u, out d u → K d (appU H (c.wid dst) u)) := h
   cases g with
   | none => exact ⟨pre, out, h⟩
   | some sb =>
     obtain ⟨s, b⟩ := sb
     simp only [pOp, CI.wid]
     split
     ·rename_i t e1
      refine ⟨t = b → pre, fun d u => (t = b ∧ out d u) ∨ (t = (!b) ∧ d = .undef ∧ u = none), fun H hr K => ?_⟩
      rw [h' H hr K]
      constructor
      ·rintro ⟨h1, h2⟩
       refine ⟨fun e => (h1 e).1, fun d u hd => ?_⟩
       rcases hd with ⟨e, hd⟩ | ⟨e, rfl, rfl⟩
       ·exact (h1 e).2 d u hd
       ·rw [appU_none]; exact h2 e
      ·rintro ⟨h1, h2⟩
       refine ⟨fun e => ⟨h1 e, fun d u hd => h2 d u (.inl ⟨e, hd⟩)⟩, fun e => ?_⟩
       have := h2 .undef none (.inr ⟨e, rfl, rfl⟩)
       rwa [appU_none] at this
     ·exact ⟨True, fun d u => d = .undef ∧ u = none, fun H _ K => ⟨fun h => ⟨trivial, fun d u ⟨h1, h2⟩ => by subst h1; subst h2; rw [appU_none]; exact h⟩, fun h => by have := h.2 .undef none ⟨rfl, rfl⟩; rwa [appU_none] at this⟩⟩
     ·exact (linU_false _).lin r0

/-! ### It looks at its operands alone -/
theorem buildVC_congr {σ σ' : Sg} : ∀ (ps : List (Nat × Nat × Operand)) (cs : List D) (K : List D → Prop), (∀ x ∈ ps.map (·.2.2), ev σ x = ev σ' x) → (buildVC σ ps cs K ↔ buildVC σ' ps cs K)
 | [], cs, K, _ => Iff.rfl
 | (off, sz, x) :: r, cs, K, h => by
  have hx := h x (by simp)
  simp only [buildVC, hx]
  rw [buildVC_congr r _ K (fun y hy => h y (by simp at hy ⊢; exact .inr hy))]

theorem read_congr {c : COp} {σ σ' : Sg} {Hr : HMap} {K : D → Prop} (h : ∀ x ∈ c.ops, ev σ x = ev σ' x) : readVC c σ Hr K ↔ readVC c σ' Hr K := by
 cases c
 case build z ps => simp only [readVC]; exact buildVC_congr ps _ _ h
 case box el im x => cases im <;> simp only [readVC]; rw [h x (by simp [COp.ops])]
 case bslice el n ps =>
  have h' : ∀ x ∈ ps, ev σ x = ev σ' x := h
  simp only [readVC]; rw [List.map_congr_left h']
 case clo f caps =>
  have h' : ∀ x ∈ caps, ev σ x = ev σ' x := h
  simp only [readVC]; rw [List.map_congr_left h']
 case slice n x lo hi =>
  simp only [readVC]
  rw [h x (by simp [COp.ops])]
  have h1 : lo.map (fun o => asI (ev σ o)) = lo.map (fun o => asI (ev σ' o)) := by cases lo <;> simp; rw [h _ (by simp [COp.ops])]
  have h2 : hi.map (fun o => asI (ev σ o)) = hi.map (fun o => asI (ev σ' o)) := by cases hi <;> simp; rw [h _ (by simp [COp.ops])]
  rw [h1, h2]
 case sslice x lo hi =>
  simp only [readVC]
  rw [h x (by simp [COp.ops])]
  have h1 : lo.map (fun o => asI (ev σ o)) = lo.map (fun o => asI (ev σ' o)) := by cases lo <;> simp; rw [h _ (by simp [COp.ops])]
  have h2 : hi.map (fun o => asI (ev σ o)) = hi.map (fun o => asI (ev σ' o)) := by cases hi <;> simp; rw [h _ (by simp [COp.ops])]
  rw [h1, h2]
 case mm mx xs =>
  match xs with
  | [] => simp [readVC]
  | [x] => simp [readVC]
  | [x, y] => simp only [readVC]; rw [h x (by simp [COp.ops]), h y (by simp [COp.ops])]
  | [x, y, z] => simp only [readVC]; rw [h x (by simp [COp.ops]), h y (by simp [COp.ops]), h z (by simp [COp.ops])]
  | _ :: _ :: _ :: _ :: _ => simp [readVC]
 case pick q x y => simp only [readVC]; rw [h q (by simp [COp.ops]), h x (by simp [COp.ops]), h y (by simp [COp.ops])]
 all_goals simp only [readVC]
 all_goals first
  | (rename_i x; rw [h x (by simp [COp.ops])]; done)
  | (rename_i x y; rw [h x (by simp [COp.ops]), h y (by simp [COp.ops])]; done)
  | (rename_i x i; rw [h x (by simp [COp.ops])]; done)
  | skip

theorem pre_congr {S : Nat → Spc} {c : COp} {dst : Option Nat} {σ σ' : Sg} {Hr H : HMap} {K : D → HMap → Prop} (h : ∀ x ∈ c.ops, ev σ x = ev σ' x) : preVC S c dst σ Hr H K ↔ preVC S c dst σ' Hr H K := by
 cases c
 case call f args =>
  simp only [preVC]
  rw [List.map_congr_left (fun x hx => h x (by simpa [COp.ops] using hx))]
 case callv f args =>
  simp only [preVC]
  rw [h f (by simp [COp.ops]), List.map_congr_left (fun x hx => h x (by simp [COp.ops, hx]))]
 case callb r f args =>
  simp only [preVC]
  rw [List.map_congr_left (fun x hx => h x (by simpa [COp.ops] using hx))]
 case alloc el z => exact Iff.rfl
 case box el im x =>
  cases im with
  | true => exact (preVC_read rfl).trans ((read_congr h).trans (preVC_read rfl).symm)
  | false => simp only [preVC, opVC]; rw [h x (by simp [COp.ops])]
 case tbx el x => simp only [preVC, opVC]; rw [h x (by simp [COp.ops])]
 case nslice el n => exact Iff.rfl
 case mslice el n ps =>
  have h' : ∀ x ∈ ps, ev σ x = ev σ' x := h
  simp only [preVC, opVC]; rw [List.map_congr_left h']
 case mkslice el n b agg z l cc => simp only [preVC, opVC]; rw [h l (by simp [COp.ops]), h cc (by simp [COp.ops])]
 case store rt sz x y => simp only [preVC]; rw [h x (by simp [COp.ops]), h y (by simp [COp.ops])]
 case srange x => exact Iff.rfl
 case snext x => exact Iff.rfl
 case append rt el n b x y =>
  simp only [preVC]
  rw [h x (by simp [COp.ops]), h y (by simp [COp.ops])]
 case clear n agg z x => exact Iff.rfl
 case copy n x y => exact Iff.rfl
 case appmk el n b agg z x c => simp only [preVC, opVC]; rw [h x (by simp [COp.ops]), h c (by simp [COp.ops])]
 all_goals exact (preVC_read rfl).trans ((read_congr h).trans (preVC_read rfl).symm)

def tmpOf : Operand → List Nat
 | .tmp t => [t]
 | _ => []
def CI.reads : CI → List Nat
 | .op _ g c => c.ops.flatMap tmpOf ++ (match g with | some (s, _) => [s] | none => [])
 | .frz _ _ => []

theorem pOp_congr {S : Nat → Spc} {x : CI} {σ σ' : Sg} {Hr H : HMap} {K : D → HMap → Prop} (h : ∀ t ∈ x.reads, σ t = σ' t) : pOp S x σ Hr H K ↔ pOp S x σ' Hr H K := by
 cases x with
 | frz t n => exact Iff.rfl
 | op dst g c =>
   have hev : ∀ y ∈ c.ops, ev σ y = ev σ' y := fun y hy => by
    cases y with
    | tmp t => exact h t (by simp only [CI.reads, List.mem_append, List.mem_flatMap]; exact .inl ⟨_, hy, by simp [tmpOf]⟩)
    | _ => rfl
   have hp := pre_congr (S := S) (dst := dst) (Hr := Hr) (H := H) (K := K) hev
   cases g with
   | none => exact hp
   | some sb =>
     obtain ⟨s, b⟩ := sb
     simp only [pOp]
     rw [← h s (by simp [CI.reads])]
     split
     ·rw [hp]
     ·exact Iff.rfl
     ·exact Iff.rfl
end Go.Gv
