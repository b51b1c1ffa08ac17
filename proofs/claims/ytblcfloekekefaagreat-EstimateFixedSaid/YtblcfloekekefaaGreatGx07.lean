/- A part of the framework and of the walks: T5 T6 T6b. -/
import Derived.Test.YtblcfloekekefaaGreatGx06

namespace Go.Gv
set_option linter.unusedSimpArgs false
set_option linter.unusedVariables false

def dirs (o : Oper) : List Nat := (o.after.toList.filter fun e => Region.binds .any e).map (·.on)

/-- Of each operation those that must come ahead of it. -/
def ancAux : List Oper → List (List Nat) → List (List Nat)
  | [], acc => acc
  | o :: r, acc => ancAux r (acc ++ [((dirs o) ++ (dirs o).flatMap fun j => (acc[j]?).getD []).eraseDups])
def anc (ops : Array Oper) : List (List Nat) := ancAux ops.toList []

def has (an : List (List Nat)) (j i : Nat) : Bool := ((an[j]?).getD []).contains i

def okDraw (ops : Array Oper) (cis : List CI) (m : Nat) : Bool :=
  (List.range ops.size).all (fun i => ((ops[i]?).map fun o => (dirs o).all (· < i)).getD true) &&
  (List.range ops.size).all (fun j => decide (j < m) || (List.range j).all fun i => has (anc ops) j i) &&
  (List.range m).all (fun j => (List.range j).all fun i => has (anc ops) j i || (match cis[i]?, cis[j]? with | some x, some y => apartCI x y | _, _ => false)) &&
  decide (m ≤ ops.size)

/-- What has been carried out. -/
def Done (listed : Array Bool) (i : Nat) : Prop := listed.getD i false = true
def DC (ops : Array Oper) (listed : Array Bool) : Prop := ∀ i o, ops[i]? = some o → Done listed i → ∀ j ∈ dirs o, Done listed j

theorem eraseDups_mem {α : Type} [BEq α] [LawfulBEq α] {l : List α} {x : α} (h : x ∈ l.eraseDups) : x ∈ l := by
  simpa using h

theorem anc_ok {ops : Array Oper} {listed : Array Bool} (hdc : DC ops listed) : ∀ (r : List Oper) (acc : List (List Nat)), (∀ (k : Nat), r[k]? = ops[acc.length + k]?) →
    (∀ (k : Nat) (l : List Nat), acc[k]? = some l → (∀ o, ops[k]? = some o → ∀ j ∈ dirs o, Done listed j) → ∀ j ∈ l, Done listed j) →
    ∀ (k : Nat) (l : List Nat), (ancAux r acc)[k]? = some l → (∀ o, ops[k]? = some o → ∀ j ∈ dirs o, Done listed j) → ∀ j ∈ l, Done listed j
  | [], acc, _, hacc => hacc
  | o :: r, acc, hr, hacc => by
    simp only [ancAux]
    refine anc_ok hdc r _ (fun k => ?_) (fun k l hl hd j hj => ?_)
    · have := hr (k + 1)
      simp only [List.getElem?_cons_succ] at this
      rw [this]
      congr 1
      simp; omega
    · have ho : ops[acc.length]? = some o := by
        have := hr 0
        simpa using this.symm
      by_cases hk : k < acc.length
      · rw [List.getElem?_append_left hk] at hl
        exact hacc k l hl hd j hj
      · rw [List.getElem?_append_right (by omega)] at hl
        have hk0 : k - acc.length = 0 := by
          have := (List.getElem?_eq_some_iff.1 hl).1
          simp at this; omega
        have hke : k = acc.length := by omega
        subst hke
        rw [hk0] at hl
        simp at hl
        subst hl
        have hd' := hd o ho
        rcases List.mem_append.1 (eraseDups_mem hj) with hj | hj
        · exact hd' j hj
        · obtain ⟨q, hq, hjq⟩ := List.mem_flatMap.1 hj
          cases hacq : acc[q]? with
          | none => rw [hacq] at hjq; simp at hjq
          | some lq =>
            rw [hacq] at hjq
            simp at hjq
            exact hacc q lq hacq (fun oq hoq => hdc q oq hoq (hd' q hq)) j hjq

theorem has_done {ops : Array Oper} {listed : Array Bool} (hdc : DC ops listed) {j i : Nat} (h : has (anc ops) j i = true) (hj : ∀ o, ops[j]? = some o → ∀ k ∈ dirs o, Done listed k) : Done listed i := by
  unfold has at h
  cases hl : (anc ops)[j]? with
  | none => rw [hl] at h; simp at h
  | some l =>
    rw [hl] at h
    exact anc_ok hdc ops.toList [] (fun k => by simp) (fun k l h => by simp at h) j l hl hj i (by simpa using h)

theorem mem_ready {ops : Array Oper} {listed : Array Bool} {i : Nat} : i ∈ Region.ready .any ops listed ↔ i < ops.size ∧ listed.getD i true = false ∧ ∀ o, ops[i]? = some o → ∀ j ∈ dirs o, Done listed j := by
  unfold Region.ready
  rw [List.mem_filter, List.mem_range]
  constructor
  · rintro ⟨h1, h2⟩
    simp only [Bool.and_eq_true, Bool.not_eq_true'] at h2
    refine ⟨h1, h2.1, fun o ho j hj => ?_⟩
    rw [ho] at h2
    simp only [Option.map_some, Option.getD_some, Array.all_eq_true] at h2
    unfold dirs at hj
    obtain ⟨e, he, rfl⟩ := List.mem_map.1 hj
    rw [List.mem_filter] at he
    obtain ⟨k, hk, hke⟩ := List.mem_iff_getElem.1 he.1
    have := h2.2 k (by simpa using hk)
    have hke' : o.after[k]'(by simpa using hk) = e := by simpa using hke
    rw [hke', he.2] at this
    simpa [Done] using this
  · rintro ⟨h1, h2, h3⟩
    have ho : ops[i]? = some ops[i] := by simp [h1]
    refine ⟨h1, ?_⟩
    simp only [h2, Bool.not_false, Bool.true_and, ho, Option.map_some, Option.getD_some, Array.all_eq_true]
    intro k hk
    by_cases hb : Region.binds .any (ops[i].after[k]) = true
    · have := h3 _ ho (ops[i].after[k]).on (by
        unfold dirs
        exact List.mem_map.2 ⟨_, List.mem_filter.2 ⟨by simp, hb⟩, rfl⟩)
      simp only [Done] at this
      simp [this]
    · simp [hb]

theorem done_set {listed : Array Bool} {i k : Nat} (hi : i < listed.size) : Done (listed.setIfInBounds i true) k ↔ k = i ∨ Done listed k := by
  simp only [Done, Array.getD_eq_getD_getElem?, Array.getElem?_setIfInBounds]
  by_cases h : i = k
  · subst h; simp [hi]
  · rw [if_neg h]
    constructor
    · exact .inr
    · rintro (rfl | h2)
      · exact absurd rfl h
      · exact h2

theorem dc_set {ops : Array Oper} {listed : Array Bool} (hdc : DC ops listed) (hs : listed.size = ops.size) {i : Nat} (hi : i ∈ Region.ready .any ops listed) : DC ops (listed.setIfInBounds i true) := by
  obtain ⟨h1, h2, h3⟩ := mem_ready.1 hi
  intro k o ho hk j hj
  rw [done_set (by omega)] at hk ⊢
  rcases hk with rfl | hk
  · exact .inr (h3 o ho j hj)
  · exact .inr (hdc k o ho hk j hj)

theorem not_done_iff {ops : Array Oper} {listed : Array Bool} (hs : listed.size = ops.size) {i : Nat} (hi : i < ops.size) : listed.getD i true = false ↔ ¬ Done listed i := by
  simp only [Done, Array.getD_eq_getD_getElem?]
  have : listed[i]? = some listed[i] := by simp [hs, hi]
  rw [this]
  simp

section
variable {P : Program} {im : List Nat} {E : Env} {S : Nat → Spc} {ops : Array Oper}

theorem compileOps_get {cis : List CI} {N : Nat} (h : compileOps P im N ops = some cis) : cis.length = ops.size ∧ ∀ (i : Nat) (o : Oper), ops[i]? = some o → ∃ x, cis[i]? = some x ∧ compileCI P im N ops o = some x := by
  unfold compileOps at h
  have key : ∀ (l : List Oper) (cs : List CI), l.mapM (compileCI P im N ops) = some cs → cs.length = l.length ∧ ∀ (i : Nat) (o : Oper), l[i]? = some o → ∃ x, cs[i]? = some x ∧ compileCI P im N ops o = some x := by
    intro l
    induction l with
    | nil => intro cs h; simp at h; subst h; exact ⟨rfl, fun i o h => by simp at h⟩
    | cons o l ih =>
      intro cs h
      rw [List.mapM_cons] at h
      simp only [Option.bind_eq_bind, Option.bind_eq_some_iff] at h
      obtain ⟨x, hx, y, hy, h⟩ := h
      cases h
      obtain ⟨h1, h2⟩ := ih y hy
      refine ⟨by simp [h1], fun i q hq => ?_⟩
      cases i with
      | zero => simp at hq; subst hq; exact ⟨x, rfl, hx⟩
      | succ i => simp at hq; simpa using h2 i q hq
  obtain ⟨h1, h2⟩ := key _ _ h
  exact ⟨by simpa using h1, fun i o ho => h2 i o (by simpa using ho)⟩

/-- THE TAIL: in the text's order alone. -/
theorem tail_any {Q : Exit → Act → World → Prop} {K : Sg → HMap → Prop} (hS : ∀ f, Tri P f (S f).pt) (hQ : ∀ σ H a w, St E σ H a w → K σ H → Q .normal a w)
    (hC0 : ∀ i o, ops[i]? = some o → ∀ j ∈ dirs o, j < i) {m : Nat} (hC2 : ∀ j, m ≤ j → j < ops.size → ∀ i, i < j → has (anc ops) j i = true) :
    ∀ (tl : List CI) (k : Nat) (listed : Array Bool), m ≤ k → k ≤ ops.size → listed.size = ops.size → (∀ i, i < ops.size → (Done listed i ↔ i < k)) → DC ops listed →
      ((ops.toList.drop k).mapM (compileCI P im E.N ops) = some (tl.filter CI.real)) → ∀ (σ : Sg) (H : HMap) (a : Act) (w : World), St E σ H a w → vcL S tl σ H K →
      wpAny P .any ops Q (ops.size - k) listed a w
  | [], k, listed, hmk, hk, hs, hd, hdc, hm, σ, H, a, w, hst, hv => by
    have hkn : k = ops.size := by
      cases hdr : ops.toList.drop k with
      | nil =>
        have := congrArg List.length hdr
        simp at this
        omega
      | cons o r =>
        rw [hdr, List.mapM_cons] at hm
        simp only [Option.bind_eq_bind, Option.bind_eq_some_iff, List.filter_nil] at hm
        obtain ⟨x, _, y, _, h⟩ := hm
        cases h
    subst hkn
    rw [Nat.sub_self]
    refine ⟨?_, hQ σ H a w hst hv⟩
    rw [List.eq_nil_iff_forall_not_mem]
    intro i hi
    obtain ⟨h1, h2, _⟩ := mem_ready.1 hi
    rw [not_done_iff hs h1] at h2
    exact h2 ((hd i h1).2 h1)
  | .frz t n :: tl, k, listed, hmk, hk, hs, hd, hdc, hm, σ, H, a, w, hst, hv => by
    simp only [vcL] at hv
    obtain ⟨σ', H', hst', hv'⟩ := frz_sound hst hv
    exact tail_any hS hQ hC0 hC2 tl k listed hmk hk hs hd hdc (by simpa [List.filter_cons, CI.real] using hm) σ' H' a w hst' hv'
  | .op dst g c :: tl, k, listed, hmk, hk, hs, hd, hdc, hm, σ, H, a, w, hst, hv => by
    have hkn : k < ops.size := by
      cases hdr : ops.toList.drop k with
      | nil => rw [hdr] at hm; simp [List.filter_cons, CI.real] at hm
      | cons o r =>
        have := congrArg List.length hdr
        simp at this
        omega
    have hdrop : ops.toList.drop k = ops[k] :: ops.toList.drop (k + 1) := by
      rw [List.drop_eq_getElem_cons (by simpa using hkn)]
      simp
    rw [hdrop, List.mapM_cons] at hm
    simp only [Option.bind_eq_bind, Option.bind_eq_some_iff, List.filter_cons, CI.real, if_true] at hm
    obtain ⟨x, hx, y, hy, h⟩ := hm
    cases h
    obtain ⟨g', c', hxe, hc, hg, hdst⟩ := compileCI_spec hx
    cases hxe
    have hfu : ops.size - k = (ops.size - (k + 1)) + 1 := by omega
    rw [hfu]
    have hok : ops[k]? = some ops[k] := by simp [hkn]
    have hkready : k ∈ Region.ready .any ops listed := mem_ready.2 ⟨hkn, (not_done_iff hs hkn).2 (fun h => by have := (hd k hkn).1 h; omega), fun o ho j hj => by
      have hjk := hC0 k o ho j hj
      exact (hd j (by omega)).2 hjk⟩
    refine ⟨fun h => (by rw [h] at hkready; cases hkready), fun i hi => ?_⟩
    obtain ⟨h1, h2, h3⟩ := mem_ready.1 hi
    rw [not_done_iff hs h1] at h2
    have hik : i = k := by
      rcases Nat.lt_trichotomy i k with h | h | h
      · exact absurd ((hd i h1).2 h) h2
      · exact h
      · exfalso
        have := has_done hdc (hC2 i (by omega) h1 k h) h3
        have := (hd k hkn).1 this
        omega
    subst hik
    unfold wpOp
    rw [hok]
    simp only []
    have hst0 := hst
    obtain ⟨hdf, hN, tp, hw, hr⟩ := hst
    simp only [vcL] at hv
    have hnext : ∀ (σ' : Sg) (H' : HMap) (a' : Act) (w' : World), St E σ' H' a' w' → vcL S tl σ' H' K → wpAny P .any ops Q (ops.size - (i + 1)) (listed.setIfInBounds i true) a' w' := fun σ' H' a' w' hst' hv' =>
      tail_any hS hQ hC0 hC2 tl (i + 1) _ (by omega) (by omega) (by simpa using hs) (fun j hj => by rw [done_set (by omega), hd j hj]; omega) (dc_set hdc hs hi) hy σ' H' a' w' hst' hv'
    rcases guard_sound hg hr hv with ⟨hwant, hyes⟩ | ⟨hwant, hno⟩
    · rw [if_pos hwant]
      exact .inl (any_sound hS hc hw hdf hN hr hdst hyes (fun r H' x w' hk hst' => hnext _ _ _ _ hst' hk))
    · rw [if_neg (by simp [hwant])]
      exact hnext _ _ _ _ (hst0.skip _ hdst) hno

/-- THE PREFIX: in whatever order. 'us': what is still to be done, in the text's order. -/
theorem pre_any {Q : Exit → Act → World → Prop} {K : Sg → HMap → Prop} (hS : ∀ f, Tri P f (S f).pt) (hQ : ∀ σ H a w, St E σ H a w → K σ H → Q .normal a w) {cis : List CI} (hcis : compileOps P im E.N ops = some cis)
    (hC0 : ∀ i o, ops[i]? = some o → ∀ j ∈ dirs o, j < i) {m : Nat} (hm : m ≤ ops.size) (hC2 : ∀ j, m ≤ j → j < ops.size → ∀ i, i < j → has (anc ops) j i = true)
    (hC1 : ∀ j, j < m → ∀ i, i < j → has (anc ops) j i = true ∨ ∃ x y, cis[i]? = some x ∧ cis[j]? = some y ∧ apartCI x y = true) {tl : List CI} (htl : (ops.toList.drop m).mapM (compileCI P im E.N ops) = some (tl.filter CI.real)) {Hr : HMap}
    (hban : ∀ i x t, i < m → cis[i]? = some x → x.wid = some t → Hr t = none) :
    ∀ (n : Nat) (us : List Nat) (listed : Array Bool), us.length = n → us.Pairwise (· < ·) → (∀ i ∈ us, i < m) → listed.size = ops.size → (∀ i, i < ops.size → (Done listed i ↔ i < m ∧ i ∉ us)) → DC ops listed →
      ∀ (σ : Sg) (H : HMap) (a : Act) (w : World), St E σ H a w → HLe Hr H → vcP S (us.map fun i => (cis[i]?).getD (.frz 0 0)) σ Hr H (fun σ H => vcL S tl σ H K) →
      wpAny P .any ops Q (us.length + (ops.size - m)) listed a w := by
  obtain ⟨hclen, hcget⟩ := compileOps_get hcis
  intro n
  induction n with
  | zero =>
    intro us listed hn hpw hus hs hd hdc σ H a w hst hle hv
    have : us = [] := List.eq_nil_of_length_eq_zero hn
    subst this
    simp only [List.length_nil, Nat.zero_add]
    exact tail_any hS hQ hC0 hC2 tl m listed (Nat.le_refl _) hm hs (fun i hi => by rw [hd i hi]; simp) hdc htl σ H a w hst hv
  | succ n ih =>
    intro us listed hn hpw hus hs hd hdc σ H a w hst hle hv
    have hfu : us.length + (ops.size - m) = (n + (ops.size - m)) + 1 := by omega
    rw [hfu]
    -- something may come up
    have hne : Region.ready .any ops listed ≠ [] := by
      cases us with
      | nil => simp at hn
      | cons u us =>
        have hum := hus u (by simp)
        have : u ∈ Region.ready .any ops listed := mem_ready.2 ⟨by omega, (not_done_iff hs (by omega)).2 (fun h => ((hd u (by omega)).1 h).2 (by simp)), fun o ho j hj => by
          have hju := hC0 u o ho j hj
          refine (hd j (by omega)).2 ⟨by omega, fun hmem => ?_⟩
          rcases List.mem_cons.1 hmem with rfl | hmem
          · omega
          · have := List.rel_of_pairwise_cons hpw hmem
            omega⟩
        intro h
        rw [h] at this
        cases this
    refine ⟨fun h => absurd h hne, fun i hi => ?_⟩
    obtain ⟨h1, h2, h3⟩ := mem_ready.1 hi
    rw [not_done_iff hs h1] at h2
    have hiu : i ∈ us := by
      by_cases him : i < m
      · by_cases hmem : i ∈ us
        · exact hmem
        · exact absurd ((hd i h1).2 ⟨him, hmem⟩) h2
      · exfalso
        cases us with
        | nil => simp at hn
        | cons u us =>
          have hum := hus u (by simp)
          have := has_done hdc (hC2 i (by omega) h1 u (by omega)) h3
          exact ((hd u (by omega)).1 this).2 (by simp)
    obtain ⟨us1, us2, rfl⟩ := List.append_of_mem hiu
    have him : i < m := hus i hiu
    have hoi : ops[i]? = some ops[i] := by simp [h1]
    obtain ⟨x, hxi, hx⟩ := hcget i _ hoi
    have hlt1 : ∀ j ∈ us1, j < i := fun j hj => by
      have := List.pairwise_append.1 hpw
      exact this.2.2 j hj i (by simp)
    -- what stands ahead of it in the text is apart from it
    have hap : ∀ y ∈ us1.map (fun i => (cis[i]?).getD (.frz 0 0)), apartCI y x = true := by
      intro y hy
      obtain ⟨j, hj, rfl⟩ := List.mem_map.1 hy
      have hji := hlt1 j hj
      rcases hC1 i him j hji with h | ⟨x', y', e1, e2, e3⟩
      · exfalso
        have := has_done hdc h h3
        exact ((hd j (by omega)).1 this).2 (by simp [hj])
      · rw [hxi] at e2
        cases e2
        rw [e1]
        exact e3
    rw [List.map_append, List.map_cons, hxi] at hv
    simp only [Option.getD_some] at hv
    obtain ⟨pre, out, hform⟩ := linU_pOp S x σ Hr (rdH H x.wid)
    have hform : ∀ H', rdH H' x.wid = rdH H x.wid → ∀ K, pOp S x σ Hr H' K ↔ (pre ∧ ∀ d u, out d u → K d (appU H' x.wid u)) := hform
    have hpre := vcP_front (im := im) (ops := ops) hS _ _ σ H a w hap (fun y hy => by
      obtain ⟨j, hj, rfl⟩ := List.mem_map.1 hy
      have hji := hlt1 j hj
      obtain ⟨y', hy1, hy2⟩ := hcget j ops[j] (by simp)
      rw [hy1]
      exact ⟨_, hy2⟩) (fun y hy t ht => by
      obtain ⟨j, hj, rfl⟩ := List.mem_map.1 hy
      have hji := hlt1 j hj
      obtain ⟨y', hy1, hy2⟩ := hcget j ops[j] (by simp)
      rw [hy1] at ht
      exact hban j y' t (by omega) hy1 ht) hst hle hv _ rfl pre out hform
    have htake := vcP_take _ _ σ H hap hv _ rfl pre out hform
    obtain ⟨g, c, hxe, _, _, _⟩ := compileCI_spec hx
    have hdx : x.dst = (ops[i]).dst := by rw [hxe]; rfl
    have hvx : pOp S x σ Hr H fun d H' => vcP S ((us1 ++ us2).map fun i => (cis[i]?).getD (.frz 0 0)) (updO σ x.dst d) Hr H' (fun σ H => vcL S tl σ H K) ∧ HLe Hr H' := (hform H rfl _).2 ⟨hpre, fun d u hout => ⟨by rw [List.map_append]; exact htake d u hout, fun k r hk => by
      cases u with
      | none => rw [appU_none]; exact hle k r hk
      | some u =>
        cases hxd : x.wid with
        | none => simp only [appU]; exact hle k r hk
        | some t =>
          simp only [appU, updH]
          have hne : k ≠ t := fun e => by
            have := hban i x t him hxi hxd
            rw [e, this] at hk
            cases hk
          rw [if_neg hne]
          exact hle k r hk⟩⟩
    unfold wpOp
    rw [hoi]
    simp only []
    have hlen : (us1 ++ us2).length = n := by simp at hn ⊢; omega
    have hsub : (us1 ++ us2).Pairwise (· < ·) := hpw.sublist (by simp)
    have hnd : i ∉ us1 ++ us2 := by
      have := List.pairwise_append.1 hpw
      intro h
      rcases List.mem_append.1 h with h | h
      · have := hlt1 i h; omega
      · have h4 := List.rel_of_pairwise_cons this.2.1 h; omega
    have hps := pop_sound (Q := Q) (next := wpAny P .any ops Q (n + (ops.size - m)) (listed.setIfInBounds i true)) hS hx hst hle hvx (fun r H' v w' hk hst' => by
      rw [← hdx] at hst'
      have := ih (us1 ++ us2) (listed.setIfInBounds i true) hlen hsub (fun j hj => hus j (by simp at hj ⊢; rcases hj with h | h <;> simp [h])) (by simpa using hs) (fun j hj => by
        rw [done_set (by omega), hd j hj]
        constructor
        · rintro (rfl | ⟨ha, hb⟩)
          · exact ⟨him, hnd⟩
          · exact ⟨ha, fun h => hb (by simp at h ⊢; rcases h with h | h <;> simp [h])⟩
        · rintro ⟨ha, hb⟩
          by_cases hji : j = i
          · exact .inl hji
          · exact .inr ⟨ha, fun h => hb (by simp at h ⊢; rcases h with h | h | h; exact .inl h; exact absurd h hji; exact .inr h)⟩) (dc_set hdc hs hi) _ H' _ w' hst' hk.2 hk.1
      rw [hlen, hdx] at this
      exact this)
    split
    · rename_i hw
      rw [if_pos hw] at hps
      exact .inl hps
    · rename_i hw
      rw [if_neg hw] at hps
      exact hps
end
end Go.Gv

namespace Go.Gv
set_option linter.unusedSimpArgs false
set_option linter.unusedVariables false

inductive Ex where
  | norm
  | ex (id : Nat)
  | ret

inductive CC where
  | skip
  | reg (l : List CI)
  | regd (pre tl : List CI)
  | seq (a b : CC)
  | ite (c : Operand) (a b : CC)
  | block (id : Nat) (b : CC)
  | loop (key : Nat) (b : CC)
  | exit (id : Nat)
  | ret
  | cut (key : Nat) (c : CC)
  | keep (ls lh : List Nat) (c : CC)

/-- What holds at a place of the text: data x with P x; the slots and the resources of which something is known. -/
structure Inv where
  X : Type
  P : X → Prop
  s : X → Sg
  h : X → HMap
  m : X → Nat

/-- What is known here holds wherever what is known there holds. -/
def Wk (σ : Sg) (H : HMap) (σ' : Sg) (H' : HMap) : Prop := ∀ (E : Env) (a : Act) (w : World), St E σ H a w → St E σ' H' a w

def Sub (a b : D) : Prop :=
  match b with
  | .any => True
  | .own _ x => a = .v x ∨ ∃ i, a = .own i x
  | .list n es => a = .list n es ∨ (a = .v (.slice none 0 0) ∧ es = [])
  | b => a = b

def isNilRow : Res → Prop
  | .row x _ _ es => x = .slice none 0 0 ∧ es = []
  | _ => False

def MatchS : List (Nat × D) → Sg → Prop
  | [], _ => True
  | (t, d) :: l, σ => Sub (σ t) d ∧ MatchS l σ
def MatchH : List (Nat × Res) → HMap → Prop
  | [], _ => True
  | (i, r) :: l, H => (H i = some r ∨ isNilRow r) ∧ MatchH l H
def mkS : List (Nat × D) → Sg
  | [] => fun _ => .any
  | (t, d) :: l => upd (mkS l) t d
def mkH : List (Nat × Res) → HMap
  | [] => fun _ => none
  | (i, r) :: l => updH (mkH l) i (some r)

def keepS (ls : List Nat) (σ : Sg) : Sg := mkS (ls.map fun t => (t, σ t))
def keepH : List Nat → HMap → HMap
  | [], _ => fun _ => none
  | i :: l, H => updH (keepH l H) i (H i)

def maskH (l : List CI) (H : HMap) : HMap := fun i => if l.any (fun x => x.wid == some i) then none else H i

def vc (S : Nat → Spc) : CC → (Ex → Sg → HMap → Prop) → Sg → HMap → Prop
  | .skip, K, σ, H => K .norm σ H
  | .reg l, K, σ, H => vcL S l σ H (K .norm)
  | .regd pre tl, K, σ, H => vcPre S pre σ (maskH pre H) H fun σ H => vcL S tl σ H (K .norm)
  | .seq a b, K, σ, H => vc S a (fun e σ H => match e with
    | .norm => vc S b K σ H
    | e => K e σ H) σ H
  | .ite c a b, K, σ, H => match ev σ c with
    | .v (.bool t) => (t = true → vc S a K σ H) ∧ (t = false → vc S b K σ H)
    | _ => False
  | .block id b, K, σ, H => vc S b (fun e σ H => match e with
    | .ex i => if i = id then K .norm σ H else K (.ex i) σ H
    | e => K e σ H) σ H
  | .loop _ b, K, σ, H => ∃ inv : Inv, (∃ x, inv.P x ∧ Wk σ H (inv.s x) (inv.h x)) ∧ ∀ x, inv.P x → vc S b (fun e σ' H' => match e with
      | .norm => ∃ y, inv.P y ∧ Wk σ' H' (inv.s y) (inv.h y) ∧ inv.m y < inv.m x
      | e => K e σ' H') (inv.s x) (inv.h x)
  | .exit id, K, σ, H => K (.ex id) σ H
  | .ret, K, σ, H => K .ret σ H
  | .keep ls lh c, K, σ, H => vc S c K (keepS ls σ) (keepH lh H)
  | .cut _ c, K, σ, H => ∃ (σ' : Sg) (H' : HMap), Wk σ H σ' H' ∧ vc S c K σ' H'

def strip : CC → CC
  | .reg l => .reg (l.filter CI.real)
  | .regd pre tl => .regd pre (tl.filter CI.real)
  | .seq a b => .seq (strip a) (strip b)
  | .ite c a b => .ite c (strip a) (strip b)
  | .block id b => .block id (strip b)
  | .loop _ b => .loop 0 (strip b)
  | .cut _ c => strip c
  | .keep _ _ c => strip c
  | c => c

def findM (ops : Array Oper) : Nat :=
  ((List.range (ops.size + 1)).find? fun m => (List.range ops.size).all fun j => decide (j < m) || (List.range j).all fun i => has (anc ops) j i).getD ops.size

def compileC (P : Program) (im : List Nat) (N : Nat) : Code → Option CC
  | .skip => some .skip
  | .label _ => some .skip
  | .region _ ops false => (compileOps P im N ops).map .reg
  | .region _ ops true => do
    let cis ← compileOps P im N ops
    if okDraw ops cis (findM ops) then some (.regd (cis.take (findM ops)) (cis.drop (findM ops))) else none
  | .seq a b => do some (.seq (← compileC P im N a) (← compileC P im N b))
  | .cond c a b => do if cstOk c then some (.ite c (← compileC P im N a) (← compileC P im N b)) else none
  | .block id b => do some (.block id (← compileC P im N b))
  | .loop b => do some (.loop 0 (← compileC P im N b))
  | .exit id => some (.exit id)
  | .ret => some .ret
  | _ => none

section
variable {P : Program} {im : List Nat} {E : Env} {S : Nat → Spc}

theorem Sub_R {tp I : Nat → Prop} {w : World} {x : Value} {a b : D} (h : Sub a b) (hr : R tp I w x a) : R tp I w x b := by
  unfold Sub at h
  split at h
  · exact .any x
  · rcases h with rfl | ⟨i, rfl⟩
    · cases hr with
      | v _ h1 _ => exact .own _ _ h1
    · cases hr with
      | own _ _ h1 => exact .own _ _ h1
  · rcases h with rfl | ⟨rfl, rfl⟩
    · exact hr
    · cases hr
      exact .nolist _ _ _
  · subst h; exact hr

/-- Fewer resources. -/
theorem StW.sub {tp : Nat → Prop} {H H' : HMap} {w : World} (h : StW E tp H w) (hs : ∀ i r, H' i = some r → H i = some r ∨ isNilRow r) :
    StW E tp H' w ∧ ∀ x d, R tp (Imm E.O tp H w) w x d → R tp (Imm E.O tp H' w) w x d := by
  have nilblk : ∀ r, isNilRow r → r.blk = none := fun r hr => by
    cases r with
    | box b c => exact hr.elim
    | iter b s p => exact hr.elim
    | row x el n es => obtain ⟨rfl, rfl⟩ := hr; rfl
  have hown : ∀ b, owns H' b → owns H b := fun b ⟨i, r, h1, h2⟩ => by
    rcases hs i r h1 with h3 | h3
    · exact ⟨i, r, h3, h2⟩
    · rw [nilblk r h3] at h2; cases h2
  have move : ∀ x d, R tp (Imm E.O tp H w) w x d → R tp (Imm E.O tp H' w) w x d := fun x d hr =>
    hr.mono (fun _ h => h) (fun b hb => ⟨⟨hb.1, hb.2.1, hb.2.2.1, fun ho => hb.2.2.2 (hown b ho)⟩, rfl⟩) (fun b _ => .refl _ _)
  refine ⟨⟨h.hO, h.tpx, h.tpn, h.tpl, h.step, fun b hb => h.loc b (hown b hb), ⟨fun i j r s b h1 h2 h3 h4 => ?_, fun i r b h1 h2 => ?_, fun i r h1 => ?_⟩⟩, move⟩
  · rcases hs i r h1 with k1 | k1
    · rcases hs j s h2 with k2 | k2
      · exact h.sat.dis i j r s b k1 k2 h3 h4
      · rw [nilblk s k2] at h4; cases h4
    · rw [nilblk r k1] at h3; cases h3
  · rcases hs i r h1 with k1 | k1
    · exact h.sat.out i r b k1 h2
    · rw [nilblk r k1] at h2; cases h2
  · rcases hs i r h1 with k1 | k1
    · exact (h.sat.ok i r k1).conv move (fun _ _ => rfl)
    · cases r with
      | box b c => exact k1.elim
      | iter b s p => exact k1.elim
      | row x el n es =>
        obtain ⟨rfl, rfl⟩ := k1
        exact ⟨[], World.ownsRow_nil _ _ _ _, by simp, fun k y c h => by simp at h⟩

theorem keepH_sub {H : HMap} : ∀ {l : List Nat}, ∀ i r, keepH l H i = some r → H i = some r ∨ isNilRow r
  | [], i, r, h => by simp [keepH] at h
  | j :: l, i, r, h => by
    simp only [keepH, updH] at h
    split at h
    · rename_i e
      subst e
      exact .inl h
    · exact keepH_sub i r h

theorem keepS_R {tp I : Nat → Prop} {w : World} {a : Act} {σ : Sg} (hr : ∀ t, R tp I w (a.tmps.getD t undef) (σ t)) : ∀ {l : List Nat}, ∀ t, R tp I w (a.tmps.getD t undef) (mkS (l.map fun t => (t, σ t)) t)
  | [], t => .any _
  | s :: l, t => by
    simp only [List.map_cons, mkS, upd]
    split
    · rename_i e
      subst e
      exact hr t
    · exact keepS_R hr t

/-- How a piece of text is left. -/
def Post (E : Env) (K : Ex → Sg → HMap → Prop) : Exit → Act → World → Prop
  | .normal, a, w => ∃ σ H, St E σ H a w ∧ K .norm σ H
  | .exit i, a, w => ∃ σ H, St E σ H a w ∧ K (.ex i) σ H
  | .ret, a, w => ∃ σ H, St E σ H a w ∧ K .ret σ H
  | _, _, _ => False

theorem vcPre_P {K : Sg → HMap → Prop} : ∀ (l : List CI) (σ : Sg) (Hr H : HMap), vcPre S l σ Hr H K → vcP S l σ Hr H K
  | [], σ, Hr, H, h => h
  | .frz _ _ :: _, _, _, _, h => h.elim
  | .op dst g c :: r, σ, Hr, H, h => by
    simp only [vcPre] at h
    simp only [vcP, pOp, CI.dst]
    have mono : ∀ σ' : Sg, preVC S c dst σ' Hr H (fun d H' => vcPre S r (updO σ' dst d) Hr H' K) → preVC S c dst σ' Hr H (fun d H' => vcP S r (updO σ' dst d) Hr H' K) := fun σ' hp => by
      obtain ⟨pre, out, hf⟩ := linU_pre S c dst σ' Hr (rdH H (c.wid dst))
      have hf : ∀ H', rdH H' (c.wid dst) = rdH H (c.wid dst) → ∀ K, preVC S c dst σ' Hr H' K ↔ (pre ∧ ∀ d u, out d u → K d (appU H' (c.wid dst) u)) := hf
      obtain ⟨h1, h2⟩ := (hf H rfl _).1 hp
      exact (hf H rfl _).2 ⟨h1, fun d u ho => vcPre_P r _ Hr _ (h2 d u ho)⟩
    cases g with
    | none => exact mono σ h
    | some sb =>
      obtain ⟨s, b⟩ := sb
      simp only [guardVC] at h
      split at h
      · rename_i t e1
        simp only
        rw [e1]
        refine ⟨fun e => ?_, fun e => ?_⟩
        · have := h.1 e
          rw [← e, upd_self e1] at this
          exact mono σ this
        · have := h.2 e
          rw [← e, upd_self e1] at this
          exact vcPre_P r _ Hr H this
      · rename_i e1
        simp only
        rw [e1]
        exact vcPre_P r _ Hr H h
      · exact h.elim

theorem okDraw_spec {ops : Array Oper} {cis : List CI} {m : Nat} (h : okDraw ops cis m = true) :
    (∀ i o, ops[i]? = some o → ∀ j ∈ dirs o, j < i) ∧ m ≤ ops.size ∧ (∀ j, m ≤ j → j < ops.size → ∀ i, i < j → has (anc ops) j i = true) ∧
    (∀ j, j < m → ∀ i, i < j → has (anc ops) j i = true ∨ ∃ x y, cis[i]? = some x ∧ cis[j]? = some y ∧ apartCI x y = true) := by
  unfold okDraw at h
  simp only [Bool.and_eq_true, List.all_eq_true, List.mem_range, Bool.or_eq_true, decide_eq_true_eq] at h
  obtain ⟨⟨⟨h0, h2⟩, h1⟩, hm⟩ := h
  refine ⟨fun i o ho j hj => ?_, hm, fun j hmj hj i hi => ?_, fun j hj i hi => ?_⟩
  · have hi : i < ops.size := (Array.getElem?_eq_some_iff.1 ho).1
    have := h0 i hi
    rw [ho] at this
    simp only [Option.map_some, Option.getD_some, List.all_eq_true, decide_eq_true_eq] at this
    exact this j hj
  · rcases h2 j hj with h | h
    · omega
    · exact h i hi
  · rcases h1 j hj i hi with h | h
    · exact .inl h
    · split at h
      · rename_i x y e1 e2
        exact .inr ⟨x, y, e1, e2, h⟩
      · cases h

theorem range_map_get (cis : List CI) (m : Nat) (hm : m ≤ cis.length) : (List.range m).map (fun i => (cis[i]?).getD (.frz 0 0)) = cis.take m := by
  apply List.ext_getElem?
  intro k
  rw [List.getElem?_map, List.getElem?_take]
  by_cases hk : k < m
  · rw [List.getElem?_range hk, if_pos hk]
    have : cis[k]? = some (cis[k]'(by omega)) := List.getElem?_eq_getElem (by omega)
    simp [this]
  · rw [if_neg hk]
    simp; omega

theorem mapM_drop {α β : Type} {f : α → Option β} : ∀ {l : List α} {r : List β} (m : Nat), l.mapM f = some r → (l.drop m).mapM f = some (r.drop m)
  | l, r, 0, h => by simpa using h
  | [], r, m + 1, h => by simp at h; subst h; simp
  | a :: l, r, m + 1, h => by
    rw [List.mapM_cons] at h
    simp only [Option.bind_eq_bind, Option.bind_eq_some_iff] at h
    obtain ⟨x, hx, y, hy, h⟩ := h
    cases h
    simpa using mapM_drop m hy

/-- A REGION WHOSE ORDER IS OPEN. -/
theorem draw_sound {ops : Array Oper} {id : Nat} {pre tl : List CI} {K : Ex → Sg → HMap → Prop} (hS : ∀ f, Tri P f (S f).pt) (hmix : P.follows .mixedOrders = true) (hc : compileC P im E.N (.region id ops true) = some (.regd pre (tl.filter CI.real)))
    {σ : Sg} {H : HMap} {a : Act} {w : World} (hst : St E σ H a w) (hv : vcPre S pre σ (maskH pre H) H fun σ H => vcL S tl σ H (K .norm)) : (Code.region id ops true).wp P (Post E K) a w := by
  simp only [compileC, Option.bind_eq_bind, Option.bind_eq_some_iff] at hc
  obtain ⟨cis, hcis, hc⟩ := hc
  split at hc
  · rename_i hok
    simp only [Option.some.injEq, CC.regd.injEq] at hc
    obtain ⟨hpre, htl⟩ := hc
    obtain ⟨hC0, hm, hC2, hC1⟩ := okDraw_spec hok
    obtain ⟨hclen, hcget⟩ := compileOps_get hcis
    refine wp_region_any hmix ?_
    have hst' : St E σ H a w.drew := by
      obtain ⟨hd, hN, tp, hw, hr⟩ := hst
      have hmv := hw.grow (grownBy_drew w none)
      exact ⟨hd, hN, tp, hmv.1, fun t => hmv.2 _ _ (hr t)⟩
    have hmain := pre_any (im := im) (cis := cis) (tl := tl) (Hr := maskH pre H) (Q := Post E K) hS (fun σ H a w hs hk => ⟨σ, H, hs, hk⟩) hcis hC0 hm hC2 hC1 (by
        rw [← htl]
        exact mapM_drop _ hcis) (fun i x t hi hx ht => by
        unfold maskH
        have hmem : x ∈ pre := by
          rw [← hpre, List.mem_iff_getElem?]
          exact ⟨i, by rw [List.getElem?_take, if_pos hi]; exact hx⟩
        rw [if_pos]
        rw [List.any_eq_true]
        exact ⟨x, hmem, by simp [ht]⟩) (findM ops) (List.range (findM ops)) (Array.replicate ops.size false) (by simp) (by
        simp only [List.pairwise_iff_getElem]
        intro i j hi hj hij
        simpa using hij) (fun i hi => by simpa using hi) (by simp) (fun i hi => by
          constructor
          · intro h
            simp [Done, hi] at h
          · rintro ⟨h1, h2⟩
            exact absurd (List.mem_range.2 h1) h2) (fun i o ho hd => by
          exfalso
          simp [Done] at hd
          have hi : i < ops.size := (Array.getElem?_eq_some_iff.1 ho).1
          simp [hi] at hd) σ H a w.drew hst' (fun i r hi => by
          unfold maskH at hi
          split at hi
          · cases hi
          · exact hi) (by
          rw [range_map_get cis _ (by omega), hpre]
          exact vcPre_P _ _ _ _ hv)
    have hsz : (List.range (findM ops)).length + (ops.size - findM ops) = ops.size := by simp; omega
    rw [hsz] at hmain
    exact hmain
  · cases hc

theorem compile_inv {N : Nat} {code : Code} {c : CC} (h : compileC P im N code = some c) :
    (c = .skip ∧ (code = .skip ∨ ∃ l, code = .label l)) ∨ (∃ id ops l, code = .region id ops false ∧ c = .reg l ∧ compileOps P im N ops = some l) ∨ (∃ id ops pre tl, code = .region id ops true ∧ c = .regd pre tl) ∨
    (∃ a b x y, code = .seq a b ∧ c = .seq x y ∧ compileC P im N a = some x ∧ compileC P im N b = some y) ∨
    (∃ q a b x y, code = .cond q a b ∧ c = .ite q x y ∧ cstOk q = true ∧ compileC P im N a = some x ∧ compileC P im N b = some y) ∨
    (∃ id a x, code = .block id a ∧ c = .block id x ∧ compileC P im N a = some x) ∨ (∃ a x, code = .loop a ∧ c = .loop 0 x ∧ compileC P im N a = some x) ∨
    (∃ id, code = .exit id ∧ c = .exit id) ∨ (code = .ret ∧ c = .ret) := by
  cases code with
  | skip => simp only [compileC] at h; cases h; exact .inl ⟨rfl, .inl rfl⟩
  | label l => simp only [compileC] at h; cases h; exact .inl ⟨rfl, .inr ⟨l, rfl⟩⟩
  | region id ops d =>
    cases d
    · simp only [compileC] at h
      obtain ⟨l, hl, rfl⟩ := opt_map_some h
      exact .inr (.inl ⟨id, ops, l, rfl, rfl, hl⟩)
    · simp only [compileC, Option.bind_eq_bind, Option.bind_eq_some_iff] at h
      obtain ⟨cis, _, h⟩ := h
      split at h
      · cases h; exact .inr (.inr (.inl ⟨id, ops, _, _, rfl, rfl⟩))
      · cases h
  | seq a b =>
    simp only [compileC, Option.bind_eq_bind, Option.bind_eq_some_iff] at h
    obtain ⟨x, hx, y, hy, h⟩ := h
    cases h
    exact .inr (.inr (.inr (.inl ⟨a, b, x, y, rfl, rfl, hx, hy⟩)))
  | cond q a b =>
    simp only [compileC, Option.bind_eq_bind] at h
    split at h
    · rename_i hq
      simp only [Option.bind_eq_some_iff] at h
      obtain ⟨x, hx, y, hy, h⟩ := h
      cases h
      exact .inr (.inr (.inr (.inr (.inl ⟨q, a, b, x, y, rfl, rfl, hq, hx, hy⟩))))
    · cases h
  | block id b =>
    simp only [compileC, Option.bind_eq_bind, Option.bind_eq_some_iff] at h
    obtain ⟨x, hx, h⟩ := h
    cases h
    exact .inr (.inr (.inr (.inr (.inr (.inl ⟨id, b, x, rfl, rfl, hx⟩)))))
  | loop b =>
    simp only [compileC, Option.bind_eq_bind, Option.bind_eq_some_iff] at h
    obtain ⟨x, hx, h⟩ := h
    cases h
    exact .inr (.inr (.inr (.inr (.inr (.inr (.inl ⟨b, x, rfl, rfl, hx⟩))))))
  | exit id => simp only [compileC] at h; cases h; exact .inr (.inr (.inr (.inr (.inr (.inr (.inr (.inl ⟨id, rfl, rfl⟩)))))))
  | ret => simp only [compileC] at h; cases h; exact .inr (.inr (.inr (.inr (.inr (.inr (.inr (.inr ⟨rfl, rfl⟩)))))))
  | _ => simp [compileC] at h

theorem region_seq {ops : Array Oper} {id : Nat} {l : List CI} {K : Ex → Sg → HMap → Prop} (hS : ∀ f, Tri P f (S f).pt) (hc : compileOps P im E.N ops = some (l.filter CI.real))
    {σ : Sg} {H : HMap} {a : Act} {w : World} (hst : St E σ H a w) (hv : vcL S l σ H (K .norm)) : (Code.region id ops false).wp P (Post E K) a w :=
  wp_region_list (seq_sound (im := im) (Q := Post E K) (K := K .norm) hS (fun σ H a w hs hk => ⟨σ, H, hs, hk⟩) l ops.toList hc σ H a w hst hv)

theorem vc_sound (hS : ∀ f, Tri P f (S f).pt) (hmix : P.follows .mixedOrders = true) (cc : CC) : ∀ (code : Code), compileC P im E.N code = some (strip cc) → ∀ (K : Ex → Sg → HMap → Prop) (σ : Sg) (H : HMap) (a : Act) (w : World),
    St E σ H a w → vc S cc K σ H → code.wp P (Post E K) a w := by
  induction cc with
  | skip =>
    intro code hc K σ H a w hst hv
    rcases compile_inv hc with ⟨_, h⟩ | ⟨_, _, _, _, h, _⟩ | ⟨_, _, _, _, _, h⟩ | ⟨_, _, _, _, _, h, _⟩ | ⟨_, _, _, _, _, _, h, _⟩ | ⟨_, _, _, _, h, _⟩ | ⟨_, _, _, h, _⟩ | ⟨_, _, h⟩ | ⟨_, h⟩ <;> try (simp [strip] at h; done)
    rcases h with rfl | ⟨l, rfl⟩
    · exact wp_skip ⟨σ, H, hst, hv⟩
    · exact wp_label ⟨σ, H, hst, hv⟩
  | reg l =>
    intro code hc K σ H a w hst hv
    rcases compile_inv hc with ⟨h, _⟩ | ⟨id, ops, l', rfl, h, hl⟩ | ⟨_, _, _, _, _, h⟩ | ⟨_, _, _, _, _, h, _⟩ | ⟨_, _, _, _, _, _, h, _⟩ | ⟨_, _, _, _, h, _⟩ | ⟨_, _, _, h, _⟩ | ⟨_, _, h⟩ | ⟨_, h⟩ <;> try (simp [strip] at h; done)
    simp only [strip, CC.reg.injEq] at h
    subst h
    exact region_seq hS hl hst hv
  | regd pre tl =>
    intro code hc K σ H a w hst hv
    rcases compile_inv hc with ⟨h, _⟩ | ⟨_, _, _, _, h, _⟩ | ⟨id, ops, pre', tl', rfl, h⟩ | ⟨_, _, _, _, _, h, _⟩ | ⟨_, _, _, _, _, _, h, _⟩ | ⟨_, _, _, _, h, _⟩ | ⟨_, _, _, h, _⟩ | ⟨_, _, h⟩ | ⟨_, h⟩ <;> try (simp [strip] at h; done)
    exact draw_sound hS hmix hc hst hv
  | seq x y ihx ihy =>
    intro code hc K σ H a w hst hv
    rcases compile_inv hc with ⟨h, _⟩ | ⟨_, _, _, _, h, _⟩ | ⟨_, _, _, _, _, h⟩ | ⟨p, q, x', y', rfl, h, hx, hy⟩ | ⟨_, _, _, _, _, _, h, _⟩ | ⟨_, _, _, _, h, _⟩ | ⟨_, _, _, h, _⟩ | ⟨_, _, h⟩ | ⟨_, h⟩ <;> try (simp [strip] at h; done)
    simp only [strip, CC.seq.injEq] at h
    obtain ⟨rfl, rfl⟩ := h
    refine wp_seq (Code.wp_mono ?_ (ihx p hx _ σ H a w hst hv))
    intro e a' w' hp
    cases e with
    | normal =>
      obtain ⟨σ', H', hs, hk⟩ := hp
      exact ihy q hy K σ' H' a' w' hs hk
    | exit id => exact hp
    | ret => exact hp
    | goto l => exact hp
    | panic c => exact hp
    | outgrown => exact hp
  | ite q x y ihx ihy =>
    intro code hc K σ H a w hst hv
    rcases compile_inv hc with ⟨h, _⟩ | ⟨_, _, _, _, h, _⟩ | ⟨_, _, _, _, _, h⟩ | ⟨_, _, _, _, _, h, _⟩ | ⟨q', p1, p2, x', y', rfl, h, hq, hx, hy⟩ | ⟨_, _, _, _, h, _⟩ | ⟨_, _, _, h, _⟩ | ⟨_, _, h⟩ | ⟨_, h⟩ <;> try (simp [strip] at h; done)
    simp only [strip, CC.ite.injEq] at h
    obtain ⟨rfl, rfl, rfl⟩ := h
    simp only [vc] at hv
    have hst0 := hst
    obtain ⟨hd, hN, tp, hw, hr⟩ := hst
    have hqr := ev_R hr q hq
    split at hv
    · rename_i t e1
      rw [e1] at hqr
      refine wp_cond_split hqr.inv_v (fun h => ?_) (fun h => ?_)
      · exact ihx p1 hx K σ H a w hst0 (hv.1 h)
      · exact ihy p2 hy K σ H a w hst0 (hv.2 h)
    · exact hv.elim
  | block id b ih =>
    intro code hc K σ H a w hst hv
    rcases compile_inv hc with ⟨h, _⟩ | ⟨_, _, _, _, h, _⟩ | ⟨_, _, _, _, _, h⟩ | ⟨_, _, _, _, _, h, _⟩ | ⟨_, _, _, _, _, _, h, _⟩ | ⟨id', p, x', rfl, h, hx⟩ | ⟨_, _, _, h, _⟩ | ⟨_, _, h⟩ | ⟨_, h⟩ <;> try (simp [strip] at h; done)
    simp only [strip, CC.block.injEq] at h
    obtain ⟨rfl, rfl⟩ := h
    refine wp_block (Code.wp_mono ?_ (ih p hx _ σ H a w hst hv))
    intro e a' w' hp
    cases e with
    | normal => exact hp
    | exit i =>
      obtain ⟨σ', H', hs, hk⟩ := hp
      simp only [Exit.inBlock]
      by_cases hi : i = id
      · simp only [if_pos hi] at hk ⊢
        exact ⟨σ', H', hs, hk⟩
      · simp only [if_neg hi] at hk ⊢
        exact ⟨σ', H', hs, hk⟩
    | ret => exact hp
    | goto l => exact hp
    | panic c => exact hp
    | outgrown => exact hp
  | loop key b ih =>
    intro code hc K σ H a w hst hv
    rcases compile_inv hc with ⟨h, _⟩ | ⟨_, _, _, _, h, _⟩ | ⟨_, _, _, _, _, h⟩ | ⟨_, _, _, _, _, h, _⟩ | ⟨_, _, _, _, _, _, h, _⟩ | ⟨_, _, _, _, h, _⟩ | ⟨p, x', rfl, h, hx⟩ | ⟨_, _, h⟩ | ⟨_, h⟩ <;> try (simp [strip] at h; done)
    simp only [strip, CC.loop.injEq, true_and] at h
    subst h
    simp only [vc] at hv
    obtain ⟨inv, ⟨x0, hP0, hm0⟩, hround⟩ := hv
    · skip
      intro fr k cs
      -- the states at the loop's head, with their data
      have key : ∀ (n : Nat) (x : inv.X), inv.P x → inv.m x = n → ∀ a w, St E (inv.s x) (inv.h x) a w →
          ∃ e a' w', Post E K e a' w' ∧ Arrives P (lone (fr.at a (.code p :: .inLoop p :: k)) cs w) fr k cs e a' w' := by
        intro n
        induction n using Nat.strongRecOn with
        | _ n ihn =>
          intro x hP hm a w hst
          obtain ⟨e, a1, w1, hq, harr⟩ := ih p hx _ _ _ a w hst (hround x hP) fr (.inLoop p :: k) cs
          cases e with
          | normal =>
            obtain ⟨σ', H', hs, y, hPy, hy1, hlt⟩ := hq
            obtain ⟨e2, a2, w2, hq2, harr2⟩ := ihn (inv.m y) (by omega) y hPy rfl a1 w1 (hy1 _ _ _ hs)
            exact ⟨e2, a2, w2, hq2, .of_steps (Steps.trans harr (.one step_inLoop)) harr2⟩
          | exit id =>
            obtain ⟨σ', H', hs, hk⟩ := hq
            exact ⟨.exit id, a1, w1, ⟨σ', H', hs, hk⟩, .pass (x := .inLoop p) rfl (fun _ _ => .inl (by simp)) harr⟩
          | ret =>
            obtain ⟨σ', H', hs, hk⟩ := hq
            exact ⟨.ret, a1, w1, ⟨σ', H', hs, hk⟩, .pass (x := .inLoop p) rfl (fun _ _ => .inl (by simp)) harr⟩
          | goto l => exact hq.elim
          | panic c => exact hq.elim
          | outgrown => exact hq.elim
      obtain ⟨e, a', w', hq, harr⟩ := key _ x0 hP0 rfl a w (hm0 _ _ _ hst)
      exact ⟨e, a', w', hq, .of_steps (.one step_loop) harr⟩
  | exit id =>
    intro code hc K σ H a w hst hv
    rcases compile_inv hc with ⟨h, _⟩ | ⟨_, _, _, _, h, _⟩ | ⟨_, _, _, _, _, h⟩ | ⟨_, _, _, _, _, h, _⟩ | ⟨_, _, _, _, _, _, h, _⟩ | ⟨_, _, _, _, h, _⟩ | ⟨_, _, _, h, _⟩ | ⟨id', rfl, h⟩ | ⟨_, h⟩ <;> try (simp [strip] at h; done)
    simp only [strip, CC.exit.injEq] at h
    subst h
    exact wp_exit ⟨σ, H, hst, hv⟩
  | ret =>
    intro code hc K σ H a w hst hv
    rcases compile_inv hc with ⟨h, _⟩ | ⟨_, _, _, _, h, _⟩ | ⟨_, _, _, _, _, h⟩ | ⟨_, _, _, _, _, h, _⟩ | ⟨_, _, _, _, _, _, h, _⟩ | ⟨_, _, _, _, h, _⟩ | ⟨_, _, _, h, _⟩ | ⟨_, _, h⟩ | ⟨rfl, h⟩ <;> try (simp [strip] at h; done)
    exact wp_ret ⟨σ, H, hst, hv⟩
  | cut key c ih =>
    intro code hc K σ H a w hst hv
    simp only [vc] at hv
    obtain ⟨σ', H', hwk, hrest⟩ := hv
    exact ih code hc K _ _ a w (hwk _ _ _ hst) hrest
  | keep ls lh c ih =>
    intro code hc K σ H a w hst hv
    simp only [vc] at hv
    refine ih code hc K _ _ a w ?_ hv
    obtain ⟨hd, hN, tp, hw, hr⟩ := hst
    have hm := hw.sub (keepH_sub (l := lh))
    refine ⟨hd, hN, tp, hm.1, fun t => hm.2 _ _ ?_⟩
    unfold keepS
    exact keepS_R hr t
end
end Go.Gv

namespace Go.Gv
set_option linter.unusedSimpArgs false
set_option linter.unusedVariables false

theorem Spc.mono (s : Spc) : MonoPT s.pt := by
  cases s with
  | none => exact fun _ _ _ _ _ _ h => h
  | pure c => exact fun d ds H K K' hk h => ⟨h.1, fun r hr => hk r H (h.2 r hr)⟩
  | gen A h => exact h

section
variable {S : Nat → Spc} {σ : Sg} {H : HMap}

theorem readVC_mono {c : COp} {K K' : D → Prop} (hk : ∀ d, K d → K' d) (h : readVC c σ H K) : readVC c σ H K' := by
  obtain ⟨pre, out, hf⟩ := lin_read c σ H
  have hf : ∀ K, readVC c σ H K ↔ (pre ∧ ∀ d, out d → K d) := hf
  rw [hf] at h ⊢
  exact ⟨h.1, fun d hd => hk d (h.2 d hd)⟩

theorem srcVC_mono {n : Nat} {d : D} {K K' : List D → Prop} (hk : ∀ l, K l → K' l) (h : srcVC n d H K) : srcVC n d H K' := by
  unfold srcVC at h ⊢
  split at h <;> (try simp only at h ⊢)
  · exact ⟨h.1, hk _ h.2⟩
  · split at h
    · exact ⟨h.1, h.2.1, hk _ h.2.2⟩
    · exact h.elim
  · exact hk _ h
  · split at h
    · exact ⟨h.1, h.2.1, h.2.2.1, hk _ h.2.2.2⟩
    · exact h.elim

theorem opVC_mono {c : COp} {dst : Option Nat} {K K' : D → HMap → Prop} (hk : ∀ d H, K d H → K' d H) (h : opVC c dst σ H K) : opVC c dst σ H K' := by
  by_cases hro : c.isRead = true
  · have e : ∀ K, opVC c dst σ H K = readVC c σ H fun d => K d H := by
      intro K
      cases c <;> first | rfl | (simp [COp.isRead] at hro; done) | skip
      rename_i im x
      cases im <;> first | rfl | (simp [COp.isRead] at hro)
    rw [e] at h ⊢
    exact readVC_mono (fun d hd => hk d H hd) h
  · cases c
    case alloc el z =>
      simp only [opVC] at h ⊢
      split at h
      · exact fun b => hk _ _ (h b)
      · exact h.elim
    case box el im x =>
      cases im with
      | true => exact absurd rfl hro
      | false =>
        simp only [opVC] at h ⊢
        split at h
        · exact ⟨h.1, fun b => hk _ _ (h.2 b)⟩
        · exact h.elim
    case nslice el n =>
      simp only [opVC] at h ⊢
      split at h
      · exact fun b => hk _ _ (h b)
      · exact h.elim
    case mslice el n ps =>
      simp only [opVC] at h ⊢
      split at h
      · exact ⟨h.1, fun b => hk _ _ (h.2 b)⟩
      · exact h.elim
    case mkslice el n b agg z l c =>
      simp only [opVC] at h ⊢
      split at h
      · split at h
        · exact ⟨h.1, h.2.1, h.2.2.1, h.2.2.2.1, fun x => hk _ _ (h.2.2.2.2 x)⟩
        · exact h.elim
      · exact h.elim
    case store rt sz x y =>
      simp only [opVC] at h ⊢
      refine ⟨h.1, h.2.1, ?_⟩
      have h2 := h.2.2
      clear h
      split at h2
      · split at h2
        · exact ⟨h2.1, h2.2.1, hk _ _ h2.2.2⟩
        · exact h2.elim
      · split at h2
        · exact ⟨h2.1, h2.2.1, h2.2.2.1, h2.2.2.2.1, h2.2.2.2.2.1, fun d hd => hk _ _ (h2.2.2.2.2.2 d hd)⟩
        · exact h2.elim
      · exact h2.elim
    case srange x =>
      simp only [opVC] at h ⊢
      split at h
      · exact fun b => hk _ _ (h b)
      · exact h.elim
    case snext x =>
      simp only [opVC] at h ⊢
      split at h
      · obtain ⟨rfl, h⟩ := h
        refine ⟨rfl, ?_⟩
        split at h
        · exact ⟨h.1, fun e => hk _ _ (h.2.1 e), fun e => hk _ _ (h.2.2 e)⟩
        · exact h.elim
      · exact h.elim
    case append rt el n b x y =>
      simp only [opVC] at h ⊢
      refine srcVC_mono (fun l h => ?_) h
      split at h
      · split at h
        · exact ⟨h.1, h.2.1, h.2.2.1, h.2.2.2.1, h.2.2.2.2.1, fun v => hk _ _ (h.2.2.2.2.2 v)⟩
        · exact h.elim
      · split at h
        · exact ⟨h.1, h.2.1, fun v => hk _ _ (h.2.2 v)⟩
        · exact h.elim
      · split at h
        · exact ⟨h.1, h.2.1, h.2.2.1, h.2.2.2.1, h.2.2.2.2.1, h.2.2.2.2.2.1, h.2.2.2.2.2.2.1, fun v => hk _ _ (h.2.2.2.2.2.2.2 v)⟩
        · exact h.elim
      · exact h.elim
    case appmk el n b agg z x c =>
      simp only [opVC] at h ⊢
      split at h
      · split at h
        · exact ⟨h.1, h.2.1, h.2.2.1, fun v => hk _ _ (h.2.2.2 v)⟩
        · exact h.elim
      · exact h.elim
    case clear n agg z x =>
      simp only [opVC] at h ⊢
      split at h
      · split at h
        · exact ⟨h.1, h.2.1, hk _ _ h.2.2⟩
        · exact h.elim
      · split at h
        · exact ⟨h.1, h.2.1, h.2.2.1, hk _ _ h.2.2.2⟩
        · exact h.elim
      · exact hk _ _ h
      · exact h.elim
    case copy n x y =>
      simp only [opVC] at h ⊢
      refine srcVC_mono (fun l h => ?_) h
      split at h
      · split at h
        · exact ⟨h.1, h.2.1, hk _ _ h.2.2⟩
        · exact h.elim
      · split at h
        · exact ⟨h.1, h.2.1, h.2.2.1, hk _ _ h.2.2.2⟩
        · exact h.elim
      · exact h.elim
    case call f xs => exact h.elim
    case callv f xs => exact h.elim
    all_goals exact absurd rfl hro

theorem callVC_mono {c : COp} {dst : Option Nat} {K K' : D → HMap → Prop} (hk : ∀ d H, K d H → K' d H) (h : callVC S c dst σ H K) : callVC S c dst σ H K' := by
  cases c
  case call f args => exact (S f).mono _ _ _ _ _ hk h
  case callv f args =>
    simp only [callVC] at h ⊢
    split at h
    · exact (S _).mono _ _ _ _ _ hk h
    · exact h.elim
  all_goals
    simp only [callVC] at h ⊢
    exact opVC_mono hk h

theorem frzL_mono : ∀ (cs : List D) (H : HMap) {K K' : List D → HMap → Prop}, (∀ cs H, K cs H → K' cs H) → frzL cs H K → frzL cs H K'
  | [], H, K, K', hk, h => hk _ _ h
  | c :: cs, H, K, K', hk, h => by
    have other : frzL cs H (fun cs' H' => K (c :: cs') H') → frzL cs H (fun cs' H' => K' (c :: cs') H') := fun h => frzL_mono cs H (fun _ _ h => hk _ _ h) h
    cases c
    case own id x =>
      simp only [frzL] at h ⊢
      split at h
      · exact ⟨h.1, frzL_mono cs _ (fun _ _ h => hk _ _ h) h.2⟩
      · exact h.elim
    all_goals exact other h

theorem frzVC_mono {t n : Nat} {K K' : Sg → HMap → Prop} (hk : ∀ σ H, K σ H → K' σ H) (h : frzVC t n σ H K) : frzVC t n σ H K' := by
  unfold frzVC at h ⊢
  split at h <;> (try simp only at h ⊢)
  · split at h
    · exact ⟨h.1, hk _ _ h.2⟩
    · exact h.elim
  · split at h
    · exact ⟨h.1, hk _ _ h.2⟩
    · exact h.elim
  · exact hk _ _ h
  · split at h
    · refine ⟨h.1, h.2.1, ?_⟩
      have h2 := h.2.2
      split at h2
      · rename_i e
        rw [if_pos e]
        exact ⟨h2.1, fun v => hk _ _ (h2.2 v)⟩
      · rename_i e
        rw [if_neg e]
        exact hk _ _ h2
    · exact h.elim
  · exact frzL_mono _ _ (fun _ _ h => hk _ _ h) h
  · exact hk _ _ h

theorem guardVC_mono {g : Option (Nat × Bool)} {yes no yes' no' : Sg → Prop} (h1 : ∀ σ, yes σ → yes' σ) (h2 : ∀ σ, no σ → no' σ) (h : guardVC g σ yes no) : guardVC g σ yes' no' := by
  unfold guardVC at h ⊢
  split at h <;> (try simp only at h ⊢)
  · exact h1 _ h
  · split at h
    · exact ⟨fun e => h1 _ (h.1 e), fun e => h2 _ (h.2 e)⟩
    · exact h2 _ h
    · exact h.elim

theorem vcL_mono : ∀ (l : List CI) (σ : Sg) (H : HMap) {K K' : Sg → HMap → Prop}, (∀ σ H, K σ H → K' σ H) → vcL S l σ H K → vcL S l σ H K'
  | [], σ, H, K, K', hk, h => hk _ _ h
  | .frz t n :: r, σ, H, K, K', hk, h => frzVC_mono (fun σ H h => vcL_mono r σ H hk h) h
  | .op dst g c :: r, σ, H, K, K', hk, h => guardVC_mono (fun σ h => callVC_mono (fun d H h => vcL_mono r _ H hk h) h) (fun σ h => vcL_mono r _ H hk h) h

theorem preVC_mono {c : COp} {dst : Option Nat} {Hr : HMap} {K K' : D → HMap → Prop} (hk : ∀ d H, K d H → K' d H) (h : preVC S c dst σ Hr H K) : preVC S c dst σ Hr H K' := by
  obtain ⟨pre, out, hf⟩ := linU_pre S c dst σ Hr (rdH H (c.wid dst))
  have hf : ∀ H', rdH H' (c.wid dst) = rdH H (c.wid dst) → ∀ K, preVC S c dst σ Hr H' K ↔ (pre ∧ ∀ d u, out d u → K d (appU H' (c.wid dst) u)) := hf
  rw [hf H rfl] at h ⊢
  exact ⟨h.1, fun d u hd => hk _ _ (h.2 d u hd)⟩

theorem vcPre_mono : ∀ (l : List CI) (σ : Sg) (Hr H : HMap) {K K' : Sg → HMap → Prop}, (∀ σ H, K σ H → K' σ H) → vcPre S l σ Hr H K → vcPre S l σ Hr H K'
  | [], σ, Hr, H, K, K', hk, h => hk _ _ h
  | .frz t n :: r, σ, Hr, H, K, K', hk, h => h.elim
  | .op dst g c :: r, σ, Hr, H, K, K', hk, h => guardVC_mono (fun σ h => preVC_mono (fun d H h => vcPre_mono r _ Hr H hk h) h) (fun σ h => vcPre_mono r _ Hr H hk h) h

theorem vc_mono (c : CC) : ∀ {K K' : Ex → Sg → HMap → Prop} (σ : Sg) (H : HMap), (∀ e σ H, K e σ H → K' e σ H) → vc S c K σ H → vc S c K' σ H := by
  induction c with
  | skip => intro K K' σ H hk h; simp only [vc] at h ⊢; exact hk _ _ _ h
  | reg l => intro K K' σ H hk h; simp only [vc] at h ⊢; exact vcL_mono l σ H (fun _ _ h => hk _ _ _ h) h
  | regd p t => intro K K' σ H hk h; simp only [vc] at h ⊢; exact vcPre_mono p σ _ H (fun σ H h => vcL_mono t σ H (fun _ _ h => hk _ _ _ h) h) h
  | seq a b iha ihb =>
    intro K K' σ H hk h
    simp only [vc] at h ⊢
    refine iha σ H (fun e σ H h => ?_) h
    cases e with
    | norm => exact ihb σ H hk h
    | ex i => exact hk _ _ _ h
    | ret => exact hk _ _ _ h
  | ite c a b iha ihb =>
    intro K K' σ H hk h
    simp only [vc] at h ⊢
    split at h
    · exact ⟨fun e => iha σ H hk (h.1 e), fun e => ihb σ H hk (h.2 e)⟩
    · exact h.elim
  | block id b ih =>
    intro K K' σ H hk h
    simp only [vc] at h ⊢
    refine ih σ H (fun e σ H h => ?_) h
    cases e with
    | norm => exact hk _ _ _ h
    | ret => exact hk _ _ _ h
    | ex i =>
      dsimp only at h ⊢
      split at h
      · rename_i e; rw [if_pos e]; exact hk _ _ _ h
      · rename_i e; rw [if_neg e]; exact hk _ _ _ h
  | loop k b ih =>
    intro K K' σ H hk h
    simp only [vc] at h ⊢
    obtain ⟨inv, h0, h1⟩ := h
    refine ⟨inv, h0, fun x hx => ih _ _ (fun e σ H h => ?_) (h1 x hx)⟩
    cases e with
    | norm => exact h
    | ex i => exact hk _ _ _ h
    | ret => exact hk _ _ _ h
  | exit id => intro K K' σ H hk h; simp only [vc] at h ⊢; exact hk _ _ _ h
  | ret => intro K K' σ H hk h; simp only [vc] at h ⊢; exact hk _ _ _ h
  | cut k c ih =>
    intro K K' σ H hk h
    simp only [vc] at h ⊢
    obtain ⟨σ', H', h0, h1⟩ := h
    exact ⟨σ', H', h0, ih _ _ hk h1⟩
  | keep ls lh c ih => intro K K' σ H hk h; simp only [vc] at h ⊢; exact ih _ _ hk h
end
end Go.Gv
