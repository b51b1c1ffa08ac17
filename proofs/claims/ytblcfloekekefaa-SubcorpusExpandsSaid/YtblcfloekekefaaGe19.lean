/- A part of the framework and of the walks: W21 Sh Asm2 Ce I1. -/
import Derived.Shelf.SlSortCmp.NoneTotal
import Derived.Shelf.SlSortCmp.WholeK
import Derived.Ground.SlsfProg
import Derived.Test.YtblcfloekekefaaProg
import Derived.Test.YtblcfloekekefaaChecked
import Derived.RangeFuncNested
import Derived.RangeFuncBound
import Derived.RangeFuncCalls
import Derived.RangeFuncLeaves
import Derived.Shelf.Abstract
import Derived.Shelf.RegionOpen
import Derived.WalkKit
import Derived.OwnWalkIn
import Derived.TacticsInMore
import Derived.LoopNIn
import Derived.LoopIn
import Derived.Test.YtblcfloekekefaaGe18
import Derived.Test.YtblcfloekekefaaGe12

namespace Go.Gv
set_option linter.unusedSimpArgs false
set_option linter.unusedVariables false
open Cod (enc dec)
open Go.Proofs Go.Sort Go.Shelf Go.Lib Go.RowKit
theorem fm_get {α β : Type} {f : α → List β} {n : Nat} : ∀ {l : List α}, (∀ x ∈ l, (f x).length = n) → ∀ {i j : Nat}, j < n → (l.flatMap f)[i * n + j]? = (l[i]?).bind fun x => (f x)[j]?
  | [], _, i, j, _ => by simp
  | d :: es, h, 0, j, hj => by
    have hd := h d (by simp)
    simp only [List.flatMap_cons, Nat.zero_mul, Nat.zero_add]
    rw [List.getElem?_append_left (by omega)]
    simp
  | d :: es, h, i + 1, j, hj => by
    have hd := h d (by simp)
    have ih := fm_get (l := es) (fun d hd => h d (by simp [hd])) (i := i) hj
    simp only [List.flatMap_cons]
    rw [List.getElem?_append_right (by rw [hd, Nat.succ_mul]; omega), hd]
    have : (i + 1) * n + j - n = i * n + j := by rw [Nat.succ_mul]; omega
    rw [this, ih]
    simp
theorem fm_len {α β : Type} {f : α → List β} {n : Nat} : ∀ {l : List α}, (∀ x ∈ l, (f x).length = n) → (l.flatMap f).length = l.length * n
  | [], _ => by simp
  | d :: es, h => by
    have ih := fm_len (l := es) (fun d hd => h d (by simp [hd]))
    simp only [List.flatMap_cons, List.length_append]
    rw [ih, h d (by simp), List.length_cons, Nat.succ_mul]
    omega
section
variable {X : Type} [Cod X] [Inhabited X] (ev : X → List Value) (k : Nat) (hk : ∀ x, (ev x).length = k)
include hk
omit [Cod X] in
theorem flatK_list (l : List X) : (flatK ev k l.toArray).toList = l.flatMap ev := by
  have hl := fm_len (f := ev) (n := k) (l := l) (fun x _ => hk x)
  apply List.ext_getElem?
  intro t
  by_cases ht : t < l.length * k
  · have k0 : 0 < k := by
      rcases Nat.eq_zero_or_pos k with h | h
      · subst h; simp at ht
      · exact h
    have h1 := get_flatK ev k l.toArray t (by simpa using ht)
    have hs : t < (flatK ev k l.toArray).size := by simpa using ht
    rw [getElem!_pos _ t hs] at h1
    rw [Array.getElem?_toList, Array.getElem?_eq_getElem hs, h1]
    have hm : t % k < k := Nat.mod_lt _ k0
    have hdm : t = (t / k) * k + t % k := by have := Nat.div_add_mod t k; rw [Nat.mul_comm] at this; omega
    have hq : t / k < l.length := Nat.div_lt_of_lt_mul (by rw [Nat.mul_comm]; exact ht)
    have h2 := fm_get (f := ev) (n := k) (l := l) (fun x _ => hk x) (i := t / k) hm
    rw [← hdm] at h2
    rw [h2, List.getElem?_eq_getElem hq]
    have h3 : (l.toArray)[t / k]! = l[t / k] := by rw [getElem!_pos l.toArray (t / k) (by simpa using hq)]; simp
    rw [h3]
    have h4 : t % k < (ev l[t / k]).length := by rw [hk]; exact hm
    simp only [Option.bind_some]
    rw [getElem!_pos (ev l[t / k]) (t % k) h4, List.getElem?_eq_getElem h4]
  · rw [List.getElem?_eq_none (by simpa using ht), List.getElem?_eq_none (by omega)]
end
theorem frozen_plain {w : World} {b j el : Nat} {c : Array Value} (h : w.heap[b]? = some (.cells c el (0, 0))) : w.frozen? ⟨b, j, none⟩ = false := by
  simp [World.frozen?, h]
theorem cell_plain {w : World} {b j el : Nat} {c : Array Value} {fr : Nat × Nat} (h : w.heap[b]? = some (.cells c el fr)) : w.cell? ⟨b, j, none⟩ = c[j]? := by
  simp [World.cell?, h]

theorem put_other {w : World} {gb b : Nat} {f : Array Value → Array Value} {os : Array Obj} (hb : b < w.heap.size) (hne : b ≠ gb) : (grow (mapBlock w gb f) os).heap[b]? = w.heap[b]? := by
  simp only [grow, mapBlock]
  rw [Array.getElem?_append_left (by simpa using hb), Array.getElem?_modify]
  have : ¬ gb = b := fun e => hne e.symm
  simp [this]
theorem put_this {w : World} {gb el : Nat} {c : Array Value} {fr : Nat × Nat} {f : Array Value → Array Value} {os : Array Obj} (h : w.heap[gb]? = some (.cells c el fr)) : (grow (mapBlock w gb f) os).heap[gb]? = some (.cells (f c) el fr) := by
  have hb : gb < w.heap.size := (Array.getElem?_eq_some_iff.1 h).1
  simp only [grow, mapBlock]
  rw [Array.getElem?_append_left (by simpa using hb), Array.getElem?_modify]
  simp [h, onCells]

section
variable {P : Program} {ρ : Ren} {X : Type} [Cod X] [Inhabited X]
def P_srt (g : Nat) (x : D × Unit) (l : List X) : Prop := x.1 = .clo g [] ∧ l.length ≤ 100000
def Q_srt (cf : X → X → Int) (_ : D × Unit) (l r : List X) : Prop := r = l.mergeSort fun x y => !(ltOf cf) y x

/-- What a comparison leaves: the world has grown at its end. -/
theorem cmp_lays {g : Nat} {cf : X → X → Int} (ev : X → List Value) (hev : ∀ x, enc x = D.agg ((ev x).map D.v)) (hone : ∀ x, ∀ v ∈ ev x, v.oneCell' = true ∧ ∀ s, v = .string s → s.size ≤ maxLen)
    (hg : Tri P g (spc (a2 X X) (fun _ => True) (enc (X := Int)) fun x y => y = cf x.1 x.2).pt) (blk size k : Nat) (w : World) : CmpLays P g #[] ev k cf blk 0 size w := by
  intro m os dk _ x y
  generalize sortWorldK ev k w blk 0 m dk os = W
  have hR : ∀ z, R (fun _ => False) (Imm (fun b => b < W.heap.size) (fun _ => False) noH W) W (.agg (ev z).toArray) (enc z) := fun z => by
    rw [hev z]
    refine .agg (ev z) _ (by simp) (fun v hv => (hone z v hv).1) fun j v c h1 h2 => ?_
    rw [List.getElem?_map] at h2
    rw [h1] at h2
    cases h2
    exact .v v (hone z v (List.mem_of_getElem? h1)).1 (hone z v (List.mem_of_getElem? h1)).2
  obtain ⟨_, hc⟩ := hg (fun b => b < W.heap.size) (fun _ => False) W [.agg (ev x).toArray, .agg (ev y).toArray] [enc x, enc y] noH 0 (fun r H' => r = enc (cf x y) ∧ H' = noH) (fun b h => h) (fun b h => h.elim)
    ⟨fun i j r s b h => by simp [noH] at h, fun i r b h => by simp [noH] at h, fun i r h => by simp [noH] at h⟩ rfl
    (fun j v c h1 h2 => by
      rcases j with _ | _ | j
      · simp at h1 h2; subst h1; subst h2; exact hR x
      · simp at h1 h2; subst h1; subst h2; exact hR y
      · simp at h1)
    (by rw [spc_pt]; simp)
  refine hc.mono ?_
  rintro e w' ⟨v, r, H', tp', rfl, ⟨rfl, rfl⟩, _, _, _, hs, _, _, hv⟩
  have hv' : v = .int .i64 (cf x y) := by
    have : R tp' (Imm (fun b => b < W.heap.size) tp' noH w') w' v (.v (.int .i64 (cf x y))) := hv
    exact this.inv_v
  subst hv'
  refine ⟨rfl, w'.drawn - W.drawn, w'.heap.extract W.heap.size w'.heap.size, ?_⟩
  have hheap : w'.heap = W.heap ++ w'.heap.extract W.heap.size w'.heap.size := by
    apply Array.ext_getElem?
    intro b
    by_cases hb : b < W.heap.size
    · rw [Array.getElem?_append_left hb]
      exact hs.same b hb (fun ⟨i, r, h, _⟩ => by simp [noH] at h) (fun h => h)
    · rw [Array.getElem?_append_right (by omega), Array.getElem?_extract]
      have hsz : W.heap.size ≤ w'.heap.size := hs.size
      by_cases hb2 : b < w'.heap.size
      · rw [if_pos (by omega)]
        congr 1
        omega
      · rw [if_neg (by omega), Array.getElem?_eq_none (by omega)]
  have h1 := hs.os
  have h2 := hs.tape
  have h3 := hs.output
  have h4 := hs.drawn
  have h5 : W.drawn + (w'.drawn - W.drawn) = w'.drawn := by omega
  cases w'
  cases W
  simp only [grow, World.drewN] at *
  subst h1; subst h2; subst h3
  rw [h5, ← hheap]

theorem tri_sortFunc {fsort g : Nat} {cf : X → X → Int} (L : SlLaysF0.n6 P ρ) (hf : ρ.f 6 = fsort) (ev : X → List Value) (k el : Nat) (hk : ∀ x, (ev x).length = k) (hev : ∀ x, enc x = D.agg ((ev x).map D.v))
    (hone : ∀ x, ∀ v ∈ ev x, v.oneCell' = true ∧ ∀ s, v = .string s → s.size ≤ maxLen) (aE : ∀ w, (isAgg (ρ.t 24)).run P w = .ok true w) (zE : ∀ w, (Go.sizeOf (ρ.t 24)).run P w = .ok k w)
    (hO : SWO (ltOf cf)) (hT : ∀ x y, (ltOf cf) x y = false → (ltOf cf) y x = false → x = y) (hg : Tri P g (spc (a2 X X) (fun _ => True) (enc (X := Int)) fun x y => y = cf x.1 x.2).pt) (eg : CallEnter P g) (ef : CallEnter P fsort) :
    Tri P fsort (iuC (aD a0) (P_srt g) (Q_srt cf) el k).pt := by
  subst hf
  intro O tp w vs ds H d K hO' htl hsat hlen hargs hA
  obtain ⟨id, v, l, ds', x, rfl, hd, hid, ⟨hx1, hl5⟩, hK⟩ := hA
  have hds : ds' = [.clo g []] := by
    match ds', hd with
    | [], h => cases h
    | a :: r, h =>
      rw [aD_dec] at h
      match r, h with
      | [], h =>
        simp at h
        subst h
        simp only at hx1
        rw [hx1]
      | b :: r, h => cases h
  subst hds
  match vs, hlen, hargs with
  | [v0, fv], _, hargs =>
  have e0 : v0 = v := by
    have := hargs 0 v0 _ rfl rfl
    cases this; rfl
  have e1 : fv = .func (.func g) #[] #[] := by
    have := hargs 1 fv _ rfl rfl
    cases this with
    | clo _ xs _ hl _ =>
      have : xs = [] := by simpa using hl
      subst this; rfl
  subst e0; subst e1
  refine ⟨ef, ?_⟩
  obtain ⟨xs, ⟨hxl, hx⟩, hkn, hcells⟩ := hsat.ok id _ hid
  rcases hx with ⟨rfl, h0⟩ | ⟨gb, cap, cur, rfl, _, hgb, hcap, hcapm, hsz, htake⟩
  · have hl0 : l = [] := by simpa using h0
    subst hl0
    refine (AnyF.slices_SortFunc_none L none 0 _ w).mono ?_
    rintro e w' ⟨rfl, rfl⟩
    have hH : updH H id (some (.row (.slice none 0 0) el k (([] : List X).map enc))) = H := by
      funext i
      simp only [updH]
      by_cases hi : i = id
      · subst hi; simp [hid]
      · simp [hi]
    refine ⟨_, _, _, tp, rfl, hK [] (by simp [Q_srt]), fun b h => h, fun b h => .inl h, htl, .refl _ _ _, fun b h => .inl (by rwa [hH] at h), by rw [hH]; exact hsat, .tup [] [] rfl (fun k x c h => by simp at h)⟩
  · have hll : (l.map (enc (X := X))).length = l.length := by simp
    rw [hll] at hcap hxl htake ⊢
    have hval : ∀ (j : Nat) (y v' : Value), xs[j]? = some y → (flat (l.map enc))[j]? = some (.v v') → y = v' := fun j y v' h1 h2 => ((hcells j y _ h1 h2).2).inv_v
    have hfl : flat (l.map enc) = (l.flatMap ev).map D.v := by
      unfold flat
      rw [List.flatMap_map, List.map_flatMap]
      congr 1
      funext z
      rw [hev z]; rfl
    have hfml := fm_len (f := ev) (n := k) (l := l) (fun x _ => hk x)
    have hxs : xs = l.flatMap ev := by
      apply List.ext_getElem?
      intro j
      by_cases hj : j < l.length * k
      · have e1 : xs[j]? = some xs[j] := List.getElem?_eq_getElem (by omega)
        have e2 : (l.flatMap ev)[j]? = some (l.flatMap ev)[j] := List.getElem?_eq_getElem (by omega)
        rw [e1, e2]
        congr 1
        refine hval j _ _ e1 ?_
        rw [hfl, List.getElem?_map, e2]; rfl
      · rw [List.getElem?_eq_none (by omega), List.getElem?_eq_none (by omega)]
    have hcur : ∀ j, j < l.length * k → cur[j]? = (l.flatMap ev)[j]? := fun j hj => by
      rw [← hxs, ← htake, List.getElem?_take, if_pos hj, Array.getElem?_toList]
    have hgs : gb < w.heap.size := (Array.getElem?_eq_some_iff.1 hgb).1
    have hH : HoldsK ev k w gb 0 l.toArray := by
      intro j hj
      have hj' : j < l.length * k := by simpa using hj
      refine ⟨?_, frozen_plain hgb⟩
      rw [cell_plain hgb, Nat.zero_add, hcur j hj', ← flatK_list ev k hk l, Array.getElem?_toList, Array.getElem?_eq_getElem hj, getElem!_pos _ j hj]
      rfl
    have hcall := AnyQ.slices_SortFunc_total L k aE zE ev hk (fun x v hv => (hone x v hv).1) cf hO g #[] gb 0 cap l.toArray w eg (cmp_lays ev hev hone hg gb _ k w) hH hgs (by simp; omega) hT
    simp only [List.size_toArray] at hcall
    refine hcall.mono ?_
    rintro e w' ⟨rfl, n, os, hw'⟩
    generalize hl' : (l.mergeSort fun x y => !(ltOf cf) y x) = l' at hw'
    have hlen' : l'.length = l.length := by rw [← hl']; simp
    have hwo : ∀ b, b < w.heap.size → b ≠ gb → w'.heap[b]? = w.heap[b]? := fun b hb hne => by
      rw [hw']; exact put_other (w := Sort.ahead w n) hb hne
    have hthis : w'.heap[gb]? = some (.cells (putCells _root_.id 0 (flatK ev k l'.toArray) cur) el (0, 0)) := by
      rw [hw']; exact put_this (w := Sort.ahead w n) hgb
    have hws : w.heap.size ≤ w'.heap.size := by
      rw [hw']; simp [sortWorldK, grow, putRowK, putRow, mapBlock, Sort.ahead]
    have hos : w'.os = w.os ∧ w'.tape = w.tape ∧ w'.output = w.output ∧ w.drawn ≤ w'.drawn := by
      rw [hw']; exact ⟨rfl, rfl, rfl, Nat.le_add_right _ _⟩
    clear hw' hcall
    have hbo : (Res.row (.slice (some ⟨gb, 0, none⟩) l.length cap) el k (l.map enc)).blk = some gb := rfl
    have hid' : H id = some (.row (.slice (some ⟨gb, 0, none⟩) l.length cap) el k (l.map enc)) := by rw [hid, hll]
    have hown : owns H gb := ⟨id, _, hid', hbo⟩
    have htp : ∀ b, tp b → b ≠ gb := fun b hb e => (hsat.out id _ gb hid' hbo).2 (e ▸ hb)
    have htapes : ∀ b, tp b → TapeStep w w' b := fun b hb => .same (hwo b (htl b hb) (htp b hb))
    have hK' := hK l' (by simp only [Q_srt]; rw [hl'])
    rw [hll] at hK'
    generalize hH2 : updH H id (some (.row (.slice (some ⟨gb, 0, none⟩) l.length cap) el k (l'.map enc))) = H2 at hK'
    have hown2 : ∀ b, owns H2 b → owns H b := fun b ⟨i, r, h1, h2⟩ => by
      rw [← hH2] at h1
      simp only [updH] at h1
      split at h1
      · cases h1; cases h2; exact hown
      · exact ⟨i, r, h1, h2⟩
    have hmove : ∀ y c, R tp (Imm O tp H w) w y c → R tp (Imm O tp H2 w') w' y c := fun y c hr => hr.mono (fun _ h => h) (fun b hb => ⟨⟨Nat.lt_of_lt_of_le hb.1 hws, hb.2.1, hb.2.2.1, fun h => hb.2.2.2 (hown2 b h)⟩, hwo b hb.1 (fun e => hb.2.2.2 (e ▸ hown))⟩) htapes
    have hget : ∀ i r, H2 i = some r → (i = id ∧ r = .row (.slice (some ⟨gb, 0, none⟩) l.length cap) el k (l'.map enc)) ∨ (i ≠ id ∧ H i = some r) := fun i r h => by
      rw [← hH2] at h
      simp only [updH] at h
      split at h
      · rename_i e; cases h; exact .inl ⟨e, rfl⟩
      · rename_i e; exact .inr ⟨e, h⟩
    refine ⟨_, _, H2, tp, rfl, hK', fun b h => h, fun b h => .inl h, fun b hb => Nat.lt_of_lt_of_le (htl b hb) hws, ⟨hos.1, hos.2.1, hos.2.2.1, hws, fun b hb ho ht => hwo b hb (fun e => ho (e ▸ hown)), htapes, hos.2.2.2⟩, fun b h => .inl (hown2 b h), ⟨?_, ?_, ?_⟩, .tup [] [] rfl (fun k x c h => by simp at h)⟩
    · intro i j r s b h1 h2 h3 h4
      rcases hget i r h1 with ⟨rfl, rfl⟩ | ⟨n1, k1⟩
      · rcases hget j s h2 with ⟨rfl, rfl⟩ | ⟨n2, k2⟩
        · rfl
        · exact hsat.dis _ j _ s b hid' k2 h3 h4
      · rcases hget j s h2 with ⟨rfl, rfl⟩ | ⟨n2, k2⟩
        · exact hsat.dis i _ r _ b k1 hid' h3 h4
        · exact hsat.dis i j r s b k1 k2 h3 h4
    · intro i r b h1 h2
      rcases hget i r h1 with ⟨rfl, rfl⟩ | ⟨n1, k1⟩
      · exact hsat.out _ _ b hid' h2
      · exact hsat.out i r b k1 h2
    · intro i r h1
      rcases hget i r h1 with ⟨rfl, rfl⟩ | ⟨n1, k1⟩
      · have hfml' := fm_len (f := ev) (n := k) (l := l') (fun x _ => hk x)
        have hps : (putCells _root_.id 0 (flatK ev k l'.toArray) cur).size = cur.size := by simp [putCells]
        refine ⟨l'.flatMap ev, ⟨by simp; rw [← List.length_flatMap]; exact hfml', .inr ⟨gb, cap, _, by simp [hlen'], Nat.zero_le _, hthis, by simp; omega, hcapm, by rw [hps, hsz], ?_⟩⟩, fun d hd => ?_, fun j y c h1 h2 => ?_⟩
        · simp only [List.length_map, hlen']
          apply List.ext_getElem?
          intro j
          rw [List.getElem?_take]
          by_cases hj : j < l.length * k
          · have hjc : j < cur.size := by
              have : l.length * k ≤ cap * k := Nat.mul_le_mul_right k hcap
              omega
            have hjf : j < (flatK ev k l'.toArray).size := by simp [hlen']; exact hj
            rw [if_pos hj, Array.getElem?_toList, ← flatK_list ev k hk l', Array.getElem?_toList]
            simp only [putCells, Array.getElem?_mapIdx, Array.getElem?_eq_getElem hjc, Option.map_some, Nat.zero_le, Nat.zero_add, hjf, and_self, if_true, Nat.sub_zero, id_eq]
            rw [Array.getElem?_eq_getElem hjf, getElem!_pos _ j hjf]
          · rw [if_neg hj, List.getElem?_eq_none (by rw [hfml', hlen']; omega)]
        · obtain ⟨z, _, rfl⟩ := List.mem_map.1 hd
          rw [hev z]
          exact ⟨rfl, by simp [D.cells, hk]⟩
        · have hfl' : flat (l'.map enc) = (l'.flatMap ev).map D.v := by
            unfold flat
            rw [List.flatMap_map, List.map_flatMap]
            congr 1
            funext z
            rw [hev z]; rfl
          rw [hfl', List.getElem?_map, h1] at h2
          cases h2
          obtain ⟨z, _, hz⟩ := List.mem_flatMap.1 (List.mem_of_getElem? h1)
          exact ⟨(hone z y hz).1, .v y (hone z y hz).1 (hone z y hz).2⟩
      · have hne : ∀ b, r.blk = some b → b ≠ gb := fun b hb e => n1 (hsat.dis i id r _ gb k1 hid' (e ▸ hb) hbo)
        exact (hsat.ok i r k1).conv hmove (fun b hb => hwo b ((hsat.ok i r k1).lt hb) (hne b hb))
end
end Go.Gv

namespace Go.Proofs
open Go.Shelf
def Try.sortSpan_ren : Go.Shelf.Ren := ⟨fun | 6 => 51 | 15 => 64 | 14 => 63 | 28 => 83 | 29 => 84 | 20 => 75 | 21 => 76 | 22 => 77 | 23 => 78 | 24 => 79 | 25 => 80 | 26 => 81 | 27 => 82 | 46 => 92 | 47 => 93 | 48 => 94 | 49 => 95 | 50 => 96 | 57 => 101 | n => n, fun | 22 => 34 | 24 => 45 | 25 => 66 | 3 => 3 | 39 => 104 | 0 => 0 | 53 => 122 | 55 => 124 | 4 => 4 | 46 => 115 | 45 => 114 | 50 => 119 | 5 => 5 | 9 => 9 | 66 => 131 | 70 => 135 | 76 => 141 | 77 => 142 | n => n, fun | n => n⟩
theorem Try.sortSpan : Go.Proofs.SlLaysF0.n6 Try.prog Try.sortSpan_ren := {
  mixed := by kernel_rfl
  f6 := ⟨Try.f51.name, by decide, Try.func51.trans (congrArg some (by kernel_rfl))⟩
  f14 := ⟨Try.f63.name, by decide, Try.func63.trans (congrArg some (by kernel_rfl))⟩
  f15 := Try.func64.trans (congrArg some (by kernel_rfl))
  f20 := ⟨Try.f75.name, by decide, Try.func75.trans (congrArg some (by kernel_rfl))⟩
  f21 := ⟨Try.f76.name, by decide, Try.func76.trans (congrArg some (by kernel_rfl))⟩
  f22 := ⟨Try.f77.name, by decide, Try.func77.trans (congrArg some (by kernel_rfl))⟩
  f23 := ⟨Try.f78.name, by decide, Try.func78.trans (congrArg some (by kernel_rfl))⟩
  f24 := ⟨Try.f79.name, by decide, Try.func79.trans (congrArg some (by kernel_rfl))⟩
  f25 := ⟨Try.f80.name, by decide, Try.func80.trans (congrArg some (by kernel_rfl))⟩
  f26 := ⟨Try.f81.name, by decide, Try.func81.trans (congrArg some (by kernel_rfl))⟩
  f27 := ⟨Try.f82.name, by decide, Try.func82.trans (congrArg some (by kernel_rfl))⟩
  f28 := Try.func83.trans (congrArg some (by kernel_rfl))
  f29 := Try.func84.trans (congrArg some (by kernel_rfl))
  f46 := ⟨Try.f92.name, by decide, Try.func92.trans (congrArg some (by kernel_rfl))⟩
  f47 := Try.func93.trans (congrArg some (by kernel_rfl))
  f48 := Try.func94.trans (congrArg some (by kernel_rfl))
  f49 := ⟨Try.f95.name, by decide, Try.func95.trans (congrArg some (by kernel_rfl))⟩
  f50 := ⟨Try.f96.name, by decide, Try.func96.trans (congrArg some (by kernel_rfl))⟩
  f57 := ⟨Try.f101.name, by decide, Try.func101.trans (congrArg some (by kernel_rfl))⟩
  t0 := Try.underlying0
  a0 := Try.isAgg0
  z0 := Try.sizeOf0
  v0 := Try.zeroValue0
  t3 := Try.underlying3
  a3 := Try.isAgg3
  z3 := Try.sizeOf3
  v3 := Try.zeroValue3
  t4 := Try.underlying4
  a4 := Try.isAgg4
  z4 := Try.sizeOf4
  v4 := Try.zeroValue4
  t5 := Try.underlying5
  a5 := Try.isAgg5
  z5 := Try.sizeOf5
  v5 := Try.zeroValue5
  t9 := Try.underlying9
  a9 := Try.isAgg9
  z9 := Try.sizeOf9
  v9 := Try.zeroValue9
  t22 := Try.underlying34
  a22 := Try.isAgg34
  z22 := Try.sizeOf34
  v22 := Try.zeroValue34
  t25 := Try.underlying66
  a25 := Try.isAgg66
  z25 := Try.sizeOf66
  v25 := Try.zeroValue66
  t39 := Try.underlying104
  a39 := Try.isAgg104
  z39 := Try.sizeOf104
  v39 := Try.zeroValue104
  t45 := Try.underlying114
  a45 := Try.isAgg114
  z45 := Try.sizeOf114
  v45 := Try.zeroValue114
  t46 := Try.underlying115
  a46 := Try.isAgg115
  z46 := Try.sizeOf115
  v46 := Try.zeroValue115
  t50 := Try.underlying119
  a50 := Try.isAgg119
  z50 := Try.sizeOf119
  v50 := Try.zeroValue119
  t53 := Try.underlying122
  a53 := Try.isAgg122
  z53 := Try.sizeOf122
  v53 := Try.zeroValue122
  t55 := Try.underlying124
  a55 := Try.isAgg124
  z55 := Try.sizeOf124
  v55 := Try.zeroValue124
  t66 := Try.underlying131
  a66 := Try.isAgg131
  z66 := Try.sizeOf131
  v66 := Try.zeroValue131
  t70 := Try.underlying135
  a70 := Try.isAgg135
  z70 := Try.sizeOf135
  v70 := Try.zeroValue135
  t76 := Try.underlying141
  a76 := Try.isAgg141
  z76 := Try.sizeOf141
  v76 := Try.zeroValue141
  t77 := Try.underlying142
  a77 := Try.isAgg142
  z77 := Try.sizeOf142
  v77 := Try.zeroValue142 }
end Go.Proofs

namespace Go.Gv
open Go.Proofs Cod
set_option maxRecDepth 100000
theorem funIs_sub {X Y : Type} [Cod X] [Cod Y] {S S' : Nat → Spc} (h : ∀ g pc, S g = .pure pc ↔ S' g = .pure pc) (d : D) (p : X → Y) : FunIs S d p = FunIs S' d p :=
  propext ⟨fun ⟨g, c, pc, a, b, e⟩ => ⟨g, c, pc, a, (h g pc).1 b, e⟩, fun ⟨g, c, pc, a, b, e⟩ => ⟨g, c, pc, a, (h g pc).2 b, e⟩⟩
theorem t_subcorpus_lies_1 : Tri Try.prog f_subcorpus_lies_1 (s_subcorpus_lies_1).pt :=
  tri_walk (S := tab []) (tab_ok tab_nil) ok_subcorpus_lies_1 (fun _ => Nat.le_of_ble_eq_true rfl) (w_subcorpus_lies_1)
def Sa : Nat → Spc := tab [(f_subcorpus_lies_1, s_subcorpus_lies_1)]
theorem t_slices_IndexFunc_Span__a : Tri Try.prog f_slices_IndexFunc_Span (s_slices_IndexFunc_Span Sa).pt :=
  tri_walk (S := Sa) (tab_ok (tab_cons t_subcorpus_lies_1 tab_nil)) ok_slices_IndexFunc_Span (fun _ => Nat.le_of_ble_eq_true rfl) (w_slices_IndexFunc_Span)
theorem t_slices_ContainsFunc_Span : Tri Try.prog f_slices_ContainsFunc_Span (s_slices_ContainsFunc_Span Sa).pt :=
  tri_walk (S := tab [(f_slices_IndexFunc_Span, s_slices_IndexFunc_Span Sa)]) (tab_ok (tab_cons t_slices_IndexFunc_Span__a tab_nil)) ok_slices_ContainsFunc_Span (fun _ => Nat.le_of_ble_eq_true rfl) (w_slices_ContainsFunc_Span rfl)
theorem t_subcorpus_lies : Tri Try.prog f_subcorpus_lies (s_subcorpus_lies).pt :=
  tri_walk (S := tab [(f_slices_ContainsFunc_Span, s_slices_ContainsFunc_Span Sa)]) (tab_ok (tab_cons t_slices_ContainsFunc_Span tab_nil)) ok_subcorpus_lies (fun _ => Nat.le_of_ble_eq_true rfl) (w_subcorpus_lies (S0 := Sa) rfl rfl)
theorem t_slices_Index_Span : Tri Try.prog f_slices_Index_Span (s_slices_Index_Span).pt :=
  tri_walk (S := tab []) (tab_ok tab_nil) ok_slices_Index_Span (fun _ => Nat.le_of_ble_eq_true rfl) (w_slices_Index_Span)
theorem t_slices_Contains_Span : Tri Try.prog f_slices_Contains_Span (s_slices_Contains_Span).pt :=
  tri_walk (S := tab [(f_slices_Index_Span, s_slices_Index_Span)]) (tab_ok (tab_cons t_slices_Index_Span tab_nil)) ok_slices_Contains_Span (fun _ => Nat.le_of_ble_eq_true rfl) (w_slices_Contains_Span rfl)
theorem t_subcorpus_Intersect_1 : Tri Try.prog f_subcorpus_Intersect_1 (s_subcorpus_Intersect_1).pt :=
  tri_walk (S := tab [(f_slices_Contains_Span, s_slices_Contains_Span)]) (tab_ok (tab_cons t_slices_Contains_Span tab_nil)) ok_subcorpus_Intersect_1 (fun _ => Nat.le_of_ble_eq_true rfl) (w_subcorpus_Intersect_1 rfl)
theorem t_subcorpus_Subtract_1 : Tri Try.prog f_subcorpus_Subtract_1 (s_subcorpus_Subtract_1).pt :=
  tri_walk (S := tab [(f_slices_Contains_Span, s_slices_Contains_Span)]) (tab_ok (tab_cons t_slices_Contains_Span tab_nil)) ok_subcorpus_Subtract_1 (fun _ => Nat.le_of_ble_eq_true rfl) (w_subcorpus_Subtract_1 rfl)
theorem t_subcorpus_Inside_1 : Tri Try.prog f_subcorpus_Inside_1 (s_subcorpus_Inside_1).pt :=
  tri_walk (S := tab [(f_subcorpus_lies, s_subcorpus_lies)]) (tab_ok (tab_cons t_subcorpus_lies tab_nil)) ok_subcorpus_Inside_1 (fun _ => Nat.le_of_ble_eq_true rfl) (w_subcorpus_Inside_1 rfl)
def Sb : Nat → Spc := tab [(f_subcorpus_Intersect_1, s_subcorpus_Intersect_1), (f_subcorpus_Subtract_1, s_subcorpus_Subtract_1), (f_subcorpus_Inside_1, s_subcorpus_Inside_1)]
theorem t_subcorpus_keep_1 : Tri Try.prog f_subcorpus_keep_1 (s_subcorpus_keep_1 Sb).pt :=
  tri_walk (S := Sb) (tab_ok (tab_cons t_subcorpus_Intersect_1 (tab_cons t_subcorpus_Subtract_1 (tab_cons t_subcorpus_Inside_1 tab_nil)))) ok_subcorpus_keep_1 (fun _ => Nat.le_of_ble_eq_true rfl) (w_subcorpus_keep_1)
def Sc : Nat → Spc := tab [(f_subcorpus_keep_1, s_subcorpus_keep_1 Sb)]
theorem t_slices_IndexFunc_Span__c : Tri Try.prog f_slices_IndexFunc_Span (s_slices_IndexFunc_Span Sc).pt :=
  tri_walk (S := Sc) (tab_ok (tab_cons t_subcorpus_keep_1 tab_nil)) ok_slices_IndexFunc_Span (fun _ => Nat.le_of_ble_eq_true rfl) (w_slices_IndexFunc_Span)
theorem tb_slices_IndexFunc_Span : Tri Try.prog f_slices_IndexFunc_Span (b_slices_IndexFunc_Span Sc).pt := tri_borrow t_slices_IndexFunc_Span__c rfl (fun _ => flat_v _)
def Sd : Nat → Spc := tab [(f_slices_IndexFunc_Span, b_slices_IndexFunc_Span Sc), (f_subcorpus_keep_1, s_subcorpus_keep_1 Sb)]
theorem sd_sc (g : Nat) (pc : PC) : Sd g = .pure pc ↔ Sc g = .pure pc := by
  unfold Sd Sc
  simp only [tab]
  by_cases h : g = f_slices_IndexFunc_Span
  · subst h
    rw [if_pos rfl]
    constructor
    · intro h; cases h
    · intro h; cases h
  · rw [if_neg h]
theorem funIs_sd : (fun (d : D) (p : Span → Bool) => FunIs Sd d p) = fun d p => FunIs Sc d p := by
  funext d p
  exact funIs_sub sd_sc d p
theorem b_sd : b_slices_IndexFunc_Span Sd = b_slices_IndexFunc_Span Sc := by
  have h1 : P_IndexFunc Sd = P_IndexFunc Sc := by funext x; simp only [P_IndexFunc, funIs_sub sd_sc]
  have h2 : Q_IndexFunc Sd = Q_IndexFunc Sc := by funext x y; simp only [Q_IndexFunc, funIs_sub sd_sc]
  show bwC (Y := Span) (aD a0) (P_IndexFunc Sd) enc (Q_IndexFunc Sd) ty_Span 2 = bwC (Y := Span) (aD a0) (P_IndexFunc Sc) enc (Q_IndexFunc Sc) ty_Span 2
  rw [h1, h2]
theorem d_sd : s_slices_DeleteFunc_Span Sd = s_slices_DeleteFunc_Span Sc := by
  have h1 : P_DeleteFunc Sd = P_DeleteFunc Sc := by funext x l; simp only [P_DeleteFunc, funIs_sub sd_sc]
  have h2 : Q_DeleteFunc Sd = Q_DeleteFunc Sc := by funext x l r; simp only [Q_DeleteFunc, funIs_sub sd_sc]
  show ioC (aD a0) (P_DeleteFunc Sd) (Q_DeleteFunc Sd) ty_Span 2 = ioC (aD a0) (P_DeleteFunc Sc) (Q_DeleteFunc Sc) ty_Span 2
  rw [h1, h2]
theorem t_slices_DeleteFunc_Span : Tri Try.prog f_slices_DeleteFunc_Span (s_slices_DeleteFunc_Span Sc).pt := by
  rw [← d_sd]
  exact tri_walkIO (S := Sd) (tab_ok (tab_cons tb_slices_IndexFunc_Span (tab_cons t_subcorpus_keep_1 tab_nil))) ok_slices_DeleteFunc_Span (fun _ => Nat.le_of_ble_eq_true rfl) (w_slices_DeleteFunc_Span b_sd.symm)
theorem t_slices_Grow_Span : Tri Try.prog f_slices_Grow_Span s_slices_Grow_Span.pt :=
  tri_or (tri_walkF (S := tab []) (tab_ok tab_nil) ok_slices_Grow_Span (fun _ => Nat.le_of_ble_eq_true rfl) w_slices_Grow_Span) (tri_walk (S := tab []) (tab_ok tab_nil) ok_slices_Grow_Span (fun _ => Nat.le_of_ble_eq_true rfl) w_slices_Grow_Span0)
theorem t_slices_Concat_Span : Tri Try.prog f_slices_Concat_Span (s_slices_Concat_Span).pt :=
  tri_walkF (S := tab [(f_slices_Grow_Span, s_slices_Grow_Span)]) (tab_ok (tab_cons t_slices_Grow_Span tab_nil)) ok_slices_Concat_Span (fun _ => Nat.le_of_ble_eq_true rfl) (w_slices_Concat_Span rfl)
theorem t_slices_Compact_Span : Tri Try.prog f_slices_Compact_Span (s_slices_Compact_Span).pt :=
  tri_walkIO (S := tab []) (tab_ok tab_nil) ok_slices_Compact_Span (fun _ => Nat.le_of_ble_eq_true rfl) (w_slices_Compact_Span)
/-! ### The sort -/
instance : Inhabited Span := ⟨⟨0, 0⟩⟩
def evS (s : Span) : List Value := [.int .i64 s.b, .int .i64 s.e]
theorem ltOf_sp (x y : Span) : ltOf cmpSp x y = decide (ltS x y) := by
  unfold ltOf
  have := cmpSp_ge x y
  by_cases h : ltS x y
  · simp only [h, decide_true, decide_eq_true_eq]
    by_cases h0 : 0 ≤ cmpSp x y
    · exact absurd h (this.1 h0)
    · omega
  · simp only [h, decide_false, decide_eq_false_iff_not]
    have := this.2 h
    omega
theorem swo_sp : Go.Sort.SWO (ltOf cmpSp) where
  irrefl x := by rw [ltOf_sp]; simp [ltS_irr]
  trans x y z h1 h2 := by rw [ltOf_sp] at *; simp at *; exact ltS_trans h1 h2
  ntrans x y z h1 h2 := by rw [ltOf_sp] at *; simp at *; unfold ltS at *; omega
theorem tri_iu_mono {P : Program} {f : Nat} {X Y : Type} [Cod Y] {A : Arg X} {pre pre' : X → List Y → Prop} {post post' : X → List Y → List Y → Prop} {el n : Nat} (h : Tri P f (iuC A pre post el n).pt) (h1 : ∀ x l, pre' x l → pre x l) (h2 : ∀ x l r, pre' x l → post x l r → post' x l r) :
    Tri P f (iuC A pre' post' el n).pt := fun O tp w vs ds H d K a b c e g ⟨id, v, l, ds', x, k1, k2, k3, k4, k5⟩ => h O tp w vs ds H d K a b c e g ⟨id, v, l, ds', x, k1, k2, k3, h1 x l k4, fun l' hp => k5 l' (h2 x l l' k4 hp)⟩
theorem t_slices_SortFunc_Span : Tri Try.prog f_slices_SortFunc_Span s_slices_SortFunc_Span.pt := by
  have h := tri_sortFunc (cf := cmpSp) (el := ty_Span) Try.sortSpan rfl evS 2 (fun _ => rfl) (fun _ => rfl) (fun x v hv => by simp [evS] at hv; rcases hv with rfl | rfl <;> exact ⟨rfl, fun s h => by cases h⟩) Try.isAgg45 Try.sizeOf45
    swo_sp (fun x y h1 h2 => by rw [ltOf_sp] at h1 h2; simp at h1 h2; rcases ltS_tot x y with h | h | h <;> first | exact h | exact absurd h h1 | exact absurd h h2) t_subcorpus_compare ok_subcorpus_compare.enter (callEnter Try.func51 (by kernel_rfl) rfl)
  refine tri_iu_mono h (fun x l hp => hp) (fun x l r hp hq => ?_)
  have hq : r = l.mergeSort fun x y => !(ltOf cmpSp) y x := hq
  subst hq
  refine ⟨by simp, fun x => by simp [List.mem_mergeSort], ?_⟩
  have := List.pairwise_mergeSort (le := fun x y => !(ltOf cmpSp) y x) (fun a b c h1 h2 => by simp only [ltOf_sp] at *; simp at *; unfold ltS at *; omega) (fun a b => by simp only [ltOf_sp]; simp; unfold ltS; omega) l
  refine List.pairwise_iff_getElem.2 fun i j hi hj hij => ?_
  have h := List.pairwise_iff_getElem.1 this i j hi hj hij
  generalize (l.mergeSort fun x y => !(ltOf cmpSp) y x)[i] = a at h ⊢
  generalize (l.mergeSort fun x y => !(ltOf cmpSp) y x)[j] = b at h ⊢
  rw [ltOf_sp] at h
  simpa using h

theorem t_subcorpus_sorted : Tri Try.prog f_subcorpus_sorted (s_subcorpus_sorted).pt :=
  tri_walkF (S := tab [(f_slices_Concat_Span, s_slices_Concat_Span), (f_slices_SortFunc_Span, s_slices_SortFunc_Span), (f_slices_Compact_Span, s_slices_Compact_Span)]) (tab_ok (tab_cons t_slices_Concat_Span (tab_cons t_slices_SortFunc_Span (tab_cons t_slices_Compact_Span tab_nil)))) ok_subcorpus_sorted (fun _ => Nat.le_of_ble_eq_true rfl) (w_subcorpus_sorted rfl rfl rfl)
theorem t_subcorpus_Unite : Tri Try.prog f_subcorpus_Unite (s_subcorpus_Unite).pt :=
  tri_walk (S := tab [(f_subcorpus_sorted, s_subcorpus_sorted)]) (tab_ok (tab_cons t_subcorpus_sorted tab_nil)) ok_subcorpus_Unite (fun _ => Nat.le_of_ble_eq_true rfl) (w_subcorpus_Unite rfl)
theorem t_subcorpus_keep : Tri Try.prog f_subcorpus_keep (s_subcorpus_keep Sb).pt :=
  tri_walk (S := tab [(f_subcorpus_sorted, s_subcorpus_sorted), (f_slices_DeleteFunc_Span, s_slices_DeleteFunc_Span Sc)]) (tab_ok (tab_cons t_subcorpus_sorted (tab_cons t_slices_DeleteFunc_Span tab_nil))) ok_subcorpus_keep (fun _ => Nat.le_of_ble_eq_true rfl) (w_subcorpus_keep (S0 := Sb) (S1 := Sc) rfl rfl rfl)
theorem t_subcorpus_Intersect : Tri Try.prog f_subcorpus_Intersect (s_subcorpus_Intersect).pt :=
  tri_walk (S := tab [(f_subcorpus_keep, s_subcorpus_keep Sb)]) (tab_ok (tab_cons t_subcorpus_keep tab_nil)) ok_subcorpus_Intersect (fun _ => Nat.le_of_ble_eq_true rfl) (w_subcorpus_Intersect (S0 := Sb) rfl rfl)
theorem t_subcorpus_Subtract : Tri Try.prog f_subcorpus_Subtract (s_subcorpus_Subtract).pt :=
  tri_walk (S := tab [(f_subcorpus_keep, s_subcorpus_keep Sb)]) (tab_ok (tab_cons t_subcorpus_keep tab_nil)) ok_subcorpus_Subtract (fun _ => Nat.le_of_ble_eq_true rfl) (w_subcorpus_Subtract (S0 := Sb) rfl rfl)
theorem t_subcorpus_Inside : Tri Try.prog f_subcorpus_Inside (s_subcorpus_Inside).pt :=
  tri_walk (S := tab [(f_subcorpus_keep, s_subcorpus_keep Sb)]) (tab_ok (tab_cons t_subcorpus_keep tab_nil)) ok_subcorpus_Inside (fun _ => Nat.le_of_ble_eq_true rfl) (w_subcorpus_Inside (S0 := Sb) rfl rfl)
theorem t_law30_known : Tri Try.prog f_law30_known (s_law30_known).pt :=
  tri_walk (S := tab [(f_subcorpus_Unite, s_subcorpus_Unite), (f_r27_Same, s_r27_Same), (f_subcorpus_Subtract, s_subcorpus_Subtract)]) (tab_ok (tab_cons t_subcorpus_Unite (tab_cons t_r27_Same (tab_cons t_subcorpus_Subtract tab_nil)))) ok_law30_known (fun _ => Nat.le_of_ble_eq_true rfl) (w_law30_known rfl rfl rfl)
theorem t_law30_SubcorpusLaws : Tri Try.prog f_law30_SubcorpusLaws s_law30_Laws.pt :=
  tri_walk (S := tab [(f_m_New, s_m_New), (f_m_Tape_Corpus, s_m_Corpus), (f_m_Tape_Spans, s_m_Spans), (f_subcorpus_Unite, s_subcorpus_Unite), (f_r27_Same, s_r27_Same), (f_subcorpus_Subtract, s_subcorpus_Subtract), (f_subcorpus_Intersect, s_subcorpus_Intersect), (f_subcorpus_Inside, s_subcorpus_Inside), (f_subcorpus_IsList, s_subcorpus_IsList), (f_law30_known, s_law30_known)]) (tab_ok (tab_cons t_m_New (tab_cons t_m_Tape_Corpus (tab_cons t_m_Tape_Spans (tab_cons t_subcorpus_Unite (tab_cons t_r27_Same (tab_cons t_subcorpus_Subtract (tab_cons t_subcorpus_Intersect (tab_cons t_subcorpus_Inside (tab_cons t_subcorpus_IsList (tab_cons t_law30_known tab_nil))))))))))) ok_law30_SubcorpusLaws (fun _ => Nat.le_of_ble_eq_true rfl) (w_law30_SubcorpusLaws rfl rfl rfl rfl rfl rfl rfl rfl rfl rfl)
end Go.Gv

namespace Go.Gv
open Go.Proofs
-- law30_SubcorpusExpands range i=45 n=44 c=46 i2=64 id=0: live [5:s, 43:] changed [] res [19]
-- law30_SubcorpusExpands range i=51 n=50 c=52 i2=61 id=2: live [5:s, 9:r, 10:some, 43:, 44:, 45:, 49:] changed [10] res [9, 19]
/-- corpora/corporalaw30.SubcorpusExpands [L_int] -> [bool] -/
def cc_law30_SubcorpusExpands : CC :=
  .seq (.reg [
    .op (some 2) none (.mv (.const (.bool false)))])
  (.keep [0] [] (.seq (.reg [
    .op (some 13) none (.mv (.tmp 0)),
    .op (some 14) none (.call f_m_New [(.tmp 13)]),
    .op (some 3) none (.mv (.tmp 14))])
  (.keep [3] [] (.seq (.reg [
    .op (some 15) none (.mv (.tmp 3)),
    .op (some 16) none (.call f_m_Tape_Corpus [(.tmp 15), (.const (.int .i64 6))]),
    .op (some 4) none (.alloc ty_Corpus [(.slice none 0 0), (.slice none 0 0), (.slice none 0 0), (.slice none 0 0), (.slice none 0 0), (.slice none 0 0), (.slice none 0 0)]),
    .op none none (.store none 7 (.tmp 4) (.tmp 16))])
  (.keep [3, 4] [4] (seqM 3 (.reg [
    .op (some 17) none (.mv (.tmp 3)),
    .op (some 18) none (.load true 7 (.tmp 4)),
    .op (some 19) none (.call f_m_Tape_Spans [(.tmp 17), (.tmp 18), (.const (.int .i64 6))]),
    .op (some 20) none (.mv (.tmp 3)),
    .op (some 21) none (.call f_m_Tape_Next [(.tmp 20), (.const (.int .i64 2))]),
    .op (some 22) none (.call f_m_Type [(.tmp 21)]),
    .op (some 5) none (.mv (.tmp 19)),
    .frz 5 2,
    .op (some 6) none (.mv (.tmp 22))])
  (.keep [4, 5, 6] [4, 19] (.seq (.reg [
    .op (some 23) none (.load true 7 (.tmp 4)),
    .op (some 24) none (.mv (.tmp 5)),
    .op (some 25) none (.mv (.tmp 6)),
    .op (some 26) none (.call f_subcorpus_Expand [(.tmp 23), (.tmp 24), (.tmp 25)]),
    .op (some 7) none (.mv (.tmp 26))])
  (.keep [4, 5, 6, 7] [4, 19] (.seq /- 5 -/ (.seq (.reg [
    .op (some 27) none (.mv (.tmp 7)),
    .op (some 28) none (.load true 7 (.tmp 4)),
    .op (some 29) none (.mv (.tmp 5)),
    .op (some 30) none (.mv (.tmp 6)),
    .op (some 31) none (.call f_r30_Expand [(.tmp 28), (.tmp 29), (.tmp 30)]),
    .op (some 32) none (.call f_r27_Same [(.tmp 27), (.tmp 31)]),
    .op (some 33) none (.not (.tmp 32)),
    .op (some 34) none (.mv (.tmp 33)),
    .op (some 35) (some (34, false)) (.load true 7 (.tmp 4)),
    .op (some 36) (some (34, false)) (.mv (.tmp 7)),
    .op (some 37) (some (34, false)) (.mv (.tmp 6)),
    .op (some 38) (some (34, false)) (.call f_subcorpus_Expand [(.tmp 35), (.tmp 36), (.tmp 37)]),
    .op (some 39) (some (34, false)) (.mv (.tmp 7)),
    .op (some 40) (some (34, false)) (.call f_r27_Same [(.tmp 38), (.tmp 39)]),
    .op (some 41) (some (34, false)) (.not (.tmp 40)),
    .op (some 42) none (.pick (.tmp 34) (.const (.bool true)) (.tmp 41))])
  (.keep [5, 7, 42] [19] (.ite (.tmp 42) (.seq (.reg [
      .op (some 2) none (.mv (.const (.bool false)))])
    (.keep [2] [] (.ret)))
    (.skip))))
  (.keep [5, 7] [19] (.seq /- 8 -/ (.seq (.reg [
    .op (some 43) none (.mv (.tmp 7)),
    .op (some 44) none (.len (.tmp 43)),
    .op (some 45) none (.mv (.const (.int .i64 0)))])
  (.keep [5, 43, 44, 45] [19] (rangeCC 0 45 44 46 1 (.seq (.reg [
      .op (some 47) none (.iaddr 2 (.tmp 43) (.tmp 45)),
      .op (some 48) none (.load true 2 (.tmp 47)),
      .op (some 9) none (.alloc ty_Span [(.int .i64 0), (.int .i64 0)]),
      .op none none (.store none 2 (.tmp 9) (.tmp 48))])
    (.keep [5, 9, 43, 44, 45] [9, 19] (.seq (.reg [
      .op (some 10) none (.mv (.const (.bool false)))])
    (.keep [5, 9, 10, 43, 44, 45] [9, 19] (.seq /- 12 -/ (.seq (.reg [
      .op (some 49) none (.mv (.tmp 5)),
      .op (some 50) none (.len (.tmp 49)),
      .op (some 51) none (.mv (.const (.int .i64 0)))])
    (.keep [5, 9, 10, 43, 44, 45, 49, 50, 51] [9, 19] (rangeCC 2 51 50 52 3 (.seq (.reg [
        .op (some 53) none (.iaddr 2 (.tmp 49) (.tmp 51)),
        .op (some 54) none (.load true 2 (.tmp 53)),
        .op (some 12) none (.alloc ty_Span [(.int .i64 0), (.int .i64 0)]),
        .op none none (.store none 2 (.tmp 12) (.tmp 54))])
      (.keep [5, 9, 10, 12, 43, 44, 45, 49, 50, 51] [9, 12, 19] (.reg [
        .op (some 55) none (.mv (.tmp 10)),
        .op (some 56) none (.mv (.tmp 55)),
        .op (some 57) (some (56, false)) (.load true 2 (.tmp 9)),
        .op (some 58) (some (56, false)) (.load true 2 (.tmp 12)),
        .op (some 59) (some (56, false)) (.call f_r27_Contains [(.tmp 57), (.tmp 58)]),
        .op (some 60) none (.pick (.tmp 56) (.const (.bool true)) (.tmp 59)),
        .op (some 10) none (.mv (.tmp 60))]))) 61)))
    (.keep [5, 10, 43, 44, 45] [19] (.seq (.reg [
      .op (some 62) none (.mv (.tmp 10)),
      .op (some 63) none (.not (.tmp 62))])
    (.keep [5, 43, 44, 45, 63] [19] (.ite (.tmp 63) (.seq (.reg [
        .op (some 2) none (.mv (.const (.bool false)))])
      (.keep [2] [] (.ret)))
      (.skip)))))))))) 64)))
  (.keep [] [] (.seq (.reg [
    .op (some 65) none (.call f_law30_known []),
    .op (some 2) none (.mv (.tmp 65))])
  (.keep [2] [] (.ret))))))))))))))))
def rs_law30_SubcorpusExpands : List CRes := [.tmp 2]
def im_law30_SubcorpusExpands : List Nat := []
theorem ok_law30_SubcorpusExpands : FnOk Try.prog f_law30_SubcorpusExpands im_law30_SubcorpusExpands cc_law30_SubcorpusExpands rs_law30_SubcorpusExpands 66 := fnOk1 mixed (by kernel_rfl)
-- subcorpus_Expand range i=13 n=12 c=14 i2=39 id=0: live [2:kind, 3:c, 7:out, 11:] changed [7] res [38]
/-- corpora/subcorpus.Expand [Corpus, L_Span, string] -> [L_Span] -/
def cc_subcorpus_Expand : CC :=
  .seq (.reg [
    .op (some 3) none (.box ty_Corpus true (.tmp 0)),
    .op (some 6) none (.mv (.const (.slice none 0 0)))])
  (.keep [1, 2, 3] [] (.seq (.reg [
    .op (some 7) none (.mv (.const (.slice none 0 0)))])
  (.keep [1, 2, 3, 7] [38] (.seq /- 2 -/ (.seq (.reg [
    .op (some 11) none (.mv (.tmp 1)),
    .op (some 12) none (.len (.tmp 11)),
    .op (some 13) none (.mv (.const (.int .i64 0)))])
  (.keep [2, 3, 7, 11, 12, 13] [38] (rangeCC 0 13 12 14 1 (.seq (.reg [
      .op (some 15) none (.iaddr 2 (.tmp 11) (.tmp 13)),
      .op (some 16) none (.load true 2 (.tmp 15)),
      .op (some 9) none (.alloc ty_Span [(.int .i64 0), (.int .i64 0)]),
      .op none none (.store none 2 (.tmp 9) (.tmp 16))])
    (.keep [2, 3, 7, 9, 11, 12, 13] [9, 38] (.seq (.reg [
      .op (some 17) none (.load true 7 (.tmp 3)),
      .op (some 18) none (.mv (.tmp 2)),
      .op (some 19) none (.load true 2 (.tmp 9)),
      .op (some 20) none (.call f_inside_Last [(.tmp 17), (.tmp 18), (.tmp 19)]),
      .op (some 10) none (.mv (.tmp 20))])
    (.keep [2, 3, 7, 10, 11, 12, 13] [38] (.seq (.reg [
      .op (some 21) none (.mv (.tmp 10)),
      .op (some 22) none (.cmp .geq (.tmp 21) (.const (.int .i64 0)))])
    (.keep [2, 3, 7, 10, 11, 12, 13, 22] [38] (.ite (.tmp 22) (.regd [
        .op (some 23) none (.mv (.tmp 7)),
        .op (some 24) none (.faddr 3 (.tmp 3)),
        .op (some 25) none (.load false 1 (.tmp 24)),
        .op (some 26) none (.mv (.tmp 10)),
        .op (some 27) none (.iaddr 4 (.tmp 25) (.tmp 26)),
        .op (some 28) none (.faddr 1 (.tmp 27)),
        .op (some 29) none (.load false 1 (.tmp 28)),
        .op (some 30) none (.faddr 3 (.tmp 3)),
        .op (some 31) none (.load false 1 (.tmp 30)),
        .op (some 32) none (.mv (.tmp 10)),
        .op (some 33) none (.iaddr 4 (.tmp 31) (.tmp 32)),
        .op (some 34) none (.faddr 2 (.tmp 33)),
        .op (some 35) none (.load false 1 (.tmp 34)),
        .op (some 36) none (.build [(.int .i64 0), (.int .i64 0)] [(0, 1, (.tmp 29)), (1, 1, (.tmp 35))]),
        .op (some 37) none (.bslice ty_Span 2 [(.tmp 36)])] [
        .op (some 38) none (.append (some 38) ty_Span 2 16 (.tmp 23) (.tmp 37)),
        .op (some 7) none (.mv (.tmp 38))])
      (.skip)))))))) 39)))
  (.keep [7] [38] (.seq (.reg [
    .op (some 40) none (.mv (.tmp 7)),
    .frz 40 2,
    .op (some 41) none (.bslice ty_L_Span 1 [(.tmp 40)]),
    .op (some 42) none (.call f_subcorpus_sorted [(.tmp 41)]),
    .op (some 6) none (.mv (.tmp 42))])
  (.keep [6] [38, 42] (.ret))))))))
def rs_subcorpus_Expand : List CRes := [.tmp 6]
def im_subcorpus_Expand : List Nat := [3, 1038038]
theorem ok_subcorpus_Expand : FnOk Try.prog f_subcorpus_Expand im_subcorpus_Expand cc_subcorpus_Expand rs_subcorpus_Expand 43 := fnOk1 mixed (by kernel_rfl)
-- r30_Expand range i=13 n=12 c=14 i2=38 id=0: live [2:kind, 3:c, 7:out, 11:] changed [7] res []
/-- corpora/corporaref30.Expand [Corpus, L_Span, string] -> [L_Span] -/
def cc_r30_Expand : CC :=
  .seq (.reg [
    .op (some 3) none (.box ty_Corpus true (.tmp 0)),
    .op (some 6) none (.mv (.const (.slice none 0 0)))])
  (.keep [1, 2, 3] [] (.seq (.reg [
    .op (some 7) none (.mv (.const (.slice none 0 0)))])
  (.keep [1, 2, 3, 7] [] (.seq /- 2 -/ (.seq (.reg [
    .op (some 11) none (.mv (.tmp 1)),
    .op (some 12) none (.len (.tmp 11)),
    .op (some 13) none (.mv (.const (.int .i64 0)))])
  (.keep [2, 3, 7, 11, 12, 13] [] (rangeCC 0 13 12 14 1 (.seq (.reg [
      .op (some 15) none (.iaddr 2 (.tmp 11) (.tmp 13)),
      .op (some 16) none (.load true 2 (.tmp 15)),
      .op (some 9) none (.alloc ty_Span [(.int .i64 0), (.int .i64 0)]),
      .op none none (.store none 2 (.tmp 9) (.tmp 16))])
    (.keep [2, 3, 7, 9, 11, 12, 13] [9] (.seq (.reg [
      .op (some 17) none (.load true 7 (.tmp 3)),
      .op (some 18) none (.mv (.tmp 2)),
      .op (some 19) none (.load true 2 (.tmp 9)),
      .op (some 20) none (.call f_r28_Last [(.tmp 17), (.tmp 18), (.tmp 19)]),
      .op (some 10) none (.mv (.tmp 20))])
    (.keep [2, 3, 7, 10, 11, 12, 13] [] (.seq (.reg [
      .op (some 21) none (.mv (.tmp 10)),
      .op (some 22) none (.eql true false [.int] (.tmp 21) (.const (.int .i64 (-1))))])
    (.keep [2, 3, 7, 10, 11, 12, 13, 22] [] (.ite (.tmp 22) (.regd [
        .op (some 23) none (.mv (.tmp 7)),
        .op (some 24) none (.faddr 3 (.tmp 3)),
        .op (some 25) none (.load false 1 (.tmp 24)),
        .op (some 26) none (.mv (.tmp 10)),
        .op (some 27) none (.iaddr 4 (.tmp 25) (.tmp 26)),
        .op (some 28) none (.faddr 1 (.tmp 27)),
        .op (some 29) none (.load false 1 (.tmp 28)),
        .op (some 30) none (.faddr 3 (.tmp 3)),
        .op (some 31) none (.load false 1 (.tmp 30)),
        .op (some 32) none (.mv (.tmp 10)),
        .op (some 33) none (.iaddr 4 (.tmp 31) (.tmp 32)),
        .op (some 34) none (.faddr 2 (.tmp 33)),
        .op (some 35) none (.load false 1 (.tmp 34)),
        .op (some 36) none (.build [(.int .i64 0), (.int .i64 0)] [(0, 1, (.tmp 29)), (1, 1, (.tmp 35))])] [
        .op (some 37) none (.call f_r27_Insert [(.tmp 23), (.tmp 36)]),
        .op (some 7) none (.mv (.tmp 37))])
      (.skip)))))))) 38)))
  (.keep [7] [] (.seq (.reg [
    .op (some 39) none (.mv (.tmp 7)),
    .op (some 6) none (.mv (.tmp 39))])
  (.keep [6] [] (.ret))))))))
def rs_r30_Expand : List CRes := [.tmp 6]
def im_r30_Expand : List Nat := [3]
theorem ok_r30_Expand : FnOk Try.prog f_r30_Expand im_r30_Expand cc_r30_Expand rs_r30_Expand 40 := fnOk1 mixed (by kernel_rfl)
-- r28_Last while id=0: live [1:kind, 3:c, 5:s, 7:i] changed [7] res []
/-- corpora/corporaref28.Last [Corpus, string, Span] -> [int] -/
def cc_r28_Last : CC :=
  .seq (.reg [
    .op (some 3) none (.box ty_Corpus true (.tmp 0)),
    .op (some 5) none (.box ty_Span true (.tmp 2)),
    .op (some 6) none (.mv (.const (.int .i64 0)))])
  (.keep [1, 3, 5] [] (.seq /- 1 -/ (.seq (.reg [
    .op (some 9) none (.faddr 3 (.tmp 3)),
    .op (some 10) none (.load false 1 (.tmp 9)),
    .op (some 11) none (.len (.tmp 10)),
    .op (some 12) none (.arith .sub (.tmp 11) (.const (.int .i64 1))),
    .op (some 7) none (.mv (.tmp 12))])
  (.keep [1, 3, 5, 7] [] (.block 0 (.loop 1 (.seq /- 3 -/ (.seq (.reg [
        .op (some 13) none (.mv (.tmp 7)),
        .op (some 14) none (.cmp .geq (.tmp 13) (.const (.int .i64 0)))])
      (.keep [1, 3, 5, 7, 14] [] (.ite (.tmp 14) (.skip)
        (.exit 0))))
      (.keep [1, 3, 5, 7] [] (.seq /- 5 -/ (.block 1 (.seq (.reg [
          .op (some 17) none (.faddr 3 (.tmp 3)),
          .op (some 18) none (.load false 1 (.tmp 17)),
          .op (some 19) none (.mv (.tmp 7)),
          .op (some 20) none (.iaddr 4 (.tmp 18) (.tmp 19)),
          .op (some 21) none (.load true 4 (.tmp 20)),
          .op (some 8) none (.alloc ty_Region [(.string ⟨#[]⟩), (.int .i64 0), (.int .i64 0), (.slice none 0 0)]),
          .op none none (.store none 4 (.tmp 8) (.tmp 21))])
        (.keep [1, 3, 5, 7, 8] [8] (.seq (.reg [
          .op (some 22) none (.faddr 0 (.tmp 8)),
          .op (some 23) none (.load false 1 (.tmp 22)),
          .op (some 24) none (.mv (.tmp 1)),
          .op (some 25) none (.eql false false [.str] (.tmp 23) (.tmp 24)),
          .op (some 26) none (.mv (.tmp 25)),
          .op (some 27) (some (26, true)) (.faddr 1 (.tmp 8)),
          .op (some 28) (some (26, true)) (.load false 1 (.tmp 27)),
          .op (some 29) (some (26, true)) (.faddr 0 (.tmp 5)),
          .op (some 30) (some (26, true)) (.load false 1 (.tmp 29)),
          .op (some 31) (some (26, true)) (.cmp .leq (.tmp 28) (.tmp 30)),
          .op (some 32) none (.pick (.tmp 26) (.tmp 31) (.const (.bool false))),
          .op (some 33) none (.mv (.tmp 32)),
          .op (some 34) (some (33, true)) (.faddr 1 (.tmp 5)),
          .op (some 35) (some (33, true)) (.load false 1 (.tmp 34)),
          .op (some 36) (some (33, true)) (.faddr 2 (.tmp 8)),
          .op (some 37) (some (33, true)) (.load false 1 (.tmp 36)),
          .op (some 38) (some (33, true)) (.cmp .leq (.tmp 35) (.tmp 37)),
          .op (some 39) none (.pick (.tmp 33) (.tmp 38) (.const (.bool false)))])
        (.keep [1, 3, 5, 7, 39] [] (.ite (.tmp 39) (.seq (.reg [
            .op (some 40) none (.mv (.tmp 7)),
            .op (some 6) none (.mv (.tmp 40))])
          (.keep [6] [] (.ret)))
          (.skip)))))))
      (.keep [1, 3, 5, 7] [] (.reg [
        .op (some 15) none (.mv (.tmp 7)),
        .op (some 16) none (.arith .sub (.tmp 15) (.const (.int .i64 1))),
        .op (some 7) none (.mv (.tmp 16))])))))))))
  (.keep [] [] (.seq (.reg [
    .op (some 6) none (.mv (.const (.int .i64 (-1))))])
  (.keep [6] [] (.ret))))))
def rs_r28_Last : List CRes := [.tmp 6]
def im_r28_Last : List Nat := [3, 5]
theorem ok_r28_Last : FnOk Try.prog f_r28_Last im_r28_Last cc_r28_Last rs_r28_Last 41 := fnOk1 mixed (by kernel_rfl)

end Go.Gv

namespace Go.Proofs
open Go.RowKit Go.Shelf
/-- The blocks of S lie as they lay. -/
structure KB (S : Nat → Prop) (W W' : World) : Prop where
  size : W.heap.size ≤ W'.heap.size
  block : ∀ k, S k → W'.heap[k]? = W.heap[k]?
theorem KB.refl (S : Nat → Prop) (W : World) : KB S W W := ⟨Nat.le_refl _, fun _ _ => rfl⟩
theorem KB.trans {S : Nat → Prop} {A B C : World} (h : KB S A B) (k : KB S B C) : KB S A C := ⟨Nat.le_trans h.size k.size, fun i hi => (k.block i hi).trans (h.block i hi)⟩
theorem KB.cell {S : Nat → Prop} {A B : World} (h : KB S A B) {p : Addr} (hp : S p.block) : B.cell? p = A.cell? p := World.cell?_of_block (h.block _ hp)
theorem KB.alloc {S : Nat → Prop} {A B : World} (h : KB S A B) (hS : ∀ k, S k → k < B.heap.size) (o : Obj) : KB S A (B.alloc o) :=
  ⟨by have := h.size; simp; omega, fun k hk => (Below.heap_alloc B o k (hS k hk)).trans (h.block k hk)⟩
theorem KB.of_below {S : Nat → Prop} {n : Nat} {A B : World} (h : Below n A B) (hS : ∀ k, S k → k < n) : KB S A B := ⟨h.size, fun k hk => h.block k (hS k hk)⟩
attribute [local go_sem] Oper.semAt_some
set_option maxRecDepth 100000 in
set_option maxHeartbeats 2000000 in
theorem Try.related_in (F : Fence) (n : Nat) (h58 : F.fn 58) (hro : F.round = none) (t0 : ByteArray) (a3 : Option Addr) (n3 c3 : Nat) (rb re sb se : Int) (r : Bool) (hr : r = (decide (rb ≤ sb) && decide (se ≤ re))) (w : World) :
    CallsIn F n Try.prog 58 #[.int .i64 1, .agg #[.string t0, .int .i64 rb, .int .i64 re, .slice a3 n3 c3], .agg #[.int .i64 sb, .int .i64 se]] w fun e w' =>
      e = .returned (.bool r) ∧ w' = (w.alloc (.cells #[.string t0, .int .i64 rb, .int .i64 re, .slice a3 n3 c3] 70)).alloc (.cells #[.int .i64 sb, .int .i64 se] 45) := by
  subst hr
  refine callsIn_of_wp Try.func58 rfl h58 ?_ hro
  simp only [Try.ntmps58, List.size_toArray, List.length_cons, List.length_nil, Nat.reduceAdd, Nat.reduceSub, Array.replicate_succ, Array.replicate_zero, List.push_toArray, List.append_toArray, List.nil_append, List.cons_append]
  gi_wp2
  all_goals go_ret
  · have hx : rb ≤ sb := by assumption
    exact ⟨by simp [hx], rfl⟩
  · have hx : ¬ rb ≤ sb := by first | assumption | (simp only [Int.not_le]; assumption)
    exact ⟨by simp [hx], rfl⟩

set_option maxHeartbeats 2000000 in
theorem Try.of_in (F : Fence) (n : Nat) (h57 : F.fn 57) (hro : F.round = none) (xs : Array Value) (kind : ByteArray) (w : World) :
    CallsIn F n Try.prog 57 #[.agg xs, .string kind] w fun e w' =>
      e = .returned (.func (.func 66) #[] #[.pointer (some ⟨w.heap.size, 0, none⟩), .pointer (some ⟨w.heap.size + 1, 0, none⟩)]) ∧ w' = (w.alloc (.cells xs 32)).alloc (.cells #[.string kind] 9) := by
  refine callsIn_of_wp Try.func57 rfl h57 ?_ hro
  simp only [Try.ntmps57, List.size_toArray, List.length_cons, List.length_nil, Nat.reduceAdd, Nat.reduceSub, Array.replicate_succ, Array.replicate_zero, List.push_toArray, List.append_toArray, List.nil_append, List.cons_append]
  gi_wp2
  all_goals go_ret
  exact ⟨rfl, rfl⟩

set_option maxRecDepth 100000 in
set_option maxHeartbeats 2000000 in
theorem Try.of1_in (F : Fence) (n : Nat) (h66 : F.fn 66) (hro : F.round = none) (hn : 1 ≤ n) (S : Nat → Prop) (l Bc Bk b off len cap : Nat) (ty : Nat → ByteArray) (bs es : Nat → Int) (sa : Nat → Option Addr) (sn sc : Nat → Nat) (kind : ByteArray) (hb : S b) (hBk0 : S Bk) (hlen : len ≤ maxLen)
    (J Jx : Nat → World → Prop) (hJ : ∀ k W W', Go.Gv.GrB W W' none → J k W → J k W') (hsk : ∀ k W, k < len → ty k ≠ kind → J k W → J (k + 1) W)
    (hY : ∀ k W, J k W → k < len → ty k = kind → YieldAt F (n - 1) Try.prog l #[.int .i64 (k : Int), .agg #[.string (ty k), .int .i64 (bs k), .int .i64 (es k), .slice (sa k) (sn k) (sc k)]] W fun e W' =>
      (e = .returned (.bool true) ∧ J (k + 1) W' ∧ KB S W W') ∨ (e = .returned (.bool false) ∧ Jx k W'))
    (W : World) (hS : ∀ k, S k → k < W.heap.size) (hBc : W.cell? ⟨Bc, 3, none⟩ = some (.slice (some ⟨b, off, none⟩) len cap)) (hBk : W.cell? ⟨Bk, 0, none⟩ = some (.string kind)) (hcell : ∀ k, k < len → W.cell? ⟨b, off + k * 4, none⟩ = some (.string (ty k)) ∧ W.cell? ⟨b, off + k * 4 + 1, none⟩ = some (.int .i64 (bs k)) ∧ W.cell? ⟨b, off + k * 4 + 2, none⟩ = some (.int .i64 (es k)) ∧ W.cell? ⟨b, off + k * 4 + 3, none⟩ = some (.slice (sa k) (sn k) (sc k))) (h0 : J 0 W) :
    CallsIn F n Try.prog 66 #[.func (.yield l) #[] #[], .pointer (some ⟨Bc, 0, none⟩), .pointer (some ⟨Bk, 0, none⟩)] W fun e W' => (∃ v, e = .returned v) ∧ (J len W' ∨ ∃ k, k < len ∧ Jx k W') := by
  refine callsIn_of_wp Try.func66 rfl h66 ?_ hro
  simp only [Try.ntmps66, List.size_toArray, List.length_cons, List.length_nil, Nat.reduceAdd, Nat.reduceSub, Array.replicate_succ, Array.replicate_zero, List.push_toArray, List.append_toArray, List.nil_append, List.cons_append]
  gi_wp2
  gi_loopw [9] (fun i wr => ∃ k : Nat, k ≤ len ∧ i = .int .i64 k ∧ J k wr ∧ KB S W wr)
    (fun i _ => len - (intOf i).toNat)
  case atStart => exact ⟨0, Nat.zero_le _, rfl, h0, KB.refl _ _⟩
  case round =>
    obtain ⟨k, hk, rfl, hJs, hnx⟩ := hrel
    by_cases hlt : k < len
    · obtain ⟨e0, e1, e2, e3⟩ := hcell k hlt
      have c0 := (hnx.cell (p := ⟨b, off + k * 4, none⟩) hb).trans e0
      have c1 := (hnx.cell (p := ⟨b, off + k * 4 + 1, none⟩) hb).trans e1
      have c2 := (hnx.cell (p := ⟨b, off + k * 4 + 2, none⟩) hb).trans e2
      have c3 := (hnx.cell (p := ⟨b, off + k * 4 + 3, none⟩) hb).trans e3
      have hml : maxLen = 9223372036854775807 := by decide
      rw [hml] at hlen
      have hk2 : wr.cell? ⟨Bk, 0, none⟩ = some (.string kind) := (hnx.cell (p := ⟨Bk, 0, none⟩) hBk0).trans hBk
      clear e0 e1 e2 e3 hcell
      have hA : ∀ o, J k (wr.alloc o) := fun o => hJ k wr _ (Go.Gv.GrB.alloc _ _ _) hJs
      have hBA : ∀ o, KB S wr (wr.alloc o) := fun o => (KB.refl S wr).alloc (fun k hk => Nat.lt_of_lt_of_le (hS k hk) hnx.size) o
      have hk3 : ∀ o, (wr.alloc o).cell? ⟨Bk, 0, none⟩ = some (.string kind) := fun o => ((hBA o).cell (p := ⟨Bk, 0, none⟩) hBk0).trans hk2
      by_cases hkd : ty k = kind
      · have hk4 := hk3 (.cells #[.string kind, .int .i64 (bs k), .int .i64 (es k), .slice (sa k) (sn k) (sc k)] 70)
        have hA4 := hA (.cells #[.string kind, .int .i64 (bs k), .int .i64 (es k), .slice (sa k) (sn k) (sc k)] 70)
        obtain ⟨fn, tmps, assign, body, hy, hR⟩ := hY k _ hA4 hlt hkd
        rw [hkd] at c0 hy
        have hbw := hBA (.cells #[.string kind, .int .i64 (bs k), .int .i64 (es k), .slice (sa k) (sn k) (sc k)] 70)
        clear hk3 hA hBA hsk
        gi_wp2
        refine hR.mono ?_
        rintro e W3 (⟨rfl, hJ3, hk3⟩ | ⟨rfl, hJx3⟩)
        · gi_wp2
          go_roundw
          case rel => exact ⟨k + 1, by omega, by simp, hJ3, (hnx.trans hbw).trans hk3⟩
          case measure => simp [intOf]; omega
        · gi_wp2
          refine bodyPost_ret (results_none rfl _ _ _) rfl ?_
          exact ⟨⟨_, rfl⟩, .inr ⟨k, hlt, hJx3⟩⟩
      · have hk4 := hk3 (.cells #[.string (ty k), .int .i64 (bs k), .int .i64 (es k), .slice (sa k) (sn k) (sc k)] 70)
        have hA4 := hA (.cells #[.string (ty k), .int .i64 (bs k), .int .i64 (es k), .slice (sa k) (sn k) (sc k)] 70)
        have hbw := hBA (.cells #[.string (ty k), .int .i64 (bs k), .int .i64 (es k), .slice (sa k) (sn k) (sc k)] 70)
        have hJ5 := hsk k _ hlt hkd hA4
        have hne : ((ty k).toList == kind.toList) = false := by
          rw [Go.Gv.bytes_eq]; simp [hkd]
        clear hk3 hA hBA hsk hY
        gi_wp2
        refine ⟨fun _ h => (by cases h), ?_⟩
        gi_wp2
        go_roundw
        case rel => exact ⟨k + 1, by omega, by simp, hJ5, hnx.trans hbw⟩
        case measure => simp [intOf]; omega
    · obtain rfl : k = len := by omega
      gi_wp2
      go_end0
      exact ⟨⟨_, rfl⟩, .inl hJs⟩

set_option maxRecDepth 100000 in
set_option maxHeartbeats 2000000 in
theorem Try.of1_nil_in (F : Fence) (n : Nat) (h66 : F.fn 66) (hro : F.round = none) (l Bc Bk cap : Nat) (a : Option Addr) (J : Nat → World → Prop)
    (W : World) (hBc : W.cell? ⟨Bc, 3, none⟩ = some (.slice a 0 cap)) (h0 : J 0 W) :
    CallsIn F n Try.prog 66 #[.func (.yield l) #[] #[], .pointer (some ⟨Bc, 0, none⟩), .pointer (some ⟨Bk, 0, none⟩)] W fun e W' => (∃ v, e = .returned v) ∧ J 0 W' := by
  refine callsIn_of_wp Try.func66 rfl h66 ?_ hro
  simp only [Try.ntmps66, List.size_toArray, List.length_cons, List.length_nil, Nat.reduceAdd, Nat.reduceSub, Array.replicate_succ, Array.replicate_zero, List.push_toArray, List.append_toArray, List.nil_append, List.cons_append]
  gi_wp2
  gi_loopw [9] (fun i wr => i = .int .i64 0 ∧ J 0 wr) (fun _ _ => 0)
  case atStart => exact ⟨rfl, h0⟩
  case round =>
    obtain ⟨rfl, hJs⟩ := hrel
    gi_wp2
    go_end0
    exact ⟨⟨_, rfl⟩, hJs⟩
end Go.Proofs
