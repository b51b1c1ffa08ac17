/- A part of the framework and of the walks: Fr Fr2. -/
import Derived.WalkKit
import Derived.ProofKit
import Derived.OpenShut
import Derived.ShutString
import Derived.ChangeOld
import Derived.Below
import Derived.Test.YtaiffcbkmgfklaaGreatDoorGz16
import Derived.Test.YtaiffcbkmgfklaaGreatDoorGz13

namespace Go.Gv
open Go.ChangeShapes Go.WideShapes Go.ChangeAt Go.RowKit
set_option linter.unusedVariables false
section
variable {H : Type} {ec : TypeId × Value → H} {P : Program} {w : World} {base : Nat} {spare : Nat → Bool} {held : Bool} {tp I : Nat → Prop}
/-- Cells that stand for the cells of data. -/
def OpR (tp I : Nat → Prop) (w : World) (cs : List Value) (d : D) : Prop := cs.length = d.cells.length ∧ ∀ (k : Nat) (y : Value) (c : D), cs[k]? = some y → d.cells[k]? = some c → y.oneCell' = true ∧ R tp I w y c
theorem OpR.one {y : Value} {d : D} (h : OpR tp I w [y] d) (hd : d.cells = [d]) : R tp I w y d := (h.2 0 y d rfl (by rw [hd]; rfl)).2
theorem op_int {t : TypeId} {fuel : Nat} {cs : List Value} {x : DataW H × List MemPlace} (ht : P.underlying t = some (.int .i64)) (h : DataW.trod ec P w base spare held fuel t cs = some x) : ∃ n : Int, OpR tp I w cs (Cod.enc n) := by
  obtain ⟨n, rfl, _, _⟩ := DataW.trod_int ht h
  refine ⟨n, rfl, fun k y c h1 h2 => ?_⟩
  cases k with
  | zero => cases h1; cases h2; exact ⟨rfl, .v _ rfl (fun s h => by cases h)⟩
  | succ k => simp at h1
theorem op_slice {Y : Type} [Cod Y] {t e : TypeId} (ht : P.underlying t = some (.slice e)) (hc : P.cellsOf e = Cod.wd Y) (h0 : 0 < Cod.wd Y)
    (hel : ∀ (n : Nat) (cs : List Value) (x : DataW H × List MemPlace), DataW.trod ec P w base spare held n e cs = some x → ∃ y : Y, OpR tp I w cs (Cod.enc y)) (hI : ∀ b, b < w.heap.size → I b)
    {fuel : Nat} {cs : List Value} {x : DataW H × List MemPlace} (h : DataW.trod ec P w base spare held fuel t cs = some x) : ∃ l : List Y, OpR tp I w cs (Cod.enc l) := by
  have one : ∀ (v : Value) (l : List Y), v.oneCell' = true → R tp I w v (.list (Cod.wd Y) (l.map Cod.enc)) → OpR tp I w [v] (Cod.enc l) := fun v l h1 h2 => ⟨rfl, fun k y c e1 e2 => by
    cases k with
    | zero => cases e1; cases e2; exact ⟨h1, h2⟩
    | succ k => simp at e1⟩
  rcases DataW.trod_slice ht h with ⟨rfl, _⟩ | ⟨a, len, cap, elems, rest, n, _, rfl, _, _, hl, hm, hlen, hel', _⟩
  · exact ⟨[], one _ [] rfl (.nolist none 0 _)⟩
  · by_cases hz : len = 0
    · subst hz
      exact ⟨[], one _ [] rfl (.nolist (some a) cap _)⟩
    · have each : ∀ i : _root_.Fin len, ∃ p : List Value × Y, w.cells? base (a.add (i * P.cellsOf e)) (P.cellsOf e) = some p.1 ∧ OpR tp I w p.1 (Cod.enc p.2) := fun i => by
        have h1 := hel' i i.2
        rw [List.getElem?_eq_getElem (by omega)] at h1
        obtain ⟨cs', h2, h3⟩ := Option.bind_eq_some_iff.1 h1
        obtain ⟨y, hy⟩ := hel n cs' _ h3
        exact ⟨(cs', y), h2, hy⟩
      obtain ⟨g, hg⟩ := Classical.axiomOfChoice each
      obtain ⟨b, off, spot⟩ := a
      have cellAt : ∀ (i : _root_.Fin len) (j : Nat), j < Cod.wd Y → ∃ v, (g i).1[j]? = some v ∧ w.cell? ((Addr.add ⟨b, off, spot⟩ (i * Cod.wd Y)).add j) = some v := fun i j hj => by
        have h1 := World.cells?_some (hg i).1
        have h2 := h1.2.2 j (by rw [hc]; exact hj)
        have h3 : j < (g i).1.length := by rw [h1.2.1, hc]; exact hj
        refine ⟨(g i).1[j], List.getElem?_eq_getElem h3, ?_⟩
        rw [hc] at h2
        rw [h2, List.getElem?_eq_getElem h3]
      have hs : spot = none := by
        obtain ⟨v, _, h2⟩ := cellAt ⟨0, by omega⟩ 0 h0
        have := World.cell?_spot h2
        simpa [Addr.add] using this
      subst hs
      have hadd : ∀ (o n : Nat), Addr.add ⟨b, o, none⟩ n = ⟨b, o + n, none⟩ := fun o n => by
        unfold Addr.add
        split
        · rename_i e; subst e; rfl
        · rfl
      have cellAt' : ∀ (i : _root_.Fin len) (j : Nat), j < Cod.wd Y → ∃ v, (g i).1[j]? = some v ∧ w.cell? ⟨b, off + (i * Cod.wd Y + j), none⟩ = some v := fun i j hj => by
        obtain ⟨v, h1, h2⟩ := cellAt i j hj
        refine ⟨v, h1, ?_⟩
        rw [hadd, hadd] at h2
        rw [← Nat.add_assoc]
        exact h2
      have hb : b < w.heap.size := by
        obtain ⟨v, _, h2⟩ := cellAt' ⟨0, by omega⟩ 0 h0
        unfold World.cell? at h2
        by_cases hlt : b < w.heap.size
        · exact hlt
        · simp only [Array.getElem?_eq_none (Nat.le_of_not_lt hlt)] at h2
          cases h2
      let es : List Y := List.ofFn fun i => (g i).2
      have hesl : es.length = len := by simp [es]
      have hesi : ∀ i : _root_.Fin len, (es.map Cod.enc)[(i : Nat)]? = some (Cod.enc (g i).2) := fun i => by
        rw [List.getElem?_map]
        have : es[(i : Nat)]? = some (g i).2 := by simp [es]
        rw [this]; rfl
      have hw : ∀ d ∈ es.map Cod.enc, d.kn = true ∧ d.cells.length = Cod.wd Y := fun d hd => by
        obtain ⟨y, _, rfl⟩ := List.mem_map.1 hd
        exact ⟨Cod.kn y, Cod.wid y⟩
      have flatAt : ∀ (k : Nat) (c : D), (flat (es.map Cod.enc))[k]? = some c → ∃ v, w.cell? ⟨b, off + k, none⟩ = some v ∧ v.oneCell' = true ∧ R tp I w v c := fun k c hk => by
        have hkl := (List.getElem?_eq_some_iff.1 hk).1
        rw [flat_length (fun d hd => (hw d hd).2), List.length_map, hesl] at hkl
        have hdm : k = (k / Cod.wd Y) * Cod.wd Y + k % Cod.wd Y := by have := Nat.div_add_mod k (Cod.wd Y); rw [Nat.mul_comm] at this; omega
        have hmod : k % Cod.wd Y < Cod.wd Y := Nat.mod_lt _ h0
        have hq : k / Cod.wd Y < len := Nat.div_lt_of_lt_mul (by rw [Nat.mul_comm]; exact hkl)
        have g1 := flat_get (es := es.map Cod.enc) (fun d hd => (hw d hd).2) (i := k / Cod.wd Y) hmod
        rw [← hdm, hk, hesi ⟨k / Cod.wd Y, hq⟩] at g1
        simp only [Option.bind_some] at g1
        obtain ⟨v, h1, h2⟩ := cellAt' ⟨k / Cod.wd Y, hq⟩ (k % Cod.wd Y) hmod
        simp only at h2
        rw [← hdm] at h2
        exact ⟨v, h2, (hg ⟨k / Cod.wd Y, hq⟩).2.2 _ v c h1 g1.symm⟩
      have hR : R tp I w (.slice (some ⟨b, off, none⟩) len cap) (.list (Cod.wd Y) (es.map Cod.enc)) := by
        have hll : (es.map (Cod.enc (X := Y))).length = len := by simp [hesl]
        rw [← hll]
        have rd : ∀ (k : Nat) (c : D), (flat (es.map Cod.enc))[k]? = some c → w.cell? ⟨b, off + k, none⟩ = some ((w.cell? ⟨b, off + k, none⟩).getD Go.undef) := fun k c hk => by
          obtain ⟨v, h1, _⟩ := flatAt k c hk
          rw [h1]; rfl
        refine .list b off cap _ (es.map Cod.enc) (fun k => (w.cell? ⟨b, off + k, none⟩).getD Go.undef) (hI b hb) (by rw [hll]; exact hl) hm hw rd (fun k c hk => ?_) (fun k c hk => ?_)
        · obtain ⟨v, h1, h2, _⟩ := flatAt k c hk
          rw [h1]; exact h2
        · obtain ⟨v, h1, _, h2⟩ := flatAt k c hk
          rw [h1]; exact h2
      exact ⟨es, one _ es rfl hR⟩
end
end Go.Gv

namespace Go.Gv
open Go.ChangeShapes Go.WideShapes Go.ChangeAt Go.RowKit
set_option linter.unusedVariables false
section
variable {H : Type} {ec : TypeId × Value → H} {P : Program} {w : World} {base : Nat} {spare : Nat → Bool} {held : Bool} {tp I : Nat → Prop}
end
abbrev noI (w : World) : Nat → Prop := Imm (fun _ => False) (fun _ => False) noH w
theorem noI_of {w : World} {b : Nat} (h : b < w.heap.size) : noI w b := ⟨h, fun h => h, fun h => h, fun ⟨i, r, h, _⟩ => by simp [noH] at h⟩
/-- A law that holds: it returns true and turns nothing that was there. -/
theorem law_below {P : Program} {f : Nat} {X : Type} {A : Arg X} {q : X → Bool → Prop} (h : Tri P f (spc A (fun _ => True) (Cod.enc (X := Bool)) q).pt) (hq : ∀ x y, q x y → y = true) {w : World} {vs : List Value} {ds : List D} {x : X} (hlen : vs.length = ds.length)
    (hR : ∀ (k : Nat) (y : Value) (c : D), vs[k]? = some y → ds[k]? = some c → R (fun _ => False) (noI w) w y c) (hdec : A.dec ds = some x) :
    Calls P f vs.toArray w fun e w' => e = .returned (.bool true) ∧ Below w.heap.size w w' := by
  obtain ⟨_, hc⟩ := h (fun _ => False) (fun _ => False) w vs ds noH 0 (fun r H' => r = .v (.bool true)) (fun b h => h.elim) (fun b h => h.elim)
    ⟨fun i j r s b h => by simp [noH] at h, fun i r b h => by simp [noH] at h, fun i r h => by simp [noH] at h⟩ hlen hR
    (by rw [spc_pt, hdec]; exact ⟨trivial, fun y hy => by rw [hq x y hy]; rfl⟩)
  refine hc.mono ?_
  rintro e w' ⟨v, r, H', tp', rfl, hr, _, _, _, hs, _, _, hv⟩
  subst hr
  have hv' := hv.inv_v
  subst hv'
  exact ⟨rfl, hs.os, hs.tape, hs.output, hs.size, fun k hk => hs.same k hk (fun ⟨i, r, h, _⟩ => by simp [noH] at h) (fun h => h)⟩
end Go.Gv
