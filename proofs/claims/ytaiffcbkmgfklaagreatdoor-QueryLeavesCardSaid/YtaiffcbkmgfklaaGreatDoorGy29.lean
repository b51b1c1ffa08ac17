/- A part of the framework and of the walks: Fr2. -/
import Derived.Test.YtaiffcbkmgfklaaGreatDoorGy28

namespace Go.Gv
open Go.ChangeShapes Go.WideShapes Go.ChangeAt Go.RowKit
set_option linter.unusedVariables false
section
variable {H : Type} {ec : TypeId × Value → H} {P : Program} {w : World} {base : Nat} {spare : Nat → Bool} {held : Bool} {tp I : Nat → Prop}
end
abbrev noI (w : World) : Nat → Prop := Imm (fun _ => False) (fun _ => False) noH w
theorem noI_of {w : World} {b : Nat} (h : b < w.heap.size) : noI w b := ⟨h, fun h => h, fun h => h, fun ⟨i, r, h, _⟩ => by simp [noH] at h⟩
/-- A law that holds: it returns true and turns nothing that was there. -/
theorem law_below {P : Program} {f : Nat} {X : Type} {A : Arg X} {q : X → Bool → Prop} (h : Tri P f (spc A (fun _ => True) (Cod.enc (X := Bool)) q).pt) (hq : ∀ x y, q x y → y = true) {w : World} {vs : List Value} {ds : List D} {x : X} (hlen : vs.length = ds.length)
    (hR : ∀ (k : Nat) (y : Value) (c : D), vs[k]? = some y → ds[k]? = some c → R (fun _ => False) (noI w) w y c) (hdec : A.dec ds = some x) :
    Calls P f vs.toArray w fun e w' => e = .returned (.bool true) ∧ Below w.heap.size w w' := by
  obtain ⟨_, hc⟩ := h (fun _ => False) (fun _ => False) w vs ds noH 0 (fun r H' => r = .v (.bool true)) (fun b h => h.elim) (fun b h => h.elim)
    ⟨fun i j r s b h => by simp [noH] at h, fun i r b h => by simp [noH] at h, fun i r h => by simp [noH] at h⟩ hlen hR
    (by rw [spc_pt, hdec]; exact ⟨trivial, fun y hy => by rw [hq x y hy]; rfl⟩)
  refine hc.mono ?_
  rintro e w' ⟨v, r, H', tp', rfl, hr, _, _, _, hs, _, _, hv⟩
  subst hr
  have hv' := hv.inv_v
  subst hv'
  exact ⟨rfl, hs.os, hs.tape, hs.output, hs.size, fun k hk => hs.same k hk (fun ⟨i, r, h, _⟩ => by simp [noH] at h) (fun h => h)⟩
end Go.Gv
