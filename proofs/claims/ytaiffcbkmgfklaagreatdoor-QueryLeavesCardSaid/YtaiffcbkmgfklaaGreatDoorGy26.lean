/- A part of the framework and of the walks: W71 W72 W73 W74 W75 W78 W62. -/
import Derived.Lib.UnsafeStr
import Derived.Test.YtaiffcbkmgfklaaGreatDoorGy25
import Derived.Test.YtaiffcbkmgfklaaGreatDoorGy17
import Derived.Test.YtaiffcbkmgfklaaGreatDoorGy24
import Derived.Test.YtaiffcbkmgfklaaGreatDoorGy19

namespace Go.Gv
set_option linter.unusedSimpArgs false
set_option linter.unusedVariables false
set_option maxRecDepth 100000
open Cod (enc dec)
open Go.Proofs Go.RowKit
set_option maxHeartbeats 1000000 in
theorem calls_String (b : Nat) (u : Bool) (v : Value) (l : List UInt8) (w : World) (hbk : w.heap[b]? = some (.cells #[pv b u, v] 108 (0, 0))) (hown : w.ownsRow 0 5 1 v l.length (l.map fun c => Value.int .u8 c.toNat)) (h0 : l ≠ []) :
    Calls Tryz.prog 64 #[.pointer (some ⟨b, 0, none⟩)] w fun e w' => e = .returned (.string ⟨l.toArray⟩) ∧ ∃ g cap, v = .slice (some ⟨g, 0, none⟩) l.length cap ∧ w' = w.drew.freeze ⟨g, 0, none⟩ l.length := by
  have hl0 : l.length ≠ 0 := by simpa using h0
  obtain ⟨g, cap, cur, rfl, hbg, hg, hnc, hcm, hcs, htake⟩ : ∃ g cap cur, v = .slice (some ⟨g, 0, none⟩) l.length cap ∧ 0 ≤ g ∧ w.heap[g]? = some (.cells cur 5 (0, 0)) ∧ l.length ≤ cap ∧ cap ≤ maxLen ∧ cur.size = cap * 1 ∧ cur.toList.take (l.length * 1) = l.map fun c => Value.int .u8 c.toNat := by
    rcases hown.2 with ⟨_, hz⟩ | ⟨g, cap, cur, hv, r⟩
    · exact absurd hz hl0
    · exact ⟨g, cap, cur, hv, r⟩
  have c1 : w.drew.cell? ⟨b, 1, none⟩ = some (.slice (some ⟨g, 0, none⟩) l.length cap) := by
    have : w.drew.heap[b]? = some (.cells #[pv b u, .slice (some ⟨g, 0, none⟩) l.length cap] 108 (0, 0)) := hbk
    rw [Lib.cell_of_heap this]; rfl
  have t145 : Tryz.prog.underlying 145 = some (.pointer 5) := by kernel_rfl
  have hc5 : Tryz.prog.cellsOf 5 = 1 := by kernel_rfl
  have hSD : (Builtin.unsafeSliceData_ #[50] 145 #[.slice (some ⟨g, 0, none⟩) l.length cap]).run Tryz.prog w.drew = .ok (.pointer (some ⟨g, 0, none⟩)) w.drew :=
    Lib.run_unsafeSliceData_row _ _ _ _ _ _ (by omega)
  have hUS : (Builtin.unsafeString_ #[145, 3] 9 #[.pointer (some ⟨g, 0, none⟩), .int .i64 l.length]).run Tryz.prog w.drew = .ok (.string ⟨l.toArray⟩) (w.drew.freeze ⟨g, 0, none⟩ l.length) := by
    refine Lib.run_unsafeString_row w.drew 145 3 9 5 t145 hc5 g cur.size (by have hg' : w.drew.heap[g]? = some (.cells cur 5 (0, 0)) := hg; simp [World.shape?, hg']) l h0 (by omega) (by unfold maxLen at hcm; omega) ?_
    intro j x hx
    have := hown.cells (g := g) rfl j (.int .u8 x.toNat) (by simp [hx])
    exact this
  have hmx := mixed
  go_enter Tryz.func64, Tryz.ntmps64
  go_wp2
  go_region_o
  all_goals (go_wp2; go_ret; exact ⟨rfl, g, cap, rfl, rfl⟩)
/-! ### The contracts -/
theorem grB_setCell (w : World) (b i : Nat) (v : Value) : GrB w (w.setCell ⟨b, i, none⟩ v) (some b) :=
  ⟨⟨rfl, rfl, rfl, by simp, fun k _ hk => heap_setCell_other w _ k v (fun e => hk (by rw [e]))⟩, Nat.le_refl _⟩
theorem StW.ds {E : Env} {tp : Nat → Prop} {H : HMap} {w : World} (h : StW E tp H w) (dl : List Deferred) : StW { E with ds := dl } tp H w := ⟨h.1, h.2, h.3, h.4, h.5, h.6, h.7⟩
/-- What is known of the writer in memory. -/
theorem wtr_mem {E : Env} {tp : Nat → Prop} {w : World} {b : Nat} {u : Bool} {v : Value} {s : ByteArray} {H : HMap} (h : StW E tp H w) (h0 : H 0 = some (.tbox 108 b [.v (pv b u), .own 900 v])) (h9 : H 900 = some (.row v 5 1 (bD s))) :
    w.heap[b]? = some (.cells #[pv b u, v] 108 (0, 0)) ∧ w.ownsRow 0 5 1 v s.size (Lib.strCells s) ∧ v.ownBlock ≠ some b ∧ v.oneCell' = true := by
  obtain ⟨xs, h1, h2, h3⟩ := h.sat.ok _ _ h0
  obtain ⟨ys, k1, k2, k3⟩ := h.sat.ok _ _ h9
  have hx : xs = #[pv b u, v] ∧ v.oneCell' = true := by
    obtain ⟨l⟩ := xs
    have h2 : l.length = 2 := h2
    match l, h2 with
    | [x, y], _ =>
      have e0 := (h3 0 x _ rfl rfl).2
      have e1 := (h3 1 y _ rfl rfl)
      have e0 := e0.inv_v
      obtain ⟨e1a, e1b⟩ := e1
      cases e1b
      subst e0
      exact ⟨rfl, e1a⟩
  have hfl : flat (bD s) = bD s := byL_flat (by
    have := byL_bDs s.data.toList
    exact this)
  have hlen : (bD s).length = s.size := by simp [bD]
  have hy : ys = Lib.strCells s := by
    rw [hfl] at k3
    have hl : ys.length = (bD s).length := by have := k1.1; omega
    have e : Lib.strCells s = (bD s).map fun d => match d with | .v x => x | _ => undef := by
      unfold Lib.strCells bD
      rw [List.map_map]
      rfl
    rw [e]
    apply List.ext_getElem?
    intro k
    by_cases hk : k < ys.length
    · have hk2 : k < (bD s).length := by omega
      have g1 := List.getElem?_eq_getElem hk
      have g2 := List.getElem?_eq_getElem hk2
      have := (k3 k _ _ g1 g2).2
      rw [g1, List.getElem?_map, g2]
      simp only [bD, List.getElem_map] at this ⊢
      rw [this.inv_v]
      rfl
    · rw [List.getElem?_eq_none (by omega), List.getElem?_eq_none (by simp; omega)]
  subst hy
  rw [hlen] at k1
  refine ⟨by rw [← hx.1]; exact h1, k1, fun e => ?_, hx.2⟩
  have := h.sat.dis 0 900 _ _ b h0 h9 rfl e
  omega
theorem tmps_at {vs : List Value} {m k : Nat} {x : Value} (h : vs[k]? = some x) : (vs.toArray ++ Array.replicate m undef).getD k undef = x := by
  have hlt := (List.getElem?_eq_some_iff.1 h).1
  rw [Array.getD_eq_getD_getElem?, Array.getElem?_append_left (by simpa using hlt)]
  simp [h]
theorem two_of {vs : List Value} (h : vs.length = 2) : ∃ x0 x1, vs = [x0, x1] := by
  match vs, h with
  | [x0, x1], _ => exact ⟨x0, x1, rfl⟩
theorem one_of {vs : List Value} (h : vs.length = 1) : ∃ x0, vs = [x0] := by
  match vs, h with
  | [x0], _ => exact ⟨x0, rfl⟩
theorem ccW_box {b : Nat} {u : Bool} {v : Value} {w : World} (hbk : w.heap[b]? = some (.cells #[pv b u, v] 108 (0, 0))) : (ccW b u w).heap[b]? = some (.cells #[pv b true, v] 108 (0, 0)) := by
  cases u with
  | true => exact hbk
  | false => exact (heap_setCell_same w b 0 _ 108 _ hbk).trans (by rfl)
theorem ccW_gr (b : Nat) (u : Bool) (w : World) : GrB w (ccW b u w) (some b) := by
  cases u with
  | true => exact grownBy_refl _ _
  | false => exact grB_setCell w b 0 _
theorem ccW_size (b : Nat) (u : Bool) (w : World) : (ccW b u w).heap.size = w.heap.size := by
  cases u with
  | true => rfl
  | false => simp [ccW]
theorem cells_two {Q : Value → D → Prop} {x y : Value} {c d : D} (h1 : Q x c) (hx : x.oneCell' = true) (h2 : Q y d) (hy : y.oneCell' = true) : CellsOk Q [x, y] [c, d] := by
  intro k z e hz he
  match k with
  | 0 => simp at hz he; subst hz; subst he; exact ⟨hx, h1⟩
  | 1 => simp at hz he; subst hz; subst he; exact ⟨hy, h2⟩
  | k + 2 => simp at hz
theorem row_str {tp I : Nat → Prop} {w : World} {v : Value} {s t : ByteArray} (h : w.ownsRow 0 5 1 v (s.size + t.size) (Lib.strCells s ++ Lib.strCells t)) : ResOk (R tp I w) w (.row v 5 1 (bD (s ++ t))) := by
  have e1 : Lib.strCells s ++ Lib.strCells t = Lib.strCells (s ++ t) := by
    unfold Lib.strCells
    rw [ByteArray.data_append, Array.toList_append, List.map_append]
  have e2 : (bD (s ++ t)).length = s.size + t.size := by simp [bD]
  refine ⟨Lib.strCells (s ++ t), by rw [e2, ← e1]; exact h, fun d hd => ?_, ?_⟩
  · obtain ⟨c, _, rfl⟩ := List.mem_map.1 hd
    exact ⟨rfl, rfl⟩
  · rw [show flat (bD (s ++ t)) = bD (s ++ t) from byL_flat (byL_bDs (s ++ t).data.toList)]
    intro k y c hy hc
    unfold Lib.strCells at hy
    unfold bD at hc
    rw [List.getElem?_map] at hy hc
    obtain ⟨z, hz, rfl⟩ := Option.map_eq_some_iff.1 hy
    rw [hz] at hc
    cases hc
    exact ⟨rfl, .int _ _⟩
abbrev s_wstr : Spc := wrC 108 5 (a1 B) (.tup [.any, .any]) (fun z : B => some z)
def VW (Q : D → HMap → Prop) (ds : List D) (H0 : HMap) : Prop := ∃ b u v s t, ds = [.bptr 0 b 0, .v (.string t)] ∧ H0 = updH (updH noH 900 (some (.row v 5 1 (bD s)))) 0 (some (.tbox 108 b [.v (pv b u), .own 900 v])) ∧ s.size + t.size ≤ LIMW ∧
  ∀ u' v', Q (.tup [.any, .any]) (updH (updH noH 900 (some (.row v' 5 1 (bD (s ++ t))))) 0 (some (.tbox 108 b [.v (pv b u'), .own 900 v'])))
def rsW : List CRes := [.tmp 4, .tmp 5]
theorem run_WriteString (E : Env) (ds' : List D) (H0 : HMap) (Q : D → HMap → Prop) (vs : List Value) (w : World) (RR : Ending → World → Prop) (hds : E.ds = []) (hN : E.N = 19) (hlen : vs.length = ds'.length)
    (hst : St E (initS ds') H0 { tmps := vs.toArray ++ Array.replicate (Tryz.f60.ntmps - vs.toArray.size) undef, defers := [] } w) (hV : VW Q ds' H0)
    (hfin : ∀ (a' : Act) (w' : World) (σ' : Sg) (H' : HMap) (dl : List Deferred), St { E with ds := dl } σ' H' a' w' → (resL rsW σ' H' fun ds => Q (oneOrTup ds) H') → ∃ v, (results Tryz.f60 a'.tmps).run Tryz.prog w' = .ok v w' ∧ RR (.returned v) w') : Calls Tryz.prog 60 vs.toArray w RR := by
  obtain ⟨b, u, v, s, t, rfl, rfl, hsz, hQ⟩ := hV
  obtain ⟨hd, hN2, tp, hw, hr⟩ := hst
  obtain ⟨x0, x1, rfl⟩ := two_of hlen
  have e0 : x0 = .pointer (some ⟨b, 0, none⟩) := by
    have h0 := hr 0
    rw [tmps_at (x := x0) rfl] at h0
    have h0 : R tp (Imm E.O tp _ w) w x0 (.bptr 0 b 0) := h0
    cases h0
    rfl
  have e1 : x1 = .string t := by
    have h0 := hr 1
    rw [tmps_at (x := x1) rfl] at h0
    have h0 : R tp (Imm E.O tp _ w) w x1 (.v (.string t)) := h0
    exact h0.inv_v
  clear hr
  subst e0; subst e1
  obtain ⟨hbk, hown, hne, hv1⟩ := wtr_mem (b := b) (u := u) (v := v) (s := s) hw (by simp [updH]) (by simp [updH])
  refine (calls_WriteString b u v s.size (Lib.strCells s) t w hbk hown hne (by unfold LIMW at hsz; omega)).mono ?_
  rintro e w' ⟨rfl, v', w2, g1, g2, g3, rfl⟩
  have hv' : v'.oneCell' = true := by
    rcases g1.2 with ⟨rfl, _⟩ | ⟨g, cap, cur, rfl, _⟩ <;> rfl
  have hbk1 := ccW_box hbk
  obtain ⟨s1, _⟩ := hw.own 0 (some (.tbox 108 b [.v (pv b true), .own 900 v])) (ccW_gr b u w) (fun b' e => by cases e; exact ⟨_, by simp [updH]; rfl, rfl⟩) (fun r b' e1 e2 => by cases e1; cases e2; exact .inr ⟨_, by simp [updH]; rfl, rfl⟩) (fun m r e => by
    cases e
    exact ⟨_, hbk1, rfl, cells_two (.v _ rfl (fun s h => by cases h)) rfl (.own _ _ hv1) hv1⟩)
  obtain ⟨s2, _⟩ := s1.own 900 (some (.row v' 5 1 (bD (s ++ t)))) g2 (fun b' e => ⟨.row v 5 1 (bD s), by simp [updH], e⟩) (fun r b' e1 e2 => by
      cases e1
      rcases g3 b' e2 with h | h
      · exact .inl (by rw [ccW_size]; exact h)
      · exact .inr ⟨.row v 5 1 (bD s), by simp [updH], h⟩) (fun m r e => by
    cases e
    exact row_str g1)
  have hb2 : w2.heap[b]? = some (.cells #[pv b true, v] 108 (0, 0)) := by
    rw [g2.block b (by rw [ccW_size]; exact (Array.getElem?_eq_some_iff.1 hbk).1) (fun e => hne e.symm)]
    exact hbk1
  obtain ⟨s3, _⟩ := s2.own 0 (some (.tbox 108 b [.v (pv b true), .own 900 v'])) (grB_setCell w2 b 1 v') (fun b' e => by cases e; exact ⟨_, by simp [updH]; rfl, rfl⟩) (fun r b' e1 e2 => by cases e1; cases e2; exact .inr ⟨_, by simp [updH]; rfl, rfl⟩) (fun m r e => by
    cases e
    exact ⟨_, (heap_setCell_same w2 b 1 _ 108 v' hb2), rfl, cells_two (.v _ rfl (fun s h => by cases h)) rfl (.own _ _ hv') hv'⟩)
  let a' : Act := { tmps := #[undef, undef, undef, undef, .int .i64 t.size, .nilIface, undef, undef, undef, undef, undef, undef, undef, undef, undef, undef, undef, undef, undef], defers := [] }
  obtain ⟨q, h1, h2⟩ := hfin a' (w2.setCell ⟨b, 1, none⟩ v') (fun _ => .any) _ [] ⟨rfl, by rw [hN]; rfl, tp, s3.ds [], fun t => .any _⟩ (by
    have := hQ true v'
    have e : updH (updH (updH (updH (updH noH 900 (some (.row v 5 1 (bD s)))) 0 (some (.tbox 108 b [.v (pv b u), .own 900 v]))) 0 (some (.tbox 108 b [.v (pv b true), .own 900 v]))) 900 (some (.row v' 5 1 (bD (s ++ t))))) 0 (some (.tbox 108 b [.v (pv b true), .own 900 v'])) =
        updH (updH noH 900 (some (.row v' 5 1 (bD (s ++ t))))) 0 (some (.tbox 108 b [.v (pv b true), .own 900 v'])) := by
      funext i
      simp only [updH]
      by_cases h0 : i = 0
      · simp [h0]
      · by_cases h9 : i = 900 <;> simp [h0, h9]
    rw [e]
    exact this)
  have hres : (results Tryz.f60 a'.tmps).run Tryz.prog (w2.setCell ⟨b, 1, none⟩ v') = .ok (.tuple #[.int .i64 t.size, .nilIface]) (w2.setCell ⟨b, 1, none⟩ v') := by
    simp [results, Tryz.results60, a']
  rw [hres] at h1
  cases h1
  exact h2
theorem t_WriteString : Tri Tryz.prog f_strings_Builder_WriteString s_wstr.pt :=
  tri_runBQ (V := VW) (rs := rsW) (N := 19) (by simp) (callEnter Tryz.func60 (by kernel_rfl) rfl) rfl (by kernel_rfl) (fun z => by show 2 ≤ 19; decide) run_WriteString fun b x z hp => by
    obtain ⟨t, ht, hl⟩ := hp
    cases ht
    exact ⟨b, x.u, x.v, x.s, z, rfl, rfl, hl, fun u' v' => ⟨⟨u', v', x.s ++ z⟩, (), .same _, by simp [updH], fun p hp => by simp at hp; subst hp; simp [updH], z, rfl, rfl⟩⟩
/-! ### String -/
theorem freeze_other (w : World) (g n k : Nat) (h : k ≠ g) : (w.freeze ⟨g, 0, none⟩ n).heap[k]? = w.heap[k]? := by
  unfold World.freeze
  split
  · rfl
  · simp only [Array.getElem?_modify]
    rw [if_neg (by omega)]
theorem freeze_size (w : World) (g n : Nat) : (w.freeze ⟨g, 0, none⟩ n).heap.size = w.heap.size := by
  unfold World.freeze
  split
  · rfl
  · simp
theorem freeze_rest (w : World) (p : Addr) (n : Nat) : (w.freeze p n).os = w.os ∧ (w.freeze p n).tape = w.tape ∧ (w.freeze p n).output = w.output ∧ (w.freeze p n).drawn = w.drawn := by
  unfold World.freeze
  split <;> exact ⟨rfl, rfl, rfl, rfl⟩
def sgPT : PT := fun d ds H K => ∃ id b u v s, ds = [.bptr id b 0] ∧ H id = some (.tbox 108 b [.v (pv b u), .own 900 v]) ∧ H 900 = some (.row v 5 1 (bD s)) ∧ id ≠ 900 ∧ (s.size ≠ 0 ∧ s.size ≤ LIMW) ∧ K (.v (.string s)) (updH (updH H 900 none) id none)
theorem sg_mono : MonoPT sgPT := fun d ds H K K' hk ⟨id, b, u, v, s, h1, h2, h3, h4, h5, h6⟩ => ⟨id, b, u, v, s, h1, h2, h3, h4, h5, hk _ _ h6⟩
/-- What is written so far, as a string; the writer is given up. -/
abbrev s_string : Spc := .gen sgPT sg_mono
def VG (Q : D → HMap → Prop) (ds : List D) (H0 : HMap) : Prop := ∃ b u v s, ds = [.bptr 0 b 0] ∧ H0 = updH (updH noH 900 (some (.row v 5 1 (bD s)))) 0 (some (.tbox 108 b [.v (pv b u), .own 900 v])) ∧ s.size ≠ 0 ∧ s.size ≤ LIMW ∧ Q (.v (.string s)) noH
def rsG : List CRes := [.tmp 2]
theorem run_String (E : Env) (ds' : List D) (H0 : HMap) (Q : D → HMap → Prop) (vs : List Value) (w : World) (RR : Ending → World → Prop) (hds : E.ds = []) (hN : E.N = 14) (hlen : vs.length = ds'.length)
    (hst : St E (initS ds') H0 { tmps := vs.toArray ++ Array.replicate (Tryz.f64.ntmps - vs.toArray.size) undef, defers := [] } w) (hV : VG Q ds' H0)
    (hfin : ∀ (a' : Act) (w' : World) (σ' : Sg) (H' : HMap) (dl : List Deferred), St { E with ds := dl } σ' H' a' w' → (resL rsG σ' H' fun ds => Q (oneOrTup ds) H') → ∃ v, (results Tryz.f64 a'.tmps).run Tryz.prog w' = .ok v w' ∧ RR (.returned v) w') : Calls Tryz.prog 64 vs.toArray w RR := by
  obtain ⟨b, u, v, s, rfl, rfl, hsz, hlim, hQ⟩ := hV
  have hmx : s.size ≤ maxLen := by unfold LIMW at hlim; simp only [maxLen]; omega
  obtain ⟨hd, hN2, tp, hw, hr⟩ := hst
  obtain ⟨x0, rfl⟩ := one_of hlen
  have e0 : x0 = .pointer (some ⟨b, 0, none⟩) := by
    have h0 := hr 0
    rw [tmps_at (x := x0) rfl] at h0
    have h0 : R tp (Imm E.O tp _ w) w x0 (.bptr 0 b 0) := h0
    cases h0
    rfl
  clear hr
  subst e0
  obtain ⟨hbk, hown, hne, hv1⟩ := wtr_mem (b := b) (u := u) (v := v) (s := s) hw (by simp [updH]) (by simp [updH])
  have hl : s.data.toList.length = s.size := by simp
  refine (calls_String b u v s.data.toList w hbk (by rw [hl]; exact hown) (fun e => hsz (by rw [← hl, e]; rfl))).mono ?_
  rintro e w' ⟨rfl, g, cap, rfl, rfl⟩
  have hes : (⟨s.data.toList.toArray⟩ : ByteArray) = s := rfl
  rw [hes]
  have hg9 := hw.sat.out 900 (.row (.slice (some ⟨g, 0, none⟩) s.data.toList.length cap) 5 1 (bD s)) g (by simp [updH]) rfl
  have hown9 : owns (updH (updH noH 900 (some (.row (.slice (some ⟨g, 0, none⟩) s.data.toList.length cap) 5 1 (bD s)))) 0 (some (.tbox 108 b [.v (pv b u), .own 900 (.slice (some ⟨g, 0, none⟩) s.data.toList.length cap)]))) g := ⟨900, .row (.slice (some ⟨g, 0, none⟩) s.data.toList.length cap) 5 1 (bD s), by simp [updH], rfl⟩
  obtain ⟨r1, r2, r3, r4⟩ := freeze_rest w.drew ⟨g, 0, none⟩ s.data.toList.length
  have hstep : Step tp (owns (updH (updH noH 900 (some (.row (.slice (some ⟨g, 0, none⟩) s.data.toList.length cap) 5 1 (bD s)))) 0 (some (.tbox 108 b [.v (pv b u), .own 900 (.slice (some ⟨g, 0, none⟩) s.data.toList.length cap)])))) w (w.drew.freeze ⟨g, 0, none⟩ s.data.toList.length) :=
    ⟨r1, r2, r3, by rw [freeze_size]; exact Nat.le_refl _, fun k _ ho _ => freeze_other _ g _ k (fun e => ho (e ▸ hown9)), fun k hk => .same (freeze_other _ g _ k (fun e => hg9.2 (e ▸ hk))), by rw [r4]; exact Nat.le_succ _⟩
  obtain ⟨s1, _⟩ := hw.move (H' := noH) hstep (fun _ h => h) (fun _ h => .inl h) (fun k hk => by rw [freeze_size]; exact hw.tpl k hk) (fun k ⟨i, r, h, _⟩ => by simp [noH] at h) ⟨fun i j r s b h => by simp [noH] at h, fun i r b h => by simp [noH] at h, fun i r h => by simp [noH] at h⟩
  let a' : Act := { tmps := #[undef, undef, .string s, undef, undef, undef, undef, undef, undef, undef, undef, undef, undef, undef], defers := [] }
  obtain ⟨q, h1, h2⟩ := hfin a' _ (upd (fun _ => .any) 2 (.v (.string s))) noH [] ⟨rfl, by rw [hN]; rfl, tp, s1.ds [], fun t => by
    by_cases h : t = 2
    · subst h
      exact .str s hmx
    · simp only [upd, h, if_false]
      exact .any _⟩ hQ
  have hres : (results Tryz.f64 a'.tmps).run Tryz.prog (w.drew.freeze ⟨g, 0, none⟩ s.data.toList.length) = .ok (.string s) (w.drew.freeze ⟨g, 0, none⟩ s.data.toList.length) := by
    simp [results, Tryz.results64, a']
  rw [hres] at h1
  cases h1
  exact h2
theorem t_String : Tri Tryz.prog f_strings_Builder_String s_string.pt := by
  refine tri_of_run (V := VG) (rs := rsG) (N := 14) (callEnter Tryz.func64 (by kernel_rfl) rfl) rfl (by kernel_rfl) run_String ?_
  rintro ds H d K ⟨id, b, u, v, s, rfl, h1, h2, h3, h4, hK⟩
  have hH0 : ∀ i r, updH (updH noH 900 (some (.row v 5 1 (bD s)))) 0 (some (.tbox 108 b [.v (pv b u), .own 900 v])) i = some r → (i = 0 ∧ r = .tbox 108 b [.v (pv b u), .own 900 v]) ∨ (i = 900 ∧ r = .row v 5 1 (bD s)) := by
    intro i r h
    by_cases e : i = 0
    · subst e
      simp only [updH, if_true] at h
      cases h
      exact .inl ⟨rfl, rfl⟩
    · by_cases e9 : i = 900
      · subst e9
        simp [updH] at h
        exact .inr ⟨rfl, h.symm⟩
      · simp [updH, e, e9, noH] at h
  refine ⟨by show 1 ≤ 14; decide, [.bptr 0 b 0], updH (updH noH 900 (some (.row v 5 1 (bD s)))) 0 (some (.tbox 108 b [.v (pv b u), .own 900 v])), fun i => if i = 0 then id else i, .cons (.bptr _ _ _ _) .nil, fun i r h => ?_, fun i j r q h h' e => ?_, fun r H' => r = .v (.string s) ∧ H' = noH, ?_, ?_⟩
  · rcases hH0 i r h with ⟨rfl, rfl⟩ | ⟨rfl, rfl⟩
    · exact h1
    · exact h2
  · rcases hH0 i r h with ⟨rfl, rfl⟩ | ⟨rfl, rfl⟩ <;> rcases hH0 j q h' with ⟨rfl, rfl⟩ | ⟨rfl, rfl⟩ <;> simp at e ⊢
    · exact absurd e h3
    · exact absurd e.symm h3
  · exact ⟨b, u, v, s, rfl, rfl, h4.1, h4.2, rfl, rfl⟩
  · rintro r H' ⟨rfl, rfl⟩
    refine ⟨.v (.string s), noH, updH (updH H 900 none) id none, fun _ => none, .same _, fun j q h => by simp [noH] at h, hK, fun i q hi => ?_, fun i j k q q' _ _ h => by cases h⟩
    by_cases e : i = id
    · subst e
      simp [updH] at hi
    · by_cases e9 : i = 900
      · subst e9
        simp [updH, e] at hi
      · simp only [updH, e, e9, if_false] at hi
        refine ⟨hi, fun k p hk hk2 => ?_⟩
        rcases hH0 k p hk with ⟨rfl, rfl⟩ | ⟨rfl, rfl⟩
        · simp at hk2
          exact e hk2.symm
        · simp at hk2
          exact e9 hk2.symm
end Go.Gv

namespace Go.Gv
set_option linter.unusedSimpArgs false
set_option linter.unusedVariables false
set_option maxRecDepth 100000
open Cod (enc dec)
open Go.Proofs Go.RowKit
variable {S S0 : Nat → Spc}
theorem calls_Count (s : ByteArray) (w : World) : Calls Tryz.prog 200 #[.string s, .string ⟨#[34]⟩] w fun e w' => e = .returned (.int .i64 (Lib.countByte s.data.toList 34)) ∧ w' = w := by
  go_enter Tryz.func200, Tryz.ntmps200
  go_wp2
  rw [run_callFunc_extern Tryz.func219 (by kernel_rfl) (by kernel_rfl) (by kernel_rfl) (e := Extern.BytealgCount.count) (by kernel_rfl), Lib.run_countString]
  simp only [Result.andThen]
  rw [Oper.upon_value]
  go_wp2
  go_ret
  exact ⟨rfl, rfl⟩
abbrev s_count0 : Spc := spc (a2 B B) (fun x => x.2 = ⟨#[34]⟩ ∧ (34 : UInt8) ∉ x.1.data.toList) (enc (X := Int)) fun x y => y = 0
theorem t_strings_Count : Tri Tryz.prog f_strings_Count s_count0.pt := by
  refine tri_calls (callEnter Tryz.func200 (by kernel_rfl) rfl) fun tp I w vs x hp hI hl hv => ?_
  obtain ⟨s, t⟩ := x
  obtain ⟨rfl, c1⟩ := hp
  have hview : (a2 B B).view (s, ⟨#[34]⟩) = [.v (.string s), .v (.string ⟨#[34]⟩)] := rfl
  rw [hview] at hl hv
  obtain ⟨v0, v1, rfl⟩ := two_of hl
  have e0 := v_eqq (hv 0 v0 _ rfl rfl)
  have e1 := v_eqq (hv 1 v1 _ rfl rfl)
  subst e0; subst e1
  refine (calls_Count s w).mono ?_
  rintro e w' ⟨rfl, rfl⟩
  refine ⟨_, 0, rfl, rfl, fun tp' I' => ?_, Below.refl _ _, Nat.le_refl _⟩
  have h0 : Lib.countByte s.data.toList 34 = 0 := List.count_eq_zero.2 c1
  rw [h0]
  exact .int _ _
abbrev s_replace : Spc := spc (a4 B B B Int) (fun x => x.2.1 = ⟨#[34]⟩ ∧ x.2.2.1 = ⟨#[34, 34]⟩ ∧ x.2.2.2 = -1 ∧ (34 : UInt8) ∉ x.1.data.toList) (enc (X := B)) fun x y => y = x.1
theorem w_strings_Replace (h1 : S f_strings_Count = s_count0) : Walk cc_strings_Replace rs_strings_Replace S (a4 B B B Int) (fun x => x.2.1 = ⟨#[34]⟩ ∧ x.2.2.1 = ⟨#[34, 34]⟩ ∧ x.2.2.2 = -1 ∧ (34 : UInt8) ∉ x.1.data.toList) (enc (X := B)) fun x y => y = x.1 := by
  rintro ⟨s, o, n, k⟩ ⟨c1, c2, c3, c4⟩
  simp only at c1 c2 c3 c4
  subst c1; subst c2; subst c3
  have c4' : ¬ (34 : UInt8) ∈ s.data := fun h => c4 (Array.mem_toList_iff.2 h)
  simp [cc_strings_Replace, rs_strings_Replace, h1, c4, c4']
abbrev s_replAll : Spc := spc (a3 B B B) (fun x => x.2.1 = ⟨#[34]⟩ ∧ x.2.2 = ⟨#[34, 34]⟩ ∧ (34 : UInt8) ∉ x.1.data.toList) (enc (X := B)) fun x y => y = x.1
theorem w_strings_ReplaceAll (h1 : S f_strings_Replace = s_replace) : Walk cc_strings_ReplaceAll rs_strings_ReplaceAll S (a3 B B B) (fun x => x.2.1 = ⟨#[34]⟩ ∧ x.2.2 = ⟨#[34, 34]⟩ ∧ (34 : UInt8) ∉ x.1.data.toList) (enc (X := B)) fun x y => y = x.1 := by
  rintro ⟨s, o, n⟩ ⟨c1, c2, c4⟩
  simp only at c1 c2 c4
  subst c1; subst c2
  have c4' : ¬ (34 : UInt8) ∈ s.data := fun h => c4 (Array.mem_toList_iff.2 h)
  simp [cc_strings_ReplaceAll, rs_strings_ReplaceAll, h1, c4, c4']
end Go.Gv

namespace Go.Gv
set_option linter.unusedSimpArgs false
set_option linter.unusedVariables false
set_option maxRecDepth 100000
open Cod (enc dec)
open Go.Proofs
variable {S S0 : Nat → Spc}
/-! ### Texts (none: not said) -/
def strT (s : B) : Option B := if (34 : UInt8) ∈ s.data.toList then none else some (((⟨#[34]⟩ : B) ++ s) ++ ⟨#[34]⟩)
def valueT (z : B × Bool) : Option B := (strT z.1).map fun t => if z.2 then t ++ ⟨#[37, 99]⟩ else t
def condT (x : Cond) : Option B := if x.op = 1 then some ⟨#[91, 93]⟩ else if x.op = 2 then (valueT (x.val, x.fold)).map fun t => if x.name = E0 then t else (x.name ++ ⟨#[61]⟩) ++ t else none
def plainC (x : Cond) : Prop := x.op = 1 ∨ x.op = 2 ∧ x.name = E0
instance (x : Cond) : Decidable (plainC x) := by unfold plainC; infer_instance
def tokBodyT (x : Cond) (t : B) : B := if plainC x then t else (⟨#[91]⟩ ++ t) ++ ⟨#[93]⟩
def tokT (p : Pat) : Option B := (condT p.cond).map fun t => if p.lab = E0 then tokBodyT p.cond t else (p.lab ++ ⟨#[58]⟩) ++ tokBodyT p.cond t
theorem size_mk (a : Array UInt8) : ByteArray.size ⟨a⟩ = a.size := rfl
theorem size_app (a b : B) : (a ++ b).size = a.size + b.size := ByteArray.size_append

theorem hLIM : LIMW = 1000000 := rfl
theorem finW {b : Nat} {s : ByteArray} {H : HMap} (u : Bool) (v : Value) (h0 : H 0 = some (.tbox 108 b [.v (pv b u), .own 900 v])) (h9 : H 900 = some (.row v 5 1 (bD s))) : FinW 108 5 b s (.tup []) (.tup []) H :=
  ⟨u, v, .same _, h0, h9⟩
abbrev s_wStr : Spc := wrC 108 5 (a1 B) (.tup []) strT
theorem w_writer_str (h1 : S f_strings_ReplaceAll = s_replAll) (h2 : S f_strings_Builder_WriteString = s_wstr) : WalkW cc_query_writer_str rs_query_writer_str S 108 5 (a1 B) (.tup []) strT := by
  rintro b u v s z t ht hl
  unfold strT at ht
  split at ht
  · cases ht
  · rename_i hn
    cases ht
    have hn' : ¬ (34 : UInt8) ∈ z.data := fun h => hn (Array.mem_toList_iff.2 h)
    simp only [size_app, size_mk] at hl
    simp at hl
    simp [cc_query_writer_str, rs_query_writer_str, h1, h2, hn, hn', size_app, size_mk, -Bool.forall_bool, -Bool.exists_bool]
    have hL := hLIM
    exact ⟨by omega, by omega, by omega, fun u' v' => finW u' v' (by simp) (by simp)⟩
abbrev s_wValue : Spc := wrC 108 5 (a2 B Bool) (.tup []) valueT
theorem w_writer_value (h1 : S f_query_writer_str = s_wStr) (h2 : S f_strings_Builder_WriteString = s_wstr) : WalkW cc_query_writer_value rs_query_writer_value S 108 5 (a2 B Bool) (.tup []) valueT := by
  rintro b u v s ⟨z, fo⟩ t ht hl
  obtain ⟨q, hq, ht⟩ := Option.map_eq_some_iff.1 ht
  simp only at hq ht
  cases fo with
  | false =>
    simp at ht
    subst ht
    simp [cc_query_writer_value, rs_query_writer_value, h1, h2, hq, hl, size_app, size_mk, -Bool.forall_bool, -Bool.exists_bool]
    exact fun u' v' => finW u' v' (by simp) (by simp)
  | true =>
    simp at ht
    subst ht
    simp only [size_app, size_mk] at hl
    simp at hl
    have hl1 : s.size + q.size ≤ LIMW := by omega
    simp [cc_query_writer_value, rs_query_writer_value, h1, h2, hq, hl1, size_app, size_mk, -Bool.forall_bool, -Bool.exists_bool]
    exact fun u' v' => ⟨by omega, fun u' v' => finW u' v' (by simp) (by simp [ByteArray.append_assoc])⟩
abbrev s_wCond : Spc := wrC 108 5 (a1 Cond) (.tup []) condT
theorem w_writer_cond (h1 : S f_query_writer_value = s_wValue) (h2 : S f_strings_Builder_WriteString = s_wstr) : WalkW cc_query_writer_cond rs_query_writer_cond S 108 5 (a1 Cond) (.tup []) condT := by
  rintro b u v s x t ht hl
  unfold condT at ht
  split at ht
  · rename_i e
    cases ht
    simp only [size_mk] at hl
    simp at hl
    simp [cc_query_writer_cond, rs_query_writer_cond, e, h1, h2, hl, size_app, size_mk, -Bool.forall_bool, -Bool.exists_bool]
    exact fun u' v' => finW u' v' (by simp) (by simp)
  · rename_i e1
    split at ht
    · rename_i e
      obtain ⟨q, hq, ht⟩ := Option.map_eq_some_iff.1 ht
      subst ht
      by_cases hn : x.name = E0
      · rw [if_pos hn] at hl ⊢
        have hn' : x.name = ⟨#[]⟩ := hn
        simp [cc_query_writer_cond, rs_query_writer_cond, e, h1, h2, hl, hn', hq, size_app, size_mk, -Bool.forall_bool, -Bool.exists_bool]
        exact fun u' v' => finW u' v' (by simp) (by simp)
      · rw [if_neg hn] at hl ⊢
        have hn' : ¬ x.name = ⟨#[]⟩ := hn
        simp only [size_app, size_mk] at hl
        simp at hl
        simp [cc_query_writer_cond, rs_query_writer_cond, e, h1, h2, hn', hq, size_app, size_mk, -Bool.forall_bool, -Bool.exists_bool]
        have hL := hLIM
        exact ⟨by omega, by omega, fun u' v' => ⟨by omega, fun u' v' => finW u' v' (by simp) (by simp [ByteArray.append_assoc])⟩⟩
    · cases ht
abbrev s_wTok : Spc := wrC 108 5 (a1 Pat) (.tup []) tokT
theorem w_writer_token (h1 : S f_query_writer_cond = s_wCond) (h2 : S f_strings_Builder_WriteString = s_wstr) : WalkW cc_query_writer_token rs_query_writer_token S 108 5 (a1 Pat) (.tup []) tokT := by
  rintro b u v s ⟨op, ⟨cop, cname, carg, cval, clab, cfold, ckids⟩, lab, reg, mn, mx, kids⟩ t ht hl
  obtain ⟨q, hq, ht⟩ := Option.map_eq_some_iff.1 ht
  simp only at hq ht
  have hL := hLIM
  have hop : cop = 1 ∨ cop = 2 ∧ cname = E0 ∨ cop = 2 ∧ ¬ cname = E0 := by
    unfold condT at hq
    split at hq
    · exact .inl (by assumption)
    · split at hq
      · by_cases h : cname = E0
        · exact .inr (.inl ⟨by assumption, h⟩)
        · exact .inr (.inr ⟨by assumption, h⟩)
      · cases hq
  rcases hop with e | e | e
  · by_cases hn : lab = E0
    · rw [if_pos hn] at ht
      subst ht
      have hn' : lab = ⟨#[]⟩ := hn
      obtain rfl := e
      unfold tokBodyT at hl ⊢
      rw [if_pos (show plainC _ from .inl rfl)] at hl ⊢
      simp [cc_query_writer_token, rs_query_writer_token, E0, h1, h2, hl, hn', hq, size_app, size_mk, -Bool.forall_bool, -Bool.exists_bool]
      repeat' first | apply And.intro | intro _
      all_goals first | omega | (rename_i u' v'; exact finW u' v' (by simp) (by simp [ByteArray.append_assoc]))
    · rw [if_neg hn] at ht
      subst ht
      have hn' : ¬ lab = ⟨#[]⟩ := hn
      obtain rfl := e
      unfold tokBodyT at hl ⊢
      rw [if_pos (show plainC _ from .inl rfl)] at hl ⊢
      simp only [size_app, size_mk] at hl
      simp at hl
      simp [cc_query_writer_token, rs_query_writer_token, E0, h1, h2, hl, hn', hq, size_app, size_mk, -Bool.forall_bool, -Bool.exists_bool]
      repeat' first | apply And.intro | intro _
      all_goals first | omega | (rename_i u' v'; exact finW u' v' (by simp) (by simp [ByteArray.append_assoc]))
  · by_cases hn : lab = E0
    · rw [if_pos hn] at ht
      subst ht
      have hn' : lab = ⟨#[]⟩ := hn
      obtain ⟨rfl, rfl⟩ := e
      have hq : condT ⟨2, ⟨#[]⟩, carg, cval, clab, cfold, ckids⟩ = some q := hq
      unfold tokBodyT at hl ⊢
      rw [if_pos (show plainC _ from .inr ⟨rfl, rfl⟩)] at hl ⊢
      simp [cc_query_writer_token, rs_query_writer_token, E0, h1, h2, hl, hn', hq, size_app, size_mk, -Bool.forall_bool, -Bool.exists_bool]
      repeat' first | apply And.intro | intro _
      all_goals first | omega | (rename_i u' v'; exact finW u' v' (by simp) (by simp [ByteArray.append_assoc]))
    · rw [if_neg hn] at ht
      subst ht
      have hn' : ¬ lab = ⟨#[]⟩ := hn
      obtain ⟨rfl, rfl⟩ := e
      have hq : condT ⟨2, ⟨#[]⟩, carg, cval, clab, cfold, ckids⟩ = some q := hq
      unfold tokBodyT at hl ⊢
      rw [if_pos (show plainC _ from .inr ⟨rfl, rfl⟩)] at hl ⊢
      simp only [size_app, size_mk] at hl
      simp at hl
      simp [cc_query_writer_token, rs_query_writer_token, E0, h1, h2, hl, hn', hq, size_app, size_mk, -Bool.forall_bool, -Bool.exists_bool]
      repeat' first | apply And.intro | intro _
      all_goals first | omega | (rename_i u' v'; exact finW u' v' (by simp) (by simp [ByteArray.append_assoc]))
  · by_cases hn : lab = E0
    · rw [if_pos hn] at ht
      subst ht
      have hn' : lab = ⟨#[]⟩ := hn
      obtain ⟨rfl, e'⟩ := e
      have e'' : ¬ cname = ⟨#[]⟩ := e'
      unfold tokBodyT at hl ⊢
      rw [if_neg (show ¬ plainC _ from fun h => h.elim (fun h => by simp at h) fun h => e' h.2)] at hl ⊢
      simp only [size_app, size_mk] at hl
      simp at hl
      simp [cc_query_writer_token, rs_query_writer_token, e'', h1, h2, hl, hn', hq, size_app, size_mk, -Bool.forall_bool, -Bool.exists_bool]
      repeat' first | apply And.intro | intro _
      all_goals first | omega | (rename_i u' v'; exact finW u' v' (by simp) (by simp [ByteArray.append_assoc]))
    · rw [if_neg hn] at ht
      subst ht
      have hn' : ¬ lab = ⟨#[]⟩ := hn
      obtain ⟨rfl, e'⟩ := e
      have e'' : ¬ cname = ⟨#[]⟩ := e'
      unfold tokBodyT at hl ⊢
      rw [if_neg (show ¬ plainC _ from fun h => h.elim (fun h => by simp at h) fun h => e' h.2)] at hl ⊢
      simp only [size_app, size_mk] at hl
      simp at hl
      simp [cc_query_writer_token, rs_query_writer_token, e'', h1, h2, hl, hn', hq, size_app, size_mk, -Bool.forall_bool, -Bool.exists_bool]
      repeat' first | apply And.intro | intro _
      all_goals first | omega | (rename_i u' v'; exact finW u' v' (by simp) (by simp [ByteArray.append_assoc]))
end Go.Gv

namespace Go.Gv
set_option linter.unusedSimpArgs false
set_option linter.unusedVariables false
set_option maxRecDepth 100000
open Cod (enc dec)
open Go.Proofs
variable {S S0 : Nat → Spc}
def inT (p : Bool) (t : B) : B := if p then (⟨#[40]⟩ ++ t) ++ ⟨#[41]⟩ else t
/-- what a closure of the writer writes: its function, the variable that it holds -/
def clG (CT : List D → Option B) (i b : Nat) (ds : List D) : Option B := match ds with
  | [.cptr [.bptr j b' 0] 0, .cptr cs 0] => if j = i ∧ b' = b then CT cs else none
  | _ => none
def inG (CT : Nat → List D → Option B) (i b : Nat) (ds : List D) : Option B := match ds with
  | [.bptr i' b1 0, .v (.bool p), .clo g [.cptr [.bptr j b' 0] 0, .cptr cs 0]] => if i' = i ∧ b1 = b ∧ j = i ∧ b' = b then (CT g cs).map (inT p) else none
  | _ => none
abbrev s_wCl (CT : List D → Option B) : Spc := ivC 108 5 (clG CT) (.tup [])
abbrev s_wIn (CT : Nat → List D → Option B) : Spc := ivC 108 5 (inG CT) (.tup [])
theorem cl_pt (CT : List D → Option B) (d i b : Nat) (cs : List D) (H : HMap) (K : D → HMap → Prop) : wrX 108 5 (.tup []) (fun t : B => some t) i b (H i) (H 900) (CT cs) H K → (s_wCl CT).pt d [.cptr [.bptr i b 0] 0, .cptr cs 0] H K := fun h =>
  ivC_use (i := i) (b := b) (by rw [show clG CT i b [.cptr [.bptr i b 0] 0, .cptr cs 0] = CT cs by simp [clG]]; exact h)
theorem in_pt (CT : Nat → List D → Option B) (d i b g : Nat) (p : Bool) (cs : List D) (H : HMap) (K : D → HMap → Prop) : wrX 108 5 (.tup []) (fun t : B => some t) i b (H i) (H 900) ((CT g cs).map (inT p)) H K → (s_wIn CT).pt d [.bptr i b 0, .v (.bool p), .clo g [.cptr [.bptr i b 0] 0, .cptr cs 0]] H K := fun h =>
  ivC_use (i := i) (b := b) (by rw [show inG CT i b [.bptr i b 0, .v (.bool p), .clo g [.cptr [.bptr i b 0] 0, .cptr cs 0]] = (CT g cs).map (inT p) by simp [inG]]; exact h)
theorem finIW {i b : Nat} {s : ByteArray} {H : HMap} (u : Bool) (v : Value) (h0 : H i = some (.tbox 108 b [.v (pv b u), .own 900 v])) (h9 : H 900 = some (.row v 5 1 (bD s))) : FinI 108 5 i b s (.tup []) (.tup []) H :=
  ⟨u, v, .same _, h0, h9⟩
/-- The method in: CT says what the closures write (S' g: their contracts). -/
theorem w_writer_in (CT : Nat → List D → Option B) (h1 : S f_strings_Builder_WriteString = s_wstr) (h2 : ∀ g cs t, CT g cs = some t → S g = s_wCl (CT g)) : WalkI cc_query_writer_in rs_query_writer_in S 108 5 (inG CT) (.tup []) := by
  intro i b u v s ds t hi hg hl
  have hi' : ¬ 900 = i := fun e => hi e.symm
  unfold inG at hg
  split at hg
  · rename_i i' b1 p g j b' cs
    split at hg
    · rename_i he
      obtain ⟨rfl, rfl, rfl, rfl⟩ := he
      obtain ⟨q, hq, rfl⟩ := Option.map_eq_some_iff.1 hg
      have hL := hLIM
      have h3 := h2 _ _ _ hq
      cases p with
      | false =>
        simp only [inT, Bool.false_eq_true, if_false] at hl ⊢
        simp [cc_query_writer_in, rs_query_writer_in]
        rw [h3]
        refine cl_pt _ _ _ _ _ _ _ ?_
        simp [hi, hi', hq, hl, -Bool.forall_bool, -Bool.exists_bool]
        exact fun u' v' => finIW u' v' (by simp) (by simp [hi'])
      | true =>
        simp only [inT, if_true] at hl ⊢
        simp only [size_app, size_mk] at hl
        simp at hl
        simp [cc_query_writer_in, rs_query_writer_in, h1, hi, hi', size_mk, -Bool.forall_bool, -Bool.exists_bool]
        refine ⟨by omega, fun u' v' => ?_⟩
        rw [h3]
        refine cl_pt _ _ _ _ _ _ _ ?_
        simp [hi, hi', hq, size_app, size_mk, -Bool.forall_bool, -Bool.exists_bool]
        repeat' first | apply And.intro | intro _
        all_goals first | omega | (rename_i u' v'; exact finIW u' v' (by simp) (by simp [hi', ByteArray.append_assoc]))
    · cases hg
  · cases hg
/-! ### Patterns -/
def sepT (op : Int) (i : Nat) : B := if i = 0 then E0 else if op = 5 then ⟨#[32, 124]⟩ ++ ⟨#[32]⟩ else ⟨#[32]⟩
def parK (op : Int) (k : Pat) : Bool := decide (k.op = 5) || (decide (k.op = 4) && decide (op = 4))
def kidsT (f : Pat → Option B) (op : Int) : Nat → List Pat → Option B
  | _, [] => some E0
  | i, k :: ks => (f k).bind fun t => (kidsT f op (i + 1) ks).map fun r => (sepT op i ++ inT (parK op k) t) ++ r
def patTT (f : Pat → Option B) (p : Pat) : Option B :=
  if p.op = 1 then tokT p else if p.op = 2 then some ((⟨#[60]⟩ ++ p.reg) ++ ⟨#[62]⟩) else if p.op = 3 then some ((⟨#[60, 47]⟩ ++ p.reg) ++ ⟨#[62]⟩) else
  if p.op = 4 ∨ p.op = 5 then kidsT f p.op 0 p.kids else none
def patT : Nat → Pat → Option B
  | 0 => fun _ => none
  | n + 1 => patTT (patT n)
def patCT (T : Pat → Option B) (cs : List D) : Option B := if cs.length = 13 then (dec (X := Pat) (.agg cs)).bind T else none
abbrev s_wPat (T : Pat → Option B) : Spc := wrC 108 5 (a1 Pat) (.tup []) T
theorem w_writer_pattern_2 (T : Pat → Option B) (h1 : S f_query_writer_pattern = s_wPat T) : WalkI cc_query_writer_pattern_2 rs_query_writer_pattern_2 S 108 5 (clG (patCT T)) (.tup []) := by
  intro i b u v s ds t hi hg hl
  have hi' : ¬ 900 = i := fun e => hi e.symm
  unfold clG at hg
  split at hg
  · rename_i j b' cs
    split at hg
    · rename_i he
      obtain ⟨rfl, rfl⟩ := he
      unfold patCT at hg
      split at hg
      · rename_i h13
        obtain ⟨p, hd, ht⟩ := Option.bind_eq_some_iff.1 hg
        have htk : List.take 13 cs = cs := List.take_of_length_le (by omega)
        simp [cc_query_writer_pattern_2, rs_query_writer_pattern_2, h1, h13, htk, hd, ht, hi, hi', hl, -Bool.forall_bool, -Bool.exists_bool]
        exact fun u' v' => finIW u' v' (by simp) (by simp [hi'])
      · cases hg
    · cases hg
  · cases hg
end Go.Gv

namespace Go.Gv
set_option linter.unusedSimpArgs false
set_option linter.unusedVariables false
set_option maxRecDepth 100000
open Cod (enc dec)
open Go.Proofs
variable {S S0 : Nat → Spc}
def CTp (T : Pat → Option B) (g : Nat) : List D → Option B := if g = f_query_writer_pattern_2 then patCT T else fun _ => none
theorem e0_app (t : B) : (⟨#[]⟩ : B) ++ t = t := by
  apply ByteArray.ext
  show ((⟨#[]⟩ : B) ++ t).data = _
  rw [ByteArray.data_append]
  simp
theorem app_e0 (t : B) : t ++ (⟨#[]⟩ : B) = t := by
  apply ByteArray.ext
  show (t ++ (⟨#[]⟩ : B)).data = _
  rw [ByteArray.data_append]
  simp
theorem kidsT_step {f : Pat → Option B} {op : Int} {i : Nat} {ks : List Pat} {k : Pat} (hx : ks[i]? = some k) {r : B} (h : kidsT f op i (ks.drop i) = some r) :
    ∃ t r', f k = some t ∧ kidsT f op (i + 1) (ks.drop (i + 1)) = some r' ∧ r = (sepT op i ++ inT (parK op k) t) ++ r' := by
  have hd : ks.drop i = k :: ks.drop (i + 1) := drop_cons_of hx
  rw [hd, kidsT] at h
  obtain ⟨t, h1, h⟩ := Option.bind_eq_some_iff.1 h
  obtain ⟨r', h2, h⟩ := Option.map_eq_some_iff.1 h
  exact ⟨t, r', h1, h2, h.symm⟩
theorem w_writer_pattern (T : Pat → Option B) (h1 : S f_query_writer_token = s_wTok) (h2 : S f_strings_Builder_WriteString = s_wstr) (h3 : S f_query_writer_in = s_wIn (CTp T)) :
    WalkW cc_query_writer_pattern rs_query_writer_pattern S 108 5 (a1 Pat) (.tup []) (patTT T) := by
  rintro b u v s ⟨op, cond, lab, reg, mn, mx, kids⟩ t ht hl
  have hL := hLIM
  unfold patTT at ht
  simp only at ht
  split at ht
  · rename_i e
    subst e
    simp [cc_query_writer_pattern, rs_query_writer_pattern, h1, ht, hl, -Bool.forall_bool, -Bool.exists_bool]
    exact fun u' v' => finW u' v' (by simp) (by simp)
  · rename_i n1
    split at ht
    · rename_i e
      subst e
      cases ht
      simp only [size_app, size_mk] at hl
      simp at hl
      simp [cc_query_writer_pattern, rs_query_writer_pattern, h2, size_app, size_mk, -Bool.forall_bool, -Bool.exists_bool]
      refine ⟨by omega, by omega, by omega, fun u' v' => finW u' v' (by simp) (by simp)⟩
    · rename_i n2
      split at ht
      · rename_i e
        subst e
        cases ht
        simp only [size_app, size_mk] at hl
        simp at hl
        simp [cc_query_writer_pattern, rs_query_writer_pattern, h2, size_app, size_mk, -Bool.forall_bool, -Bool.exists_bool]
        refine ⟨by omega, by omega, by omega, fun u' v' => finW u' v' (by simp) (by simp)⟩
      · rename_i n3
        split at ht
        · rename_i h45
          have n6 : ¬ op = 6 := by omega
          simp [cc_query_writer_pattern, rs_query_writer_pattern, n1, n2, n3, n6, -Bool.forall_bool, -Bool.exists_bool]
          intro hkl
          refine vc_range (X := Bool × Value × B × B) [2, 3, 10] [] kids.length (fun k x => kidsT T op k (kids.drop k) = some x.2.2.2 ∧ x.2.2.1 ++ x.2.2.2 = t) (fun x => []) (fun x => [(0, .tbox 108 b [.v (pv b x.1), .own 900 x.2.1]), (900, .row x.2.1 5 1 (bD (s ++ x.2.2.1)))]) (u, v, E0, t) (by simp) (by simp) (by omega) (by simp) (by simp) ?_ (by simp) (by simp [E0, app_e0]) ?_ ?_
          · refine ⟨ht, ?_⟩
            simp [E0, e0_app]
          · rintro k ⟨u1, v1, acc, r⟩ hk ⟨q1, q2⟩
            simp only at q1 q2
            obtain ⟨x, hx⟩ := at_lt hk
            obtain ⟨_, hgx⟩ := List.getElem?_eq_some_iff.1 hx
            obtain ⟨tk, r', c1, c2, rfl⟩ := kidsT_step hx q1
            rw [← q2] at hl
            simp only [size_app] at hl
            have inn : ∀ (s0 : B) (pb : Bool) (u2 : Bool) (v2 : Value) (H : HMap) (K : D → HMap → Prop), H 0 = some (.tbox 108 b [.v (pv b u2), .own 900 v2]) → H 900 = some (.row v2 5 1 (bD s0)) → s0 = s ++ (acc ++ sepT op k) → pb = parK op x →
                (∀ u3 v3, K (.tup []) (updH (updH H 900 (some (.row v3 5 1 (bD (s ++ (acc ++ (sepT op k ++ inT (parK op x) tk))))))) 0 (some (.tbox 108 b [.v (pv b u3), .own 900 v3])))) →
                (S f_query_writer_in).pt 49 [.bptr 0 b 0, .v (.bool pb), .clo f_query_writer_pattern_2 [.cptr [.bptr 0 b 0] 0, .cptr [D.v (Value.int IntKind.i64 x.op), D.v (Value.int IntKind.i64 x.cond.op),
                  D.v (Value.string x.cond.name), D.v (Value.string x.cond.arg), D.v (Value.string x.cond.val), D.v (Value.string x.cond.lab), D.v (Value.bool x.cond.fold), D.list 7 (List.map enc x.cond.kids),
                  D.v (Value.string x.lab), D.v (Value.string x.reg), D.v (Value.int IntKind.i64 x.mn), D.v (Value.int IntKind.i64 x.mx), D.list 13 (List.map enc x.kids)] 0]] H K := by
              intro s0 pb u2 v2 H K g0 g9 hs hp hK
              rw [h3]
              refine in_pt _ _ _ _ _ _ _ _ _ ?_
              have hct : CTp T f_query_writer_pattern_2 [D.v (Value.int IntKind.i64 x.op), D.v (Value.int IntKind.i64 x.cond.op),
                  D.v (Value.string x.cond.name), D.v (Value.string x.cond.arg), D.v (Value.string x.cond.val), D.v (Value.string x.cond.lab), D.v (Value.bool x.cond.fold), D.list 7 (List.map enc x.cond.kids),
                  D.v (Value.string x.lab), D.v (Value.string x.reg), D.v (Value.int IntKind.i64 x.mn), D.v (Value.int IntKind.i64 x.mx), D.list 13 (List.map enc x.kids)] = some tk := by
                simp [CTp, patCT, c1]
              rw [hct, g0, g9, hp]
              simp [-Bool.forall_bool, -Bool.exists_bool]
              refine ⟨?_, fun u3 v3 => ?_⟩
              · rw [hs]
                simp only [size_app]
                omega
              · have := hK u3 v3
                rw [hs]
                simp only [ByteArray.append_assoc] at this ⊢
                exact this
            have eq3 : (acc ++ (sepT op k ++ inT (parK op x) tk)) ++ r' = t := by
              rw [← q2]
              simp [ByteArray.append_assoc]
            by_cases hk0 : k = 0
            · subst hk0
              have c2' : kidsT T op 1 kids.tail = some r' := by simpa using c2
              have hsep : sepT op 0 = ⟨#[]⟩ := rfl
              simp [hk, hx, hgx, h2, size_mk, -Bool.forall_bool, -Bool.exists_bool]
              refine ⟨fun h5 => ⟨fun h4 => ?_, fun h4 => ?_⟩, fun h5 => ?_⟩
              · refine inn (s ++ acc) _ u1 v1 _ _ (by simp) (by simp) (by rw [hsep, app_e0]) (by simp [parK, h4, h5]) fun u3 v3 => ⟨u3, v3, _, ⟨r', c2', eq3⟩, .inl (by simp), .inl (by simp)⟩
              · refine inn (s ++ acc) _ u1 v1 _ _ (by simp) (by simp) (by rw [hsep, app_e0]) (by simp [parK, h4, h5]) fun u3 v3 => ⟨u3, v3, _, ⟨r', c2', eq3⟩, .inl (by simp), .inl (by simp)⟩
              · refine inn (s ++ acc) _ u1 v1 _ _ (by simp) (by simp) (by rw [hsep, app_e0]) (by simp [parK, h5]) fun u3 v3 => ⟨u3, v3, _, ⟨r', c2', eq3⟩, .inl (by simp), .inl (by simp)⟩
            · have hk1 : 0 < k := by omega
              rcases h45 with rfl | rfl
              · have hsep : sepT 4 k = ⟨#[32]⟩ := by simp [sepT, hk0]
                rw [hsep] at hl
                simp only [size_mk] at hl
                simp at hl
                simp [hk, hx, hgx, h2, hk1, size_mk, size_app, -Bool.forall_bool, -Bool.exists_bool]
                refine ⟨by omega, fun u4 v4 => ⟨fun h5 => ⟨fun h4 => ?_, fun h4 => ?_⟩, fun h5 => ?_⟩⟩
                · refine inn (s ++ acc ++ ⟨#[32]⟩) _ u4 v4 _ _ (by simp) (by simp) (by rw [hsep, ByteArray.append_assoc]) (by simp [parK, h4, h5]) fun u3 v3 => ⟨u3, v3, _, ⟨r', c2, eq3⟩, .inl (by simp), .inl (by simp)⟩
                · refine inn (s ++ acc ++ ⟨#[32]⟩) _ u4 v4 _ _ (by simp) (by simp) (by rw [hsep, ByteArray.append_assoc]) (by simp [parK, h4, h5]) fun u3 v3 => ⟨u3, v3, _, ⟨r', c2, eq3⟩, .inl (by simp), .inl (by simp)⟩
                · refine inn (s ++ acc ++ ⟨#[32]⟩) _ u4 v4 _ _ (by simp) (by simp) (by rw [hsep, ByteArray.append_assoc]) (by simp [parK, h5]) fun u3 v3 => ⟨u3, v3, _, ⟨r', c2, eq3⟩, .inl (by simp), .inl (by simp)⟩
              · have hsep : sepT 5 k = ⟨#[32, 124]⟩ ++ ⟨#[32]⟩ := by simp [sepT, hk0]
                rw [hsep] at hl
                simp only [size_app, size_mk] at hl
                simp at hl
                simp [hk, hx, hgx, h2, hk1, size_mk, size_app, -Bool.forall_bool, -Bool.exists_bool]
                refine ⟨by omega, by omega, fun u4 v4 => ⟨fun h5 => ?_, fun h5 => ?_⟩⟩
                · refine inn (s ++ acc ++ ⟨#[32, 124]⟩ ++ ⟨#[32]⟩) _ u4 v4 _ _ (by simp) (by simp) (by rw [hsep]; simp only [ByteArray.append_assoc]) (by simp [parK, h5]) fun u3 v3 => ⟨u3, v3, _, ⟨r', c2, eq3⟩, .inl (by simp), .inl (by simp)⟩
                · refine inn (s ++ acc ++ ⟨#[32, 124]⟩ ++ ⟨#[32]⟩) _ u4 v4 _ _ (by simp) (by simp) (by rw [hsep]; simp only [ByteArray.append_assoc]) (by simp [parK, h5]) fun u3 v3 => ⟨u3, v3, _, ⟨r', c2, eq3⟩, .inl (by simp), .inl (by simp)⟩
          · rintro ⟨u1, v1, acc, r⟩ ⟨q1, q2⟩
            simp only at q1 q2
            simp
            rw [List.drop_length, kidsT] at q1
            cases q1
            refine finW u1 v1 (by simp) ?_
            rw [← q2]
            simp [E0, app_e0]
        · cases ht
end Go.Gv

namespace Go.Gv
set_option linter.unusedSimpArgs false
set_option linter.unusedVariables false
set_option maxRecDepth 100000
open Cod (enc dec)
variable {S S0 : Nat → Spc}
/-- a writer's box whose slice is still empty -/
theorem wk_niltbox {σ : Sg} {H : HMap} {k j b tw el n : Nat} {cs cs' : List D} (hkj : j ≠ k) (hk : H k = some (.tbox tw b cs)) (hl : cs.length = cs'.length) (hc : ∀ (m : Nat) (c c' : D), cs[m]? = some c → cs'[m]? = some c' → FrzTo noH c c') :
    Wk σ H σ (updH (updH H k (some (.tbox tw b cs'))) j (some (.row (.slice none 0 0) el n []))) := by
  refine wk_all (Hf := noH) id (fun t => .same _) (fun i r h => ?_) (fun i j r s _ _ e => .inl e) (fun i r h => by simp [noH] at h)
  by_cases e : i = j
  · subst e
    simp [updH] at h
    subst h
    exact .inr ⟨rfl, rfl⟩
  · by_cases e2 : i = k
    · subst e2
      simp [updH, e] at h
      subst h
      exact .inl ⟨_, hk, .inr ⟨rfl, rfl, hl, hc⟩⟩
    · simp only [updH, e, e2, if_false] at h
      exact .inl ⟨r, h, .inl rfl⟩
theorem wk_niltboxB {σ : Sg} {H : HMap} {k j b tw el : Nat} {cs cs' : List D} (hkj : j ≠ k) (hk : H k = some (.tbox tw b cs)) (hl : cs.length = cs'.length) (hc : ∀ (m : Nat) (c c' : D), cs[m]? = some c → cs'[m]? = some c' → FrzTo noH c c') :
    Wk σ H σ (updH (updH H k (some (.tbox tw b cs'))) j (some (.row (.slice none 0 0) el 1 (bD ⟨#[]⟩)))) := wk_niltbox hkj hk hl hc
theorem vc_nilW {K : Ex → Sg → HMap → Prop} {k : Nat} {b : CC} {σ σ' : Sg} {H H' : HMap} (hw : Wk σ H σ' H') (h : vc S b K σ' H') : vc S (.cut k b) K σ H := by
  rw [e_cut]
  exact ⟨_, _, hw, h⟩
def FmtP (n : Nat) (q : Qry) : Prop := (shallowB q.pat 1 && everyB nodeB q.pat) = true ∧ q.strat = 0 ∧ q.filts = [] ∧ q.glob = GlobE ∧ PLq q.pat [] ∧ (∀ x ∈ leavesQ q.pat, LC x.cond) ∧ ∃ t, patT n q.pat = some t ∧ t.size ≤ LIMW ∧ t.size ≠ 0
abbrev s_Format (n : Nat) : Spc := spc (a1 Qry) (FmtP n) (enc (X := B)) fun q y => patT n q.pat = some y
theorem w_query_Format (n : Nat) (h0 : S0 f_query_Format_1 = s_Format1) (h1 : S f_query_Shape = s_Shape) (h2 : S f_slices_ContainsFunc_Filter = s_ConF) (h3 : S f_query_Sound = s_Sound) (h4 : S f_query_leaves = s_leavesQ) (h5 : S f_slices_ContainsFunc_Pattern = s_ConP S0)
    (h6 : S f_query_writer_pattern = s_wPat (patT n)) (h7 : S f_strings_Builder_String = s_string) : Walk cc_query_Format rs_query_Format S (a1 Qry) (FmtP n) (enc (X := B)) fun q y => patT n q.pat = some y := by
  rintro ⟨p, g, fs, st⟩ ⟨hs, h8, h9, h10, h11, h12, t, h13, h14, h15⟩
  simp only at hs h8 h9 h10 h11 h12 h13
  subst h8; subst h9; subst h10
  have hf : FunOn S0 (.clo f_query_Format_1 []) (leavesQ p) fun _ => false := by
    refine ⟨_, [], _, rfl, h0, fun x hx => ⟨⟨x, by simp, h12 x hx⟩, fun r hr => ?_⟩⟩
    obtain ⟨y, rfl, hy⟩ := hr x (by simp) (h12 x hx)
    rw [hy]
  simp only [Bool.and_eq_true] at hs
  simp [cc_query_Format, rs_query_Format, hs.1, hs.2, h1, h2, h3, h4, h5, ty_query_writer, -Bool.forall_bool, -Bool.exists_bool]
  refine .inl ⟨h11, ⟨_, hf⟩, fun y hy => ?_⟩
  have e : y = false := by
    have hy : y = (leavesQ p).any fun _ => false := hy _ hf
    rw [hy]; simp
  subst e
  refine ⟨fun h => absurd h (by decide), fun _ => ?_⟩
  unfold seqM
  simp [GlobE, E0, -Bool.forall_bool, -Bool.exists_bool]
  intro b
  refine vc_nilW (wk_niltboxB (k := 36) (j := 900) (b := b) (tw := 108) (el := 5) (cs := [.v (.pointer none), .v (.slice none 0 0)]) (cs' := [.v (pv b false), .own 900 (.slice none 0 0)]) (by decide) (by simp) (by simp) ?_) ?_
  · intro m c c' hc hc'
    match m with
    | 0 => simp at hc hc'; subst hc; subst hc'; exact .same _
    | 1 => simp at hc hc'; subst hc; subst hc'; exact .nilown _
    | m + 2 => simp at hc
  simp [h6, h13, h14, e0_app, size_mk, -Bool.forall_bool, -Bool.exists_bool]
  intro u v
  refine vc_range (X := Unit) [1, 3] [36, 900] 0 (fun _ _ => True) (fun _ => []) (fun _ => []) () (by simp) (by simp) (by omega) (by simp) (by simp) trivial (by simp) (by simp) (fun k x hk => absurd hk (by omega)) (fun _ _ => ?_)
  simp [h7, -Bool.forall_bool, -Bool.exists_bool]
  exact ⟨36, b, u, v, t, rfl, by simp, by simp, by decide, ⟨h15, h14⟩, fin_of (Y := B) t (.same _) rfl⟩
end Go.Gv

namespace Go.Gv
set_option linter.unusedSimpArgs false
set_option linter.unusedVariables false
set_option maxRecDepth 100000
open Cod (enc dec)
variable {S S0 : Nat → Spc}
@[simp] abbrev F_rnext (s : Rdr) (_ : Unit) : Option (Rdr × Unit) := (nextR s).map fun x => (x, ())
abbrev s_rnext : Spc := rdF a0 er0 F_rnext
theorem finRB {b : Nat} {post : Rdr → Bool → Prop} {v : Bool} {H : HMap} (s : Rdr) (h0 : H 0 = some (.box b (ceRdr s))) (hq : post s v) : FinRD enc b post (.v (.bool v)) H := finRD s v (.same _) h0 hq
theorem finRS {b : Nat} {post : Rdr → B → Prop} {v : B} {H : HMap} (s : Rdr) (h0 : H 0 = some (.box b (ceRdr s))) (hq : post s v) : FinRD enc b post (.v (.string v)) H := finRD s v (.same _) h0 hq
theorem w_reader_next (h1 : S f_query_lex = s_q_lex) : WalkRD cc_query_reader_next rs_query_reader_next S a0 er0 (fun s z => ∃ r, F_rnext s z = some r) (fun s z s' y => F_rnext s z = some (s', y)) := by
  rintro b s ⟨⟩ ⟨r, hr⟩
  simp only [F_rnext, nextR] at hr
  split at hr
  · rename_i h
    simp [cc_query_reader_next, rs_query_reader_next, h1, h.1.1, h.1.2, h.2, er2]
    exact finRD ⟨s.txt, (lexP s.txt s.fin.toNat).2, (lexP s.txt s.fin.toNat).1.kind, (lexP s.txt s.fin.toNat).1.text, (lexP s.txt s.fin.toNat).1.pos⟩ () (.same _) (by simp) (by simp [nextR, h])
  · cases hr
@[simp] abbrev F_rpeek (s : Rdr) (_ : Unit) : Option (Rdr × Lxm) := (peekR s).map fun x => (s, x)
abbrev s_rpeek : Spc := rdF a0 (enc (X := Lxm)) F_rpeek
theorem w_reader_peek (h1 : S f_query_lex = s_q_lex) : WalkRD cc_query_reader_peek rs_query_reader_peek S a0 (enc (X := Lxm)) (fun s z => ∃ r, F_rpeek s z = some r) (fun s z s' y => F_rpeek s z = some (s', y)) := by
  rintro b s ⟨⟩ ⟨r, hr⟩
  simp only [F_rpeek, peekR] at hr
  split at hr
  · rename_i h
    simp [cc_query_reader_peek, rs_query_reader_peek, h1, h.1.1, h.1.2, h.2, er2]
    exact fun _ => finRD s (lexP s.txt s.fin.toNat).1 (.same _) (by simp) (by simp [peekR, h])
  · cases hr
@[simp] abbrev F_rsign (s : Rdr) (t : B) : Option (Rdr × Bool) := some (s, signR s t)
abbrev s_rsign : Spc := rdF (a1 B) (enc (X := Bool)) F_rsign
theorem w_reader_sign : WalkRD cc_query_reader_sign rs_query_reader_sign S (a1 B) (enc (X := Bool)) (fun s z => ∃ r, F_rsign s z = some r) (fun s z s' y => F_rsign s z = some (s', y)) := by
  rintro b s t ⟨r, hr⟩
  simp [cc_query_reader_sign, rs_query_reader_sign]
  refine ⟨fun hk => finRB s (by simp) (by simp [signR, hk]), fun hk => finRB s (by simp) (by simp [signR, hk])⟩
@[simp] abbrev F_rtake (s : Rdr) (t : B) : Option (Rdr × Bool) := takeR s t
abbrev s_rtake : Spc := rdF (a1 B) (enc (X := Bool)) F_rtake
theorem w_reader_take (h1 : S f_query_reader_next = s_rnext) (h2 : S f_query_reader_sign = s_rsign) : WalkRD cc_query_reader_take rs_query_reader_take S (a1 B) (enc (X := Bool)) (fun s z => ∃ r, F_rtake s z = some r) (fun s z s' y => F_rtake s z = some (s', y)) := by
  rintro b s t ⟨r, hr⟩
  have hr0 := hr
  simp only [F_rtake, takeR] at hr
  split at hr
  · rename_i h
    obtain ⟨x, hx, rfl⟩ := Option.map_eq_some_iff.1 hr
    simp [cc_query_reader_take, rs_query_reader_take, h1, h2, h, hx]
    exact finRB x (by simp) (by simp [takeR, h, hx])
  · rename_i h
    simp [cc_query_reader_take, rs_query_reader_take, h1, h2, h]
    exact finRB s (by simp) (by simp [takeR, h])
@[simp] abbrev F_rword (s : Rdr) (l : List B) : Option (Rdr × Bool) := some (s, wordR s l)
abbrev s_rword : Spc := rdF (a1 (List B)) (enc (X := Bool)) F_rword
theorem w_reader_word (h1 : S f_slices_Contains_string = s_has_string) : WalkRD cc_query_reader_word rs_query_reader_word S (a1 (List B)) (enc (X := Bool)) (fun s z => ∃ r, F_rword s z = some r) (fun s z s' y => F_rword s z = some (s', y)) := by
  rintro b s t ⟨r, hr⟩
  simp [cc_query_reader_word, rs_query_reader_word, h1]
  refine ⟨fun hk => finRB s (by simp) (by simp [wordR, hk]), fun hk => finRB s (by simp) (by simp [wordR, hk])⟩
@[simp] abbrev F_rmust (s : Rdr) (l : List B) : Option (Rdr × Unit) := (mustR s l).map fun x => (x, ())
abbrev s_rmust : Spc := rdF (a1 (List B)) er0 F_rmust
theorem w_reader_must (h1 : S f_query_reader_take = s_rtake) : WalkRD cc_query_reader_must rs_query_reader_must S (a1 (List B)) er0 (fun s z => ∃ r, F_rmust s z = some r) (fun s z s' y => F_rmust s z = some (s', y)) := by
  rintro b s l ⟨r, hr⟩
  obtain ⟨s', hs', rfl⟩ := Option.map_eq_some_iff.1 hr
  simp [cc_query_reader_must, rs_query_reader_must]
  intro _
  refine vc_range (X := Rdr) [0, 6] [] l.length (fun k x => mustR x (l.drop k) = some s') (fun _ => []) (fun x => [(0, .box b (ceRdr x))]) s (by simp) (by simp) (by omega) (by simp) (by simp) (by simpa using hs') (by simp) (by simp) ?_ ?_
  · rintro k x hk hP
    obtain ⟨t, ht⟩ := at_lt hk
    obtain ⟨_, hgt⟩ := List.getElem?_eq_some_iff.1 ht
    rw [List.drop_eq_getElem_cons hk, hgt, mustR] at hP
    split at hP
    · rename_i hsg
      obtain ⟨x1, hx1, hP⟩ := Option.bind_eq_some_iff.1 hP
      have htk : takeR x t = some (x1, true) := by simp [takeR, hsg, hx1]
      simp [h1, hk, ht, hgt, htk]
      exact ⟨x1, by simpa using hP, .inl ⟨rfl, rfl, rfl, rfl, rfl⟩⟩
    · cases hP
  · rintro x hP
    have e : x = s' := by simpa [mustR] using hP
    subst e
    simp
    exact finRD x () (.same _) (by simp) (by simpa using hs')
@[simp] abbrev F_rtext (s : Rdr) (k : Int) : Option (Rdr × B) := textR s k
abbrev s_rtext : Spc := rdF (a1 Int) (enc (X := B)) F_rtext
theorem w_reader_text (h1 : S f_query_reader_next = s_rnext) : WalkRD cc_query_reader_text rs_query_reader_text S (a1 Int) (enc (X := B)) (fun s z => ∃ r, F_rtext s z = some r) (fun s z s' y => F_rtext s z = some (s', y)) := by
  rintro b s k ⟨r, hr⟩
  have hr0 := hr
  simp only [F_rtext, textR] at hr
  split at hr
  · rename_i h
    obtain ⟨x, hx, rfl⟩ := Option.map_eq_some_iff.1 hr
    subst h
    simp [cc_query_reader_text, rs_query_reader_text, h1, hx]
    exact finRS x (by simp) (by simpa using hr0)
  · cases hr
@[simp] abbrev F_rname (s : Rdr) (_ : Unit) : Option (Rdr × B) := textR s 2
abbrev s_rname : Spc := rdF a0 (enc (X := B)) F_rname
theorem w_reader_name (h1 : S f_query_reader_text = s_rtext) : WalkRD cc_query_reader_name rs_query_reader_name S a0 (enc (X := B)) (fun s z => ∃ r, F_rname s z = some r) (fun s z s' y => F_rname s z = some (s', y)) := by
  rintro b s ⟨⟩ ⟨⟨s', y⟩, hr⟩
  have hr0 := hr
  simp only [F_rname] at hr
  simp [cc_query_reader_name, rs_query_reader_name, h1, hr]
  exact finRS s' (by simp) ⟨rfl, rfl⟩
@[simp] abbrev F_rfold (s : Rdr) (_ : Unit) : Option (Rdr × Bool) := takeR s ⟨#[37, 99]⟩
abbrev s_rfold : Spc := rdF a0 (enc (X := Bool)) F_rfold
theorem w_reader_fold (h1 : S f_query_reader_take = s_rtake) : WalkRD cc_query_reader_fold rs_query_reader_fold S a0 (enc (X := Bool)) (fun s z => ∃ r, F_rfold s z = some r) (fun s z s' y => F_rfold s z = some (s', y)) := by
  rintro b s ⟨⟩ ⟨⟨s', y⟩, hr⟩
  have hr0 := hr
  simp only [F_rfold] at hr
  simp [cc_query_reader_fold, rs_query_reader_fold, h1, hr, -Bool.forall_bool, -Bool.exists_bool]
  exact finRB s' (by simp) ⟨rfl, rfl⟩
end Go.Gv
