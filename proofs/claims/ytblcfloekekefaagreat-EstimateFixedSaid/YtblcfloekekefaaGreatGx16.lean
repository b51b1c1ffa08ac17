/- A part of the framework and of the walks: V2 W30 C3. -/
import Derived.Test.YtblcfloekekefaaGreatGx12
import Derived.Test.YtblcfloekekefaaGreatGx15
import Derived.Test.YtblcfloekekefaaGreatGx14

namespace Go.Gv
open Cod (enc dec)
set_option linter.unusedSimpArgs false

structure Cond where
  op : Int
  name : B
  arg : B
  val : B
  lab : B
  fold : Bool
  kids : List Cond

mutual
def encC : Cond → D
  | .mk op n a v l f ks => .agg [enc op, enc n, enc a, enc v, enc l, enc f, .list 7 (encCs ks)]
def encCs : List Cond → List D
  | [] => []
  | k :: ks => encC k :: encCs ks
end
mutual
def decC : D → Option Cond
  | .agg [x0, x1, x2, x3, x4, x5, x6] => (dec x0).bind fun op => (dec x1).bind fun n => (dec x2).bind fun a => (dec x3).bind fun v => (dec x4).bind fun l => (dec x5).bind fun f => (decK x6).bind fun ks => some (.mk op n a v l f ks)
  | _ => none
def decK : D → Option (List Cond)
  | .list n es => if n = 7 then decCs es else none
  | .v (.slice none 0 0) => some []
  | _ => none
def decCs : List D → Option (List Cond)
  | [] => some []
  | d :: ds => (decC d).bind fun x => (decCs ds).bind fun xs => some (x :: xs)
end
theorem encCs_map : ∀ l : List Cond, encCs l = l.map encC
  | [] => rfl
  | _ :: l => by rw [encCs, encCs_map l]; rfl
theorem encC_kn : ∀ c : Cond, (encC c).kn = true
  | .mk .. => rfl
theorem encC_wid : ∀ c : Cond, (encC c).cells.length = 7
  | .mk .. => rfl
mutual
theorem decC_enc : ∀ c : Cond, decC (encC c) = some c
  | .mk op n a v l f ks => by
    have h : decK (.list 7 (encCs ks)) = some ks := by rw [decK, if_pos rfl]; exact decCs_enc ks
    simp only [encC, decC, Cod.dec_enc, Option.bind_some, h]
theorem decCs_enc : ∀ l : List Cond, decCs (encCs l) = some l
  | [] => by simp only [encCs, decCs]
  | c :: l => by simp only [encCs, decCs, decC_enc c, decCs_enc l, Option.bind_some]
end
mutual
theorem decC_le : ∀ (d : D) (c : Cond), decC d = some c → FrzTo noH d (encC c)
  | .agg [x0, x1, x2, x3, x4, x5, x6], c, h => by
    simp only [decC, Option.bind_eq_some_iff, Option.some.injEq] at h
    obtain ⟨op, h0, n, h1, a, h2, v, h3, l, h4, f, h5, ks, h6, rfl⟩ := h
    rw [encC]
    exact LeL.agg (.cons (Cod.le _ _ h0) (.cons (Cod.le _ _ h1) (.cons (Cod.le _ _ h2) (.cons (Cod.le _ _ h3) (.cons (Cod.le _ _ h4) (.cons (Cod.le _ _ h5) (.cons (decK_le x6 ks h6) .nil)))))))
theorem decK_le : ∀ (d : D) (l : List Cond), decK d = some l → FrzTo noH d (.list 7 (encCs l))
  | .list n es, l, h => by
    simp only [decK] at h
    split at h
    · rename_i hn
      subst hn
      have hl := decCs_le es l h
      refine .list hl.1 (fun e he => ?_) hl.2
      rw [encCs_map] at he
      obtain ⟨x, hx, rfl⟩ := List.mem_map.1 he
      exact ⟨encC_kn x, encC_wid x⟩
    · cases h
  | .v (.slice none 0 0), l, h => by
    simp only [decK, Option.some.injEq] at h
    subst h
    exact .nil _
theorem decCs_le : ∀ (es : List D) (l : List Cond), decCs es = some l → LeL es (encCs l)
  | [], l, h => by
    simp only [decCs, Option.some.injEq] at h
    subst h
    exact .nil
  | d :: ds, l, h => by
    simp only [decCs, Option.bind_eq_some_iff, Option.some.injEq] at h
    obtain ⟨x, h1, xs, h2, rfl⟩ := h
    rw [encCs]
    exact .cons (decC_le d x h1) (decCs_le ds xs h2)
end
instance : Cod Cond where
  wd := 7
  enc := encC
  dec := decC
  kn := encC_kn
  wid := encC_wid
  dec_enc := decC_enc
  le := decC_le
theorem encCs_enc (ks : List Cond) : D.list 7 (encCs ks) = enc ks := by rw [encCs_map]; rfl
theorem enc_cond (op : Int) (n a v l : B) (f : Bool) (ks : List Cond) : enc (Cond.mk op n a v l f ks) = .agg [enc op, enc n, enc a, enc v, enc l, enc f, enc ks] := by
  rw [← encCs_enc]
  show encC _ = _
  rw [encC]

structure Pat where
  op : Int
  cond : Cond
  lab : B
  reg : B
  mn : Int
  mx : Int
  kids : List Pat

def cellsC : Cond → List D
  | .mk op n a v l f ks => [enc op, enc n, enc a, enc v, enc l, enc f, enc ks]
theorem cellsC_len : ∀ c : Cond, (cellsC c).length = 7
  | .mk .. => rfl
mutual
def encP : Pat → D
  | .mk op c l r mn mx ks => .agg (enc op :: (cellsC c ++ [enc l, enc r, enc mn, enc mx, .list 13 (encPs ks)]))
def encPs : List Pat → List D
  | [] => []
  | k :: ks => encP k :: encPs ks
end
mutual
def decP : D → Option Pat
  | .agg [x0, y0, y1, y2, y3, y4, y5, y6, x1, x2, x3, x4, x5] => (dec x0).bind fun op => (dec (D.agg [y0, y1, y2, y3, y4, y5, y6])).bind fun c => (dec x1).bind fun l => (dec x2).bind fun r => (dec x3).bind fun mn => (dec x4).bind fun mx => (decPK x5).bind fun ks => some (.mk op c l r mn mx ks)
  | _ => none
def decPK : D → Option (List Pat)
  | .list n es => if n = 13 then decPs es else none
  | .v (.slice none 0 0) => some []
  | _ => none
def decPs : List D → Option (List Pat)
  | [] => some []
  | d :: ds => (decP d).bind fun x => (decPs ds).bind fun xs => some (x :: xs)
end
theorem encPs_map : ∀ l : List Pat, encPs l = l.map encP
  | [] => rfl
  | _ :: l => by rw [encPs, encPs_map l]; rfl
theorem encP_kn : ∀ c : Pat, (encP c).kn = true
  | .mk .. => rfl
theorem encP_wid : ∀ c : Pat, (encP c).cells.length = 13
  | .mk op c l r mn mx ks => by simp [encP, D.cells, cellsC_len]
mutual
theorem decP_enc : ∀ c : Pat, decP (encP c) = some c
  | .mk op (.mk cop n a v cl f cks) l r mn mx ks => by
    have h : decPK (.list 13 (encPs ks)) = some ks := by rw [decPK, if_pos rfl]; exact decPs_enc ks
    have hc : dec (D.agg [enc cop, enc n, enc a, enc v, enc cl, enc f, enc cks]) = some (Cond.mk cop n a v cl f cks) := by rw [← enc_cond]; exact Cod.dec_enc _
    simp only [encP, cellsC, List.cons_append, List.nil_append, decP, Cod.dec_enc, Option.bind_some, h, hc]
theorem decPs_enc : ∀ l : List Pat, decPs (encPs l) = some l
  | [] => by simp only [encPs, decPs]
  | c :: l => by simp only [encPs, decPs, decP_enc c, decPs_enc l, Option.bind_some]
end
theorem dec_condL {y0 y1 y2 y3 y4 y5 y6 : D} {c : Cond} (h : dec (D.agg [y0, y1, y2, y3, y4, y5, y6]) = some c) : LeL [y0, y1, y2, y3, y4, y5, y6] (cellsC c) := by
  have h' : decC (D.agg [y0, y1, y2, y3, y4, y5, y6]) = some c := h
  simp only [decC, Option.bind_eq_some_iff, Option.some.injEq] at h'
  obtain ⟨op, h0, n, h1, a, h2, v, h3, l, h4, f, h5, ks, h6, rfl⟩ := h'
  have hk := decK_le y6 ks h6
  rw [encCs_enc] at hk
  exact .cons (Cod.le _ _ h0) (.cons (Cod.le _ _ h1) (.cons (Cod.le _ _ h2) (.cons (Cod.le _ _ h3) (.cons (Cod.le _ _ h4) (.cons (Cod.le _ _ h5) (.cons hk .nil))))))
theorem LeL.append {a b c d : List D} (h : LeL a b) (k : LeL c d) : LeL (a ++ c) (b ++ d) := by
  refine ⟨by simp [h.1, k.1], fun i x y hx hy => ?_⟩
  rw [List.getElem?_append] at hx hy
  by_cases hi : i < a.length
  · rw [if_pos hi] at hx
    rw [if_pos (by rw [← h.1]; exact hi)] at hy
    exact h.2 i x y hx hy
  · rw [if_neg hi] at hx
    rw [if_neg (by rw [← h.1]; exact hi), ← h.1] at hy
    exact k.2 _ x y hx hy
mutual
theorem decP_le : ∀ (d : D) (c : Pat), decP d = some c → FrzTo noH d (encP c)
  | .agg [x0, y0, y1, y2, y3, y4, y5, y6, x1, x2, x3, x4, x5], c, h => by
    simp only [decP, Option.bind_eq_some_iff, Option.some.injEq] at h
    obtain ⟨op, h0, c, h1, l, h2, r, h3, mn, h4, mx, h5, ks, h6, rfl⟩ := h
    rw [encP]
    exact LeL.agg (.cons (Cod.le _ _ h0) ((dec_condL h1).append (.cons (Cod.le _ _ h2) (.cons (Cod.le _ _ h3) (.cons (Cod.le _ _ h4) (.cons (Cod.le _ _ h5) (.cons (decPK_le x5 ks h6) .nil)))))))
theorem decPK_le : ∀ (d : D) (l : List Pat), decPK d = some l → FrzTo noH d (.list 13 (encPs l))
  | .list n es, l, h => by
    simp only [decPK] at h
    split at h
    · rename_i hn
      subst hn
      have hl := decPs_le es l h
      refine .list hl.1 (fun e he => ?_) hl.2
      rw [encPs_map] at he
      obtain ⟨x, hx, rfl⟩ := List.mem_map.1 he
      exact ⟨encP_kn x, encP_wid x⟩
    · cases h
  | .v (.slice none 0 0), l, h => by
    simp only [decPK, Option.some.injEq] at h
    subst h
    exact .nil _
theorem decPs_le : ∀ (es : List D) (l : List Pat), decPs es = some l → LeL es (encPs l)
  | [], l, h => by
    simp only [decPs, Option.some.injEq] at h
    subst h
    exact .nil
  | d :: ds, l, h => by
    simp only [decPs, Option.bind_eq_some_iff, Option.some.injEq] at h
    obtain ⟨x, h1, xs, h2, rfl⟩ := h
    rw [encPs]
    exact .cons (decP_le d x h1) (decPs_le ds xs h2)
end
instance : Cod Pat where
  wd := 13
  enc := encP
  dec := decP
  kn := encP_kn
  wid := encP_wid
  dec_enc := decP_enc
  le := decP_le
theorem encPs_enc (ks : List Pat) : D.list 13 (encPs ks) = enc ks := by rw [encPs_map]; rfl
theorem enc_pat (op : Int) (c : Cond) (l r : B) (mn mx : Int) (ks : List Pat) : enc (Pat.mk op c l r mn mx ks) = .agg (enc op :: (cellsC c ++ [enc l, enc r, enc mn, enc mx, enc ks])) := by
  rw [← encPs_enc]
  show encP _ = _
  rw [encP]

theorem decCs_mapM : ∀ es : List D, decCs es = es.mapM (dec (X := Cond))
  | [] => by simp [decCs]
  | d :: es => by
    rw [decCs, List.mapM_cons, decCs_mapM es]
    rfl
theorem decK_eq : ∀ d : D, decK d = dec (X := List Cond) d := fun d => by
  unfold decK
  split
  · rename_i n es
    show _ = if n = 7 then es.mapM (dec (X := Cond)) else none
    rw [decCs_mapM]
  · rfl
  · rename_i h1 h2
    show _ = (match d with
      | .list n es => if n = 7 then es.mapM (dec (X := Cond)) else none
      | .v (.slice none 0 0) => some []
      | _ => none)
    split
    · exact absurd rfl (h1 _ _)
    · exact absurd rfl h2
    · rfl
theorem decPs_mapM : ∀ es : List D, decPs es = es.mapM (dec (X := Pat))
  | [] => by simp [decPs]
  | d :: es => by
    rw [decPs, List.mapM_cons, decPs_mapM es]
    rfl
theorem decPK_eq : ∀ d : D, decPK d = dec (X := List Pat) d := fun d => by
  unfold decPK
  split
  · rename_i n es
    show _ = if n = 13 then es.mapM (dec (X := Pat)) else none
    rw [decPs_mapM]
  · rfl
  · rename_i h1 h2
    show _ = (match d with
      | .list n es => if n = 13 then es.mapM (dec (X := Pat)) else none
      | .v (.slice none 0 0) => some []
      | _ => none)
    split
    · exact absurd rfl (h1 _ _)
    · exact absurd rfl h2
    · rfl
@[simp] theorem eta_Cond (s : Cond) : Cond.mk s.op s.name s.arg s.val s.lab s.fold s.kids = s := by cases s; rfl
@[simp] theorem enc_Cond (s : Cond) : enc s = .agg [enc s.op, enc s.name, enc s.arg, enc s.val, enc s.lab, enc s.fold, enc s.kids] := by cases s; exact enc_cond ..
@[simp] theorem wd_Cond : Cod.wd Cond = 7 := id rfl
@[simp] theorem dec_Cond (x0 x1 x2 x3 x4 x5 x6 : D) : dec (X := Cond) (.agg [x0, x1, x2, x3, x4, x5, x6]) = ((dec x0).bind fun x0 => (dec x1).bind fun x1 => (dec x2).bind fun x2 => (dec x3).bind fun x3 => (dec x4).bind fun x4 => (dec x5).bind fun x5 => (dec x6).bind fun x6 => some ⟨x0, x1, x2, x3, x4, x5, x6⟩) := by
  show decC _ = _
  simp only [decC, decK_eq]
@[simp] theorem eta_Pat (s : Pat) : Pat.mk s.op s.cond s.lab s.reg s.mn s.mx s.kids = s := by cases s; rfl
@[simp] theorem enc_Pat (s : Pat) : enc s = .agg [enc s.op, enc s.cond.op, enc s.cond.name, enc s.cond.arg, enc s.cond.val, enc s.cond.lab, enc s.cond.fold, enc s.cond.kids, enc s.lab, enc s.reg, enc s.mn, enc s.mx, enc s.kids] := by
  obtain ⟨op, ⟨a, b, c, d, e, f, g⟩, l, r, mn, mx, ks⟩ := s
  exact enc_pat ..
@[simp] theorem wd_Pat : Cod.wd Pat = 13 := id rfl
@[simp] theorem dec_Pat (x0 y0 y1 y2 y3 y4 y5 y6 x1 x2 x3 x4 x5 : D) : dec (X := Pat) (.agg [x0, y0, y1, y2, y3, y4, y5, y6, x1, x2, x3, x4, x5]) =
    ((dec x0).bind fun x0 => (dec y0).bind fun y0 => (dec y1).bind fun y1 => (dec y2).bind fun y2 => (dec y3).bind fun y3 => (dec y4).bind fun y4 => (dec y5).bind fun y5 => (dec y6).bind fun y6 =>
      (dec x1).bind fun x1 => (dec x2).bind fun x2 => (dec x3).bind fun x3 => (dec x4).bind fun x4 => (dec x5).bind fun x5 => some ⟨x0, ⟨y0, y1, y2, y3, y4, y5, y6⟩, x1, x2, x3, x4, x5⟩) := by
  show decP _ = _
  simp only [decP, decPK_eq, dec_Cond, Option.bind_assoc, Option.bind_some]
end Go.Gv

namespace Go.Gv
set_option linter.unusedSimpArgs false
set_option linter.unusedVariables false
set_option maxRecDepth 100000
open Cod (enc dec)
variable {S S0 : Nat → Spc}
abbrev s_r31_Same : Spc := spc (a2 (List Span) (List Span)) (fun _ => True) enc fun x y => y = decide (x.1 = x.2)
theorem w_r31_Same : Walk cc_r31_Same rs_r31_Same S (a2 (List Span) (List Span)) (fun _ => True) enc fun x y => y = decide (x.1 = x.2) := by
  rintro ⟨a, b⟩ -
  simp [cc_r31_Same, rs_r31_Same]
  intro h1 h2
  refine ⟨fun h3 => ?_, fun h3 _ => ?_⟩
  · intro e; subst e; omega
  · have h3' : a.length = b.length := by omega
    refine vc_range (X := Unit) [0, 1] [] a.length (fun k _ => a.take k = b.take k) (fun _ => []) (fun _ => []) () (by simp) (by simp) (by omega) (by simp) (by simp) (by simp) (by simp) (by simp) ?_ ?_
    · intro k _ hk hP
      simp
      refine ⟨hk, fun x hx => ⟨by omega, fun y hy => ⟨fun h => ?_, fun h4 h5 => ?_⟩⟩⟩
      · intro e
        subst e
        rw [hx] at hy
        cases hy
        simp at h
      · rw [take_snoc hx, take_snoc hy, hP, Span.ext' h4 h5]
    · intro _ hP
      simp
      rw [List.take_of_length_le (by omega), List.take_of_length_le (by omega)] at hP
      exact hP
abbrev s_r31_Less : Spc := spc (a2 Span Span) (fun _ => True) enc fun x y => y = decide (ltS x.1 x.2)
theorem w_r31_Less : Walk cc_r31_Less rs_r31_Less S (a2 Span Span) (fun _ => True) enc fun x y => y = decide (ltS x.1 x.2) := by
  rintro ⟨a, b⟩ -
  simp [cc_r31_Less, rs_r31_Less]
  unfold ltS
  refine ⟨fun h => ⟨fun e => ⟨fun h1 => by omega, fun h1 => by omega⟩, fun e h1 => by omega⟩, fun h => by omega⟩
end Go.Gv

namespace Go.Gv
open Go.Proofs
/-- corpora/estimate.compare [Source, Source] -> [int] -/
def cc_estimate_compare : CC :=
  .seq (.reg [
    .op (some 2) none (.box ty_Source true (.tmp 0)),
    .op (some 3) none (.box ty_Source true (.tmp 1)),
    .op (some 4) none (.mv (.const (.int .i64 0)))])
  (.keep [2, 3] [] (.seq (.regd [
    .op (some 5) none (.faddr 0 (.tmp 2)),
    .op (some 6) none (.load false 1 (.tmp 5)),
    .op (some 7) none (.faddr 0 (.tmp 3)),
    .op (some 8) none (.load false 1 (.tmp 7)),
    .op (some 9) none (.call f_cmp_Compare_int [(.tmp 6), (.tmp 8)]),
    .op (some 10) none (.faddr 1 (.tmp 2)),
    .op (some 11) none (.load false 1 (.tmp 10)),
    .op (some 12) none (.faddr 1 (.tmp 3)),
    .op (some 13) none (.load false 1 (.tmp 12))] [
    .op (some 14) none (.call f_cmp_Compare_int [(.tmp 11), (.tmp 13)]),
    .op (some 15) none (.bslice ty_int 1 [(.tmp 9), (.tmp 14)]),
    .op (some 16) none (.call f_cmp_Or_int [(.tmp 15)]),
    .op (some 4) none (.mv (.tmp 16))])
  (.keep [4] [] (.ret))))
def rs_estimate_compare : List CRes := [.tmp 4]
def im_estimate_compare : List Nat := [2, 3]
theorem ok_estimate_compare : FnOk Tryz.prog f_estimate_compare im_estimate_compare cc_estimate_compare rs_estimate_compare 17 := fnOk1 mixed (by kernel_rfl)
-- estimate_shift range i=10 n=9 c=11 i2=20 id=0: live [1:n, 5:out, 8:] changed [5] res [19]
/-- corpora/estimate.shift [L_int, int] -> [L_int] -/
def cc_estimate_shift : CC :=
  .seq (.reg [
    .op (some 4) none (.mv (.const (.slice none 0 0)))])
  (.keep [0, 1] [] (.seq (.reg [
    .op (some 5) none (.mv (.const (.slice none 0 0)))])
  (.keep [0, 1, 5] [19] (.seq /- 2 -/ (.seq (.reg [
    .op (some 8) none (.mv (.tmp 0)),
    .op (some 9) none (.len (.tmp 8)),
    .op (some 10) none (.mv (.const (.int .i64 0)))])
  (.keep [1, 5, 8, 9, 10] [19] (rangeCC 0 10 9 11 1 (.seq (.reg [
      .op (some 12) none (.iaddr 1 (.tmp 8) (.tmp 10)),
      .op (some 13) none (.load false 1 (.tmp 12)),
      .op (some 7) none (.mv (.tmp 13))])
    (.keep [1, 5, 7, 8, 9, 10] [19] (.reg [
      .op (some 14) none (.mv (.tmp 5)),
      .op (some 15) none (.mv (.tmp 7)),
      .op (some 16) none (.mv (.tmp 1)),
      .op (some 17) none (.arith .add (.tmp 15) (.tmp 16)),
      .op (some 18) none (.bslice ty_int 1 [(.tmp 17)]),
      .op (some 19) none (.append none ty_int 1 8 (.tmp 14) (.tmp 18)),
      .op (some 5) none (.mv (.tmp 19))]))) 20)))
  (.keep [5] [19] (.seq (.reg [
    .op (some 21) none (.mv (.tmp 5)),
    .op (some 4) none (.mv (.tmp 21))])
  (.keep [4] [19] (.ret))))))))
def rs_estimate_shift : List CRes := [.tmp 4]
def im_estimate_shift : List Nat := []
theorem ok_estimate_shift : FnOk Tryz.prog f_estimate_shift im_estimate_shift cc_estimate_shift rs_estimate_shift 22 := fnOk1 mixed (by kernel_rfl)
-- estimate_times range i=26 n=25 c=27 i2=36 id=0: live [1:at, 5:lo, 7:out] changed [7] res [35]
/-- corpora/estimate.times [Pattern, L_int] -> [L_int] -/
def cc_estimate_times : CC :=
  .seq (.reg [
    .op (some 2) none (.box ty_Pattern true (.tmp 0)),
    .op (some 4) none (.mv (.const (.slice none 0 0)))])
  (.keep [1, 2] [] (.seq /- 1 -/ (.seq (.reg [
    .op (some 9) none (.faddr 10 (.tmp 2)),
    .op (some 10) none (.load false 1 (.tmp 9)),
    .op (some 11) none (.eql false false [.int] (.tmp 10) (.const (.int .i64 0)))])
  (.keep [1, 2, 11] [] (.ite (.tmp 11) (.seq (.reg [
      .op (some 4) none (.mv (.const (.slice none 0 0)))])
    (.keep [4] [35] (.ret)))
    (.skip))))
  (.keep [1, 2] [] (.seq (.reg [
    .op (some 13) none (.faddr 12 (.tmp 2)),
    .op (some 14) none (.load false 1 (.tmp 13)),
    .op (some 15) none (.iaddr 13 (.tmp 14) (.const (.int .i64 0))),
    .op (some 16) none (.load true 13 (.tmp 15)),
    .op (some 17) none (.call f_query_Width [(.tmp 16)]),
    .op (some 12) none (.mv (.tmp 17)),
    .op (some 18) none (.ext (.tmp 12) 0),
    .op (some 19) none (.ext (.tmp 12) 1),
    .op (some 5) none (.mv (.tmp 18)),
    .op (some 6) none (.mv (.tmp 19))])
  (.keep [1, 2, 5, 6] [] (.seq /- 5 -/ (.seq (.reg [
    .op (some 20) none (.mv (.tmp 5)),
    .op (some 21) none (.mv (.tmp 6)),
    .op (some 22) none (.eql true false [.int] (.tmp 20) (.tmp 21))])
  (.keep [1, 2, 5, 22] [] (.ite (.tmp 22) (.seq (.reg [
      .op (some 23) none (.mv (.tmp 1)),
      .op (some 4) none (.mv (.tmp 23))])
    (.keep [4] [35] (.ret)))
    (.skip))))
  (.keep [1, 2, 5] [] (.seq (.reg [
    .op (some 7) none (.mv (.const (.slice none 0 0)))])
  (.keep [1, 2, 5, 7] [35] (.seq /- 9 -/ (.seq (.reg [
    .op (some 24) none (.faddr 10 (.tmp 2)),
    .op (some 25) none (.load false 1 (.tmp 24)),
    .op (some 26) none (.mv (.const (.int .i64 0)))])
  (.keep [1, 5, 7, 25, 26] [35] (rangeCC 0 26 25 27 1 (.seq (.reg [
      .op (some 28) none (.mv (.tmp 26)),
      .op (some 8) none (.mv (.tmp 28))])
    (.keep [1, 5, 7, 8, 25, 26] [35] (.reg [
      .op (some 29) none (.mv (.tmp 7)),
      .op (some 30) none (.mv (.tmp 1)),
      .op (some 31) none (.mv (.tmp 8)),
      .op (some 32) none (.mv (.tmp 5)),
      .op (some 33) none (.arith .mul (.tmp 31) (.tmp 32)),
      .op (some 34) none (.call f_estimate_shift [(.tmp 30), (.tmp 33)]),
      .op (some 35) none (.append none ty_int 1 8 (.tmp 29) (.tmp 34)),
      .op (some 7) none (.mv (.tmp 35))]))) 36)))
  (.keep [7] [35] (.seq (.reg [
    .op (some 37) none (.mv (.tmp 7)),
    .op (some 38) none (.call f_slices_Sort_int [(.tmp 37)])])
  (.keep [7] [35] (.seq (.reg [
    .op (some 39) none (.mv (.tmp 7)),
    .op (some 40) none (.call f_slices_Compact_int [(.tmp 39)]),
    .op (some 4) none (.mv (.tmp 40))])
  (.keep [4] [35] (.ret))))))))))))))))
def rs_estimate_times : List CRes := [.tmp 4]
def im_estimate_times : List Nat := [2]
theorem ok_estimate_times : FnOk Tryz.prog f_estimate_times im_estimate_times cc_estimate_times rs_estimate_times 41 := fnOk1 mixed (by kernel_rfl)
-- estimate_finder_visit range i=31 n=30 c=32 i2=50 id=3: live [0:f, 29:] changed [] res [0, 47]
-- estimate_finder_visit range i=63 n=62 c=64 i2=82 id=5: live [0:f, 2:at, 61:] changed [2] res [0, 47]
-- estimate_finder_visit range i=19 n=18 c=20 i2=26 id=1: live [0:f, 17:] changed [] res [0, 47]
/-- (*corpora/estimate.finder).visit [P_estimate_finder, Pattern, L_int] -> [] -/
def cc_estimate_finder_visit : CC :=
  .seq (.reg [
    .op (some 4) none (.box ty_Pattern true (.tmp 1))])
  (.keep [0, 2, 4] [0, 47] (.seq (.reg [
    .op (some 14) none (.faddr 0 (.tmp 4)),
    .op (some 15) none (.load false 1 (.tmp 14))])
  (.keep [0, 2, 4, 15] [0, 47] (.block 0 (.seq (.reg [
      .op (some 28) none (.eql false false [.int] (.tmp 15) (.const (.int .i64 1))),
      .op (some 27) none (.mv (.tmp 28))])
    (.keep [0, 2, 4, 15, 27] [0, 47] (.ite (.tmp 27) (.seq /- 3 -/ (.seq (.reg [
        .op (some 29) none (.mv (.tmp 2)),
        .op (some 30) none (.len (.tmp 29)),
        .op (some 31) none (.mv (.const (.int .i64 0)))])
      (.keep [0, 29, 30, 31] [0, 47] (rangeCC 3 31 30 32 4 (.seq (.reg [
          .op (some 33) none (.iaddr 1 (.tmp 29) (.tmp 31)),
          .op (some 34) none (.load false 1 (.tmp 33)),
          .op (some 7) none (.mv (.tmp 34))])
        (.keep [0, 7, 29, 30, 31] [0, 47] (.regd [
          .op (some 35) none (.mv (.tmp 0)),
          .op (some 36) none (.mv (.tmp 0)),
          .op (some 37) none (.nilck (.tmp 36)),
          .op (some 38) none (.faddr 1 (.tmp 37)),
          .op (some 39) none (.load false 1 (.tmp 38)),
          .op (some 40) none (.mv (.tmp 0)),
          .op (some 41) none (.nilck (.tmp 40)),
          .op (some 42) none (.faddr 0 (.tmp 41)),
          .op (some 43) none (.load false 1 (.tmp 42)),
          .op (some 44) none (.mv (.tmp 7)),
          .op (some 45) none (.build [(.int .i64 0), (.int .i64 0)] [(0, 1, (.tmp 43)), (1, 1, (.tmp 44))]),
          .op (some 46) none (.bslice ty_Source 2 [(.tmp 45)]),
          .op (some 47) none (.append (some 47) ty_Source 2 16 (.tmp 39) (.tmp 46))] [
          .op (some 48) none (.nilck (.tmp 35)),
          .op (some 49) none (.faddr 1 (.tmp 48)),
          .op none none (.store (some 0) 1 (.tmp 49) (.tmp 47))]))) 50)))
      (.keep [0] [0, 47] (.reg [
        .op (some 51) none (.mv (.tmp 0)),
        .op (some 52) none (.nilck (.tmp 51)),
        .op (some 53) none (.faddr 0 (.tmp 52)),
        .op (some 54) none (.load false 1 (.tmp 53)),
        .op (some 55) none (.arith .add (.tmp 54) (.const (.int .i64 1))),
        .op (some 56) none (.nilck (.tmp 51)),
        .op (some 57) none (.faddr 0 (.tmp 56)),
        .op none none (.store none 1 (.tmp 57) (.tmp 55))])))
      (.seq (.reg [
        .op (some 59) none (.eql false false [.int] (.tmp 15) (.const (.int .i64 4))),
        .op (some 58) none (.mv (.tmp 59))])
      (.keep [0, 2, 4, 15, 58] [0, 47] (.ite (.tmp 58) (.seq (.reg [
          .op (some 60) none (.faddr 12 (.tmp 4)),
          .op (some 61) none (.load false 1 (.tmp 60)),
          .op (some 62) none (.len (.tmp 61)),
          .op (some 63) none (.mv (.const (.int .i64 0)))])
        (.keep [0, 2, 61, 62, 63] [0, 47] (rangeCC 5 63 62 64 6 (.seq (.reg [
            .op (some 65) none (.iaddr 13 (.tmp 61) (.tmp 63)),
            .op (some 66) none (.load true 13 (.tmp 65)),
            .op (some 9) none (.alloc ty_Pattern [(.int .i64 0), (.int .i64 0), (.string ⟨#[]⟩), (.string ⟨#[]⟩), (.string ⟨#[]⟩), (.string ⟨#[]⟩), (.bool false), (.slice none 0 0), (.string ⟨#[]⟩), (.string ⟨#[]⟩), (.int .i64 0), (.int .i64 0), (.slice none 0 0)]),
            .op none none (.store none 13 (.tmp 9) (.tmp 66))])
          (.keep [0, 2, 9, 61, 62, 63] [0, 9, 47] (.seq (.reg [
            .op (some 67) none (.mv (.tmp 0)),
            .op (some 68) none (.load true 13 (.tmp 9)),
            .op (some 69) none (.mv (.tmp 2)),
            .op (some 70) none (.call f_estimate_finder_visit [(.tmp 67), (.tmp 68), (.tmp 69)])])
          (.keep [0, 2, 9, 61, 62, 63] [0, 9, 47] (.seq (.reg [
            .op (some 72) none (.load true 13 (.tmp 9)),
            .op (some 73) none (.call f_query_Width [(.tmp 72)]),
            .op (some 71) none (.mv (.tmp 73)),
            .op (some 74) none (.ext (.tmp 71) 0),
            .op (some 75) none (.ext (.tmp 71) 1),
            .op (some 10) none (.mv (.tmp 74)),
            .op (some 11) none (.mv (.tmp 75))])
          (.keep [0, 2, 10, 11, 61, 62, 63] [0, 47] (.seq /- 11 -/ (.seq (.reg [
            .op (some 76) none (.mv (.tmp 10)),
            .op (some 77) none (.mv (.tmp 11)),
            .op (some 78) none (.eql true false [.int] (.tmp 76) (.tmp 77))])
          (.keep [0, 2, 10, 61, 62, 63, 78] [0, 47] (.ite (.tmp 78) (.reg [
              .op (some 2) none (.mv (.const (.slice none 0 0)))])
            (.skip))))
          (.keep [0, 2, 10, 61, 62, 63] [0, 47] (.reg [
            .op (some 79) none (.mv (.tmp 2)),
            .op (some 80) none (.mv (.tmp 10)),
            .op (some 81) none (.call f_estimate_shift [(.tmp 79), (.tmp 80)]),
            .op (some 2) none (.mv (.tmp 81))]))))))))) 82)))
        (.seq (.reg [
          .op (some 84) none (.eql false false [.int] (.tmp 15) (.const (.int .i64 6))),
          .op (some 83) none (.mv (.tmp 84))])
        (.keep [0, 2, 4, 83] [0, 47] (.ite (.tmp 83) (.regd [
            .op (some 85) none (.mv (.tmp 0)),
            .op (some 86) none (.faddr 12 (.tmp 4)),
            .op (some 87) none (.load false 1 (.tmp 86)),
            .op (some 88) none (.iaddr 13 (.tmp 87) (.const (.int .i64 0))),
            .op (some 89) none (.load true 13 (.tmp 88)),
            .op (some 90) none (.load true 13 (.tmp 4)),
            .op (some 91) none (.mv (.tmp 2)),
            .op (some 92) none (.call f_estimate_times [(.tmp 90), (.tmp 91)])] [
            .op (some 93) none (.call f_estimate_finder_visit [(.tmp 85), (.tmp 89), (.tmp 92)])])
          (.seq (.reg [
            .op (some 16) none (.faddr 12 (.tmp 4)),
            .op (some 17) none (.load false 1 (.tmp 16)),
            .op (some 18) none (.len (.tmp 17)),
            .op (some 19) none (.mv (.const (.int .i64 0)))])
          (.keep [0, 17, 18, 19] [0, 47] (rangeCC 1 19 18 20 2 (.seq (.reg [
              .op (some 21) none (.iaddr 13 (.tmp 17) (.tmp 19)),
              .op (some 22) none (.load true 13 (.tmp 21)),
              .op (some 13) none (.alloc ty_Pattern [(.int .i64 0), (.int .i64 0), (.string ⟨#[]⟩), (.string ⟨#[]⟩), (.string ⟨#[]⟩), (.string ⟨#[]⟩), (.bool false), (.slice none 0 0), (.string ⟨#[]⟩), (.string ⟨#[]⟩), (.int .i64 0), (.int .i64 0), (.slice none 0 0)]),
              .op none none (.store none 13 (.tmp 13) (.tmp 22))])
            (.keep [0, 13, 17, 18, 19] [0, 13, 47] (.reg [
              .op (some 23) none (.mv (.tmp 0)),
              .op (some 24) none (.load true 13 (.tmp 13)),
              .op (some 25) none (.call f_estimate_finder_visit [(.tmp 23), (.tmp 24), (.const (.slice none 0 0))])]))) 26))))))))))))))))
def rs_estimate_finder_visit : List CRes := []
def im_estimate_finder_visit : List Nat := [4, 1047047, 2049000, 1047047]
theorem ok_estimate_finder_visit : FnOk Tryz.prog f_estimate_finder_visit im_estimate_finder_visit cc_estimate_finder_visit rs_estimate_finder_visit 94 := fnOk1 mixed (by kernel_rfl)
/-- corpora/estimate.Fixed [Pattern] -> [L_Source] -/
def cc_estimate_Fixed : CC :=
  .seq (.reg [
    .op (some 1) none (.box ty_Pattern true (.tmp 0)),
    .op (some 2) none (.mv (.const (.slice none 0 0)))])
  (.keep [1] [] (.seq (.seq (.reg [
    .op (some 5) none (.load true 13 (.tmp 1)),
    .op (some 6) none (.call f_query_Size [(.tmp 5)]),
    .op (some 3) none (.mv (.tmp 6))])
  (.keep [1, 3] [] (.seq (.reg [
    .op (some 7) none (.mv (.tmp 3)),
    .op (some 8) none (.cmp .lss (.tmp 7) (.const (.int .i64 1))),
    .op (some 9) none (.mv (.tmp 8)),
    .op (some 10) (some (9, false)) (.mv (.tmp 3)),
    .op (some 11) (some (9, false)) (.cmp .gtr (.tmp 10) (.const (.int .i64 256))),
    .op (some 12) none (.pick (.tmp 9) (.const (.bool true)) (.tmp 11))])
  (.keep [1, 12] [] (.ite (.tmp 12) (.seq (.reg [
      .op (some 2) none (.mv (.const (.slice none 0 0)))])
    (.keep [2] [] (.ret)))
    (.skip))))))
  (.keep [1] [] (seqM 5 (.reg [
    .op (some 13) none (.build [(.int .i64 0), (.slice none 0 0)] []),
    .op (some 14) none (.box ty_estimate_finder false (.tmp 13)),
    .op (some 4) none (.mv (.tmp 14))])
  (.keep [1, 4] [14, 47] (.seq (.reg [
    .op (some 15) none (.mv (.tmp 4)),
    .op (some 16) none (.load true 13 (.tmp 1)),
    .op (some 17) none (.bslice ty_int 1 [(.const (.int .i64 0))]),
    .op (some 18) none (.call f_estimate_finder_visit [(.tmp 15), (.tmp 16), (.tmp 17)])])
  (.keep [4] [14, 47] (.seq (.reg [
    .op (some 19) none (.mv (.tmp 4)),
    .op (some 20) none (.nilck (.tmp 19)),
    .op (some 21) none (.faddr 1 (.tmp 20)),
    .op (some 22) none (.load false 1 (.tmp 21)),
    .op (some 23) none (.call f_slices_SortFunc_Source [(.tmp 22), (.func f_estimate_compare)])])
  (.keep [4] [14, 47] (.seq (.reg [
    .op (some 24) none (.mv (.tmp 4)),
    .op (some 25) none (.nilck (.tmp 24)),
    .op (some 26) none (.faddr 1 (.tmp 25)),
    .op (some 27) none (.load false 1 (.tmp 26)),
    .op (some 28) none (.call f_slices_Compact_Source [(.tmp 27)]),
    .op (some 2) none (.mv (.tmp 28))])
  (.keep [2] [47] (.ret))))))))))))
def rs_estimate_Fixed : List CRes := [.tmp 2]
def im_estimate_Fixed : List Nat := [1]
theorem ok_estimate_Fixed : FnOk Tryz.prog f_estimate_Fixed im_estimate_Fixed cc_estimate_Fixed rs_estimate_Fixed 29 := fnOk1 mixed (by kernel_rfl)
-- slices_Compact_int while id=0: live [0:s, 3:k] changed [3] res [0]
-- slices_Compact_int while id=0: live [0:s, 3:k, 4:s2, 5:k2] changed [3, 5] res [0]
/-- slices.Compact[[]int,int] [L_int] -> [L_int] -/
def cc_slices_Compact_int : CC :=
  .seq (.reg [
    .op (some 2) none (.mv (.const (.slice none 0 0)))])
  (.keep [0] [0] (.seq /- 1 -/ (.seq (.reg [
    .op (some 6) none (.mv (.tmp 0)),
    .op (some 7) none (.len (.tmp 6)),
    .op (some 8) none (.cmp .lss (.tmp 7) (.const (.int .i64 2)))])
  (.keep [0, 8] [0] (.ite (.tmp 8) (.seq (.reg [
      .op (some 9) none (.mv (.tmp 0)),
      .op (some 2) none (.mv (.tmp 9))])
    (.keep [2] [0] (.ret)))
    (.skip))))
  (.keep [0] [0] (.seq /- 4 -/ (.seq (.reg [
    .op (some 3) none (.mv (.const (.int .i64 1)))])
  (.keep [0, 3] [0] (.block 0 (.loop 1 (.seq /- 6 -/ (.seq (.reg [
        .op (some 10) none (.mv (.tmp 3)),
        .op (some 11) none (.mv (.tmp 0)),
        .op (some 12) none (.len (.tmp 11)),
        .op (some 13) none (.cmp .lss (.tmp 10) (.tmp 12))])
      (.keep [0, 3, 13] [0] (.ite (.tmp 13) (.skip)
        (.exit 0))))
      (.keep [0, 3] [0] (.seq /- 8 -/ (.block 1 (.seq (.regd [
          .op (some 16) none (.mv (.tmp 0)),
          .op (some 17) none (.mv (.tmp 3)),
          .op (some 18) none (.iaddr 1 (.tmp 16) (.tmp 17)),
          .op (some 19) none (.load false 1 (.tmp 18)),
          .op (some 20) none (.mv (.tmp 0)),
          .op (some 21) none (.mv (.tmp 3)),
          .op (some 22) none (.arith .sub (.tmp 21) (.const (.int .i64 1))),
          .op (some 23) none (.iaddr 1 (.tmp 20) (.tmp 22)),
          .op (some 24) none (.load false 1 (.tmp 23))] [
          .op (some 25) none (.eql false false [.int] (.tmp 19) (.tmp 24))])
        (.keep [0, 3, 25] [0] (.ite (.tmp 25) (.seq (.reg [
            .op (some 26) none (.mv (.tmp 0)),
            .op (some 27) none (.mv (.tmp 3)),
            .op (some 28) none (.slice 1 (.tmp 26) (some (.tmp 27)) none),
            .op (some 4) none (.mv (.tmp 28))])
          (.keep [0, 3, 4] [0] (seqM 11 (.seq (.reg [
            .op (some 5) none (.mv (.const (.int .i64 1)))])
          (.keep [0, 3, 4, 5] [0] (.block 2 (.loop 2 (.seq /- 13 -/ (.seq (.reg [
                .op (some 29) none (.mv (.tmp 5)),
                .op (some 30) none (.mv (.tmp 4)),
                .op (some 31) none (.len (.tmp 30)),
                .op (some 32) none (.cmp .lss (.tmp 29) (.tmp 31))])
              (.keep [0, 3, 4, 5, 32] [0] (.ite (.tmp 32) (.skip)
                (.exit 2))))
              (.keep [0, 3, 4, 5] [0] (.seq /- 15 -/ (.block 3 (.seq (.regd [
                  .op (some 35) none (.mv (.tmp 4)),
                  .op (some 36) none (.mv (.tmp 5)),
                  .op (some 37) none (.iaddr 1 (.tmp 35) (.tmp 36)),
                  .op (some 38) none (.load false 1 (.tmp 37)),
                  .op (some 39) none (.mv (.tmp 4)),
                  .op (some 40) none (.mv (.tmp 5)),
                  .op (some 41) none (.arith .sub (.tmp 40) (.const (.int .i64 1))),
                  .op (some 42) none (.iaddr 1 (.tmp 39) (.tmp 41)),
                  .op (some 43) none (.load false 1 (.tmp 42))] [
                  .op (some 44) none (.eql true false [.int] (.tmp 38) (.tmp 43))])
                (.keep [0, 3, 4, 5, 44] [0] (.ite (.tmp 44) (.seq (.reg [
                    .op (some 45) none (.mv (.tmp 0)),
                    .op (some 46) none (.mv (.tmp 3)),
                    .op (some 47) none (.mv (.tmp 4)),
                    .op (some 48) none (.mv (.tmp 5)),
                    .op (some 49) none (.iaddr 1 (.tmp 47) (.tmp 48)),
                    .op (some 50) none (.load false 1 (.tmp 49)),
                    .op (some 51) none (.iaddr 1 (.tmp 45) (.tmp 46)),
                    .op none none (.store none 1 (.tmp 51) (.tmp 50))])
                  (.keep [0, 3, 4, 5] [0] (.reg [
                    .op (some 52) none (.mv (.tmp 3)),
                    .op (some 53) none (.arith .add (.tmp 52) (.const (.int .i64 1))),
                    .op (some 3) none (.mv (.tmp 53))])))
                  (.skip)))))
              (.keep [0, 3, 4, 5] [0] (.reg [
                .op (some 33) none (.mv (.tmp 5)),
                .op (some 34) none (.arith .add (.tmp 33) (.const (.int .i64 1))),
                .op (some 5) none (.mv (.tmp 34))])))))))))
          (.keep [0, 3] [0] (.seq (.reg [
            .op (some 54) none (.mv (.tmp 0)),
            .op (some 55) none (.mv (.tmp 3)),
            .op (some 56) none (.slice 1 (.tmp 54) (some (.tmp 55)) none),
            .op none none (.clear 1 false [(.int .i64 0)] (.tmp 56))])
          (.keep [0, 3] [0] (.seq (.reg [
            .op (some 57) none (.mv (.tmp 0)),
            .op (some 58) none (.mv (.tmp 3)),
            .op (some 59) none (.slice 1 (.tmp 57) none (some (.tmp 58))),
            .frz 59 0,
            .op (some 2) none (.mv (.tmp 59))])
          (.keep [2] [0] (.ret)))))))))
          (.skip)))))
      (.keep [0, 3] [0] (.reg [
        .op (some 14) none (.mv (.tmp 3)),
        .op (some 15) none (.arith .add (.tmp 14) (.const (.int .i64 1))),
        .op (some 3) none (.mv (.tmp 15))])))))))))
  (.keep [0] [0] (.seq (.reg [
    .op (some 60) none (.mv (.tmp 0)),
    .op (some 2) none (.mv (.tmp 60))])
  (.keep [2] [0] (.ret))))))))
def rs_slices_Compact_int : List CRes := [.tmp 2]
def im_slices_Compact_int : List Nat := []
theorem ok_slices_Compact_int : FnOk Tryz.prog f_slices_Compact_int im_slices_Compact_int cc_slices_Compact_int rs_slices_Compact_int 61 := fnOk1 mixed (by kernel_rfl)
-- slices_Compact_Source while id=0: live [0:s, 3:k] changed [3] res [0]
-- slices_Compact_Source while id=0: live [0:s, 3:k, 4:s2, 5:k2] changed [3, 5] res [0]
/-- slices.Compact[[]corpora/api.Source,corpora/api.Source] [L_Source] -> [L_Source] -/
def cc_slices_Compact_Source : CC :=
  .seq (.reg [
    .op (some 2) none (.mv (.const (.slice none 0 0)))])
  (.keep [0] [0] (.seq /- 1 -/ (.seq (.reg [
    .op (some 6) none (.mv (.tmp 0)),
    .op (some 7) none (.len (.tmp 6)),
    .op (some 8) none (.cmp .lss (.tmp 7) (.const (.int .i64 2)))])
  (.keep [0, 8] [0] (.ite (.tmp 8) (.seq (.reg [
      .op (some 9) none (.mv (.tmp 0)),
      .op (some 2) none (.mv (.tmp 9))])
    (.keep [2] [0] (.ret)))
    (.skip))))
  (.keep [0] [0] (.seq /- 4 -/ (.seq (.reg [
    .op (some 3) none (.mv (.const (.int .i64 1)))])
  (.keep [0, 3] [0] (.block 0 (.loop 1 (.seq /- 6 -/ (.seq (.reg [
        .op (some 10) none (.mv (.tmp 3)),
        .op (some 11) none (.mv (.tmp 0)),
        .op (some 12) none (.len (.tmp 11)),
        .op (some 13) none (.cmp .lss (.tmp 10) (.tmp 12))])
      (.keep [0, 3, 13] [0] (.ite (.tmp 13) (.skip)
        (.exit 0))))
      (.keep [0, 3] [0] (.seq /- 8 -/ (.block 1 (.seq (.regd [
          .op (some 16) none (.mv (.tmp 0)),
          .op (some 17) none (.mv (.tmp 3)),
          .op (some 18) none (.iaddr 2 (.tmp 16) (.tmp 17)),
          .op (some 19) none (.load true 2 (.tmp 18)),
          .op (some 20) none (.mv (.tmp 0)),
          .op (some 21) none (.mv (.tmp 3)),
          .op (some 22) none (.arith .sub (.tmp 21) (.const (.int .i64 1))),
          .op (some 23) none (.iaddr 2 (.tmp 20) (.tmp 22)),
          .op (some 24) none (.load true 2 (.tmp 23))] [
          .op (some 25) none (.eql false true [.int, .int] (.tmp 19) (.tmp 24))])
        (.keep [0, 3, 25] [0] (.ite (.tmp 25) (.seq (.reg [
            .op (some 26) none (.mv (.tmp 0)),
            .op (some 27) none (.mv (.tmp 3)),
            .op (some 28) none (.slice 2 (.tmp 26) (some (.tmp 27)) none),
            .op (some 4) none (.mv (.tmp 28))])
          (.keep [0, 3, 4] [0] (seqM 11 (.seq (.reg [
            .op (some 5) none (.mv (.const (.int .i64 1)))])
          (.keep [0, 3, 4, 5] [0] (.block 2 (.loop 2 (.seq /- 13 -/ (.seq (.reg [
                .op (some 29) none (.mv (.tmp 5)),
                .op (some 30) none (.mv (.tmp 4)),
                .op (some 31) none (.len (.tmp 30)),
                .op (some 32) none (.cmp .lss (.tmp 29) (.tmp 31))])
              (.keep [0, 3, 4, 5, 32] [0] (.ite (.tmp 32) (.skip)
                (.exit 2))))
              (.keep [0, 3, 4, 5] [0] (.seq /- 15 -/ (.block 3 (.seq (.regd [
                  .op (some 35) none (.mv (.tmp 4)),
                  .op (some 36) none (.mv (.tmp 5)),
                  .op (some 37) none (.iaddr 2 (.tmp 35) (.tmp 36)),
                  .op (some 38) none (.load true 2 (.tmp 37)),
                  .op (some 39) none (.mv (.tmp 4)),
                  .op (some 40) none (.mv (.tmp 5)),
                  .op (some 41) none (.arith .sub (.tmp 40) (.const (.int .i64 1))),
                  .op (some 42) none (.iaddr 2 (.tmp 39) (.tmp 41)),
                  .op (some 43) none (.load true 2 (.tmp 42))] [
                  .op (some 44) none (.eql true true [.int, .int] (.tmp 38) (.tmp 43))])
                (.keep [0, 3, 4, 5, 44] [0] (.ite (.tmp 44) (.seq (.reg [
                    .op (some 45) none (.mv (.tmp 0)),
                    .op (some 46) none (.mv (.tmp 3)),
                    .op (some 47) none (.mv (.tmp 4)),
                    .op (some 48) none (.mv (.tmp 5)),
                    .op (some 49) none (.iaddr 2 (.tmp 47) (.tmp 48)),
                    .op (some 50) none (.load true 2 (.tmp 49)),
                    .op (some 51) none (.iaddr 2 (.tmp 45) (.tmp 46)),
                    .op none none (.store none 2 (.tmp 51) (.tmp 50))])
                  (.keep [0, 3, 4, 5] [0] (.reg [
                    .op (some 52) none (.mv (.tmp 3)),
                    .op (some 53) none (.arith .add (.tmp 52) (.const (.int .i64 1))),
                    .op (some 3) none (.mv (.tmp 53))])))
                  (.skip)))))
              (.keep [0, 3, 4, 5] [0] (.reg [
                .op (some 33) none (.mv (.tmp 5)),
                .op (some 34) none (.arith .add (.tmp 33) (.const (.int .i64 1))),
                .op (some 5) none (.mv (.tmp 34))])))))))))
          (.keep [0, 3] [0] (.seq (.reg [
            .op (some 54) none (.mv (.tmp 0)),
            .op (some 55) none (.mv (.tmp 3)),
            .op (some 56) none (.slice 2 (.tmp 54) (some (.tmp 55)) none),
            .op none none (.clear 2 true [(.int .i64 0), (.int .i64 0)] (.tmp 56))])
          (.keep [0, 3] [0] (.seq (.reg [
            .op (some 57) none (.mv (.tmp 0)),
            .op (some 58) none (.mv (.tmp 3)),
            .op (some 59) none (.slice 2 (.tmp 57) none (some (.tmp 58))),
            .frz 59 0,
            .op (some 2) none (.mv (.tmp 59))])
          (.keep [2] [0] (.ret)))))))))
          (.skip)))))
      (.keep [0, 3] [0] (.reg [
        .op (some 14) none (.mv (.tmp 3)),
        .op (some 15) none (.arith .add (.tmp 14) (.const (.int .i64 1))),
        .op (some 3) none (.mv (.tmp 15))])))))))))
  (.keep [0] [0] (.seq (.reg [
    .op (some 60) none (.mv (.tmp 0)),
    .op (some 2) none (.mv (.tmp 60))])
  (.keep [2] [0] (.ret))))))))
def rs_slices_Compact_Source : List CRes := [.tmp 2]
def im_slices_Compact_Source : List Nat := []
theorem ok_slices_Compact_Source : FnOk Tryz.prog f_slices_Compact_Source im_slices_Compact_Source cc_slices_Compact_Source rs_slices_Compact_Source 61 := fnOk1 mixed (by kernel_rfl)
-- r31_fixed range i=30 n=29 c=31 i2=56 id=1: live [1:d, 2:leaf, 3:out, 28:] changed [1, 2, 3] res []
-- r31_fixed while id=0: live [1:d, 2:leaf, 3:out, 4:p, 13:lo, 14:hi, 15:j] changed [3, 15] res []
/-- corpora/corporaref31.fixed [Pattern, int, int, L_Source] -> [L_Source] -/
def cc_r31_fixed : CC :=
  .seq (.reg [
    .op (some 4) none (.box ty_Pattern true (.tmp 0)),
    .op (some 8) none (.mv (.const (.slice none 0 0)))])
  (.keep [1, 2, 3, 4] [] (.seq /- 1 -/ (.seq (.reg [
    .op (some 16) none (.faddr 0 (.tmp 4)),
    .op (some 17) none (.load false 1 (.tmp 16))])
  (.keep [1, 2, 3, 4, 17] [] (.block 0 (.seq (.reg [
      .op (some 19) none (.eql false false [.int] (.tmp 17) (.const (.int .i64 1))),
      .op (some 18) none (.mv (.tmp 19))])
    (.keep [1, 2, 3, 4, 17, 18] [] (.ite (.tmp 18) (.seq (.reg [
        .op (some 20) none (.mv (.tmp 3)),
        .op (some 21) none (.mv (.tmp 2)),
        .op (some 22) none (.mv (.tmp 1)),
        .op (some 23) none (.build [(.int .i64 0), (.int .i64 0)] [(0, 1, (.tmp 21)), (1, 1, (.tmp 22))]),
        .op (some 24) none (.call f_r31_insert [(.tmp 20), (.tmp 23)]),
        .op (some 8) none (.mv (.tmp 24))])
      (.keep [8] [] (.ret)))
      (.seq (.reg [
        .op (some 26) none (.eql false false [.int] (.tmp 17) (.const (.int .i64 4))),
        .op (some 25) none (.mv (.tmp 26))])
      (.keep [1, 2, 3, 4, 17, 25] [] (.ite (.tmp 25) (.seq (.reg [
          .op (some 27) none (.faddr 12 (.tmp 4)),
          .op (some 28) none (.load false 1 (.tmp 27)),
          .op (some 29) none (.len (.tmp 28)),
          .op (some 30) none (.mv (.const (.int .i64 0)))])
        (.keep [1, 2, 3, 28, 29, 30] [] (rangeCC 1 30 29 31 2 (.seq (.reg [
            .op (some 32) none (.iaddr 13 (.tmp 28) (.tmp 30)),
            .op (some 33) none (.load true 13 (.tmp 32)),
            .op (some 10) none (.alloc ty_Pattern [(.int .i64 0), (.int .i64 0), (.string ⟨#[]⟩), (.string ⟨#[]⟩), (.string ⟨#[]⟩), (.string ⟨#[]⟩), (.bool false), (.slice none 0 0), (.string ⟨#[]⟩), (.string ⟨#[]⟩), (.int .i64 0), (.int .i64 0), (.slice none 0 0)]),
            .op none none (.store none 13 (.tmp 10) (.tmp 33))])
          (.keep [1, 2, 3, 10, 28, 29, 30] [10] (.seq (.reg [
            .op (some 34) none (.load true 13 (.tmp 10)),
            .op (some 35) none (.mv (.tmp 1)),
            .op (some 36) none (.mv (.tmp 2)),
            .op (some 37) none (.mv (.tmp 3)),
            .op (some 38) none (.call f_r31_fixed [(.tmp 34), (.tmp 35), (.tmp 36), (.tmp 37)]),
            .op (some 3) none (.mv (.tmp 38))])
          (.keep [1, 2, 3, 10, 28, 29, 30] [10] (.seq (.reg [
            .op (some 40) none (.load true 13 (.tmp 10)),
            .op (some 41) none (.call f_r23_Width [(.tmp 40)]),
            .op (some 39) none (.mv (.tmp 41)),
            .op (some 42) none (.ext (.tmp 39) 0),
            .op (some 43) none (.ext (.tmp 39) 1),
            .op (some 11) none (.mv (.tmp 42)),
            .op (some 12) none (.mv (.tmp 43))])
          (.keep [1, 2, 3, 10, 11, 12, 28, 29, 30] [10] (.seq /- 10 -/ (.seq (.reg [
            .op (some 44) none (.mv (.tmp 11)),
            .op (some 45) none (.mv (.tmp 12)),
            .op (some 46) none (.eql true false [.int] (.tmp 44) (.tmp 45))])
          (.keep [1, 2, 3, 10, 11, 28, 29, 30, 46] [10] (.ite (.tmp 46) (.seq (.reg [
              .op (some 47) none (.mv (.tmp 3)),
              .op (some 8) none (.mv (.tmp 47))])
            (.keep [8] [] (.ret)))
            (.skip))))
          (.keep [1, 2, 3, 10, 11, 28, 29, 30] [10] (.reg [
            .op (some 48) none (.mv (.tmp 1)),
            .op (some 49) none (.mv (.tmp 11)),
            .op (some 50) none (.arith .add (.tmp 48) (.tmp 49)),
            .op (some 51) none (.mv (.tmp 2)),
            .op (some 52) none (.load true 13 (.tmp 10)),
            .op (some 53) none (.call f_r23_Leaves [(.tmp 52)]),
            .op (some 54) none (.len (.tmp 53)),
            .op (some 55) none (.arith .add (.tmp 51) (.tmp 54)),
            .op (some 1) none (.mv (.tmp 50)),
            .op (some 2) none (.mv (.tmp 55))]))))))))) 56)))
        (.seq (.reg [
          .op (some 58) none (.eql false false [.int] (.tmp 17) (.const (.int .i64 6))),
          .op (some 57) none (.mv (.tmp 58))])
        (.keep [1, 2, 3, 4, 57] [] (.ite (.tmp 57) (.seq (.reg [
            .op (some 60) none (.faddr 12 (.tmp 4)),
            .op (some 61) none (.load false 1 (.tmp 60)),
            .op (some 62) none (.iaddr 13 (.tmp 61) (.const (.int .i64 0))),
            .op (some 63) none (.load true 13 (.tmp 62)),
            .op (some 64) none (.call f_r23_Width [(.tmp 63)]),
            .op (some 59) none (.mv (.tmp 64)),
            .op (some 65) none (.ext (.tmp 59) 0),
            .op (some 66) none (.ext (.tmp 59) 1),
            .op (some 13) none (.mv (.tmp 65)),
            .op (some 14) none (.mv (.tmp 66))])
          (.keep [1, 2, 3, 4, 13, 14] [] (.seq (.reg [
            .op (some 15) none (.mv (.const (.int .i64 0)))])
          (.keep [1, 2, 3, 4, 13, 14, 15] [] (.block 3 (.loop 1 (.seq /- 16 -/ (.seq (.reg [
                .op (some 67) none (.mv (.tmp 15)),
                .op (some 68) none (.faddr 10 (.tmp 4)),
                .op (some 69) none (.load false 1 (.tmp 68)),
                .op (some 70) none (.cmp .lss (.tmp 67) (.tmp 69)),
                .op (some 71) none (.mv (.tmp 70)),
                .op (some 72) (some (71, true)) (.mv (.tmp 15)),
                .op (some 73) (some (71, true)) (.eql false false [.int] (.tmp 72) (.const (.int .i64 0))),
                .op (some 74) (some (71, true)) (.mv (.tmp 73)),
                .op (some 75) (some (74, false)) (.mv (.tmp 13)),
                .op (some 76) (some (74, false)) (.mv (.tmp 14)),
                .op (some 77) (some (74, false)) (.eql false false [.int] (.tmp 75) (.tmp 76)),
                .op (some 78) (some (71, true)) (.pick (.tmp 74) (.const (.bool true)) (.tmp 77)),
                .op (some 79) none (.pick (.tmp 71) (.tmp 78) (.const (.bool false)))])
              (.keep [1, 2, 3, 4, 13, 14, 15, 79] [] (.ite (.tmp 79) (.skip)
                (.exit 3))))
              (.keep [1, 2, 3, 4, 13, 14, 15] [] (.seq /- 18 -/ (.block 4 (.reg [
                  .op (some 82) none (.faddr 12 (.tmp 4)),
                  .op (some 83) none (.load false 1 (.tmp 82)),
                  .op (some 84) none (.iaddr 13 (.tmp 83) (.const (.int .i64 0))),
                  .op (some 85) none (.load true 13 (.tmp 84)),
                  .op (some 86) none (.mv (.tmp 1)),
                  .op (some 87) none (.mv (.tmp 15)),
                  .op (some 88) none (.mv (.tmp 13)),
                  .op (some 89) none (.arith .mul (.tmp 87) (.tmp 88)),
                  .op (some 90) none (.arith .add (.tmp 86) (.tmp 89)),
                  .op (some 91) none (.mv (.tmp 2)),
                  .op (some 92) none (.mv (.tmp 3)),
                  .op (some 93) none (.call f_r31_fixed [(.tmp 85), (.tmp 90), (.tmp 91), (.tmp 92)]),
                  .op (some 3) none (.mv (.tmp 93))]))
              (.keep [1, 2, 3, 4, 13, 14, 15] [] (.reg [
                .op (some 80) none (.mv (.tmp 15)),
                .op (some 81) none (.arith .add (.tmp 80) (.const (.int .i64 1))),
                .op (some 15) none (.mv (.tmp 81))])))))))))))
          (.skip)))))))))))))
  (.keep [3] [] (.seq (.reg [
    .op (some 94) none (.mv (.tmp 3)),
    .op (some 8) none (.mv (.tmp 94))])
  (.keep [8] [] (.ret))))))
def rs_r31_fixed : List CRes := [.tmp 8]
def im_r31_fixed : List Nat := [4]
theorem ok_r31_fixed : FnOk Tryz.prog f_r31_fixed im_r31_fixed cc_r31_fixed rs_r31_fixed 95 := fnOk1 mixed (by kernel_rfl)
/-- corpora/corporaref31.Fixed [Pattern] -> [L_Source] -/
def cc_r31_Fixed : CC :=
  .seq (.reg [
    .op (some 1) none (.box ty_Pattern true (.tmp 0)),
    .op (some 2) none (.mv (.const (.slice none 0 0)))])
  (.keep [1] [] (.seq /- 1 -/ (.seq (.reg [
    .op (some 3) none (.load true 13 (.tmp 1)),
    .op (some 4) none (.call f_r23_IsPattern [(.tmp 3)]),
    .op (some 5) none (.not (.tmp 4)),
    .op (some 6) none (.mv (.tmp 5)),
    .op (some 7) (some (6, false)) (.load true 13 (.tmp 1)),
    .op (some 8) (some (6, false)) (.call f_r23_Size [(.tmp 7)]),
    .op (some 9) (some (6, false)) (.cmp .gtr (.tmp 8) (.const (.int .i64 256))),
    .op (some 10) none (.pick (.tmp 6) (.const (.bool true)) (.tmp 9))])
  (.keep [1, 10] [] (.ite (.tmp 10) (.seq (.reg [
      .op (some 2) none (.mv (.const (.slice none 0 0)))])
    (.keep [2] [] (.ret)))
    (.skip))))
  (.keep [1] [] (.seq (.reg [
    .op (some 11) none (.load true 13 (.tmp 1)),
    .op (some 12) none (.call f_r31_fixed [(.tmp 11), (.const (.int .i64 0)), (.const (.int .i64 0)), (.const (.slice none 0 0))]),
    .op (some 2) none (.mv (.tmp 12))])
  (.keep [2] [] (.ret))))))
def rs_r31_Fixed : List CRes := [.tmp 2]
def im_r31_Fixed : List Nat := [1]
theorem ok_r31_Fixed : FnOk Tryz.prog f_r31_Fixed im_r31_Fixed cc_r31_Fixed rs_r31_Fixed 13 := fnOk1 mixed (by kernel_rfl)

end Go.Gv
