/- A part of the framework and of the walks: V2 L1 V3 V4 V5 V11 Cc W1. -/
import Derived.Test.YtaiffcbkmgfklaaGreatDoorGy13

namespace Go.Gv
open Cod (enc dec)
set_option linter.unusedSimpArgs false

structure Cond where
  op : Int
  name : B
  arg : B
  val : B
  lab : B
  fold : Bool
  kids : List Cond

mutual
def encC : Cond → D
  | .mk op n a v l f ks => .agg [enc op, enc n, enc a, enc v, enc l, enc f, .list 7 (encCs ks)]
def encCs : List Cond → List D
  | [] => []
  | k :: ks => encC k :: encCs ks
end
mutual
def decC : D → Option Cond
  | .agg [x0, x1, x2, x3, x4, x5, x6] => (dec x0).bind fun op => (dec x1).bind fun n => (dec x2).bind fun a => (dec x3).bind fun v => (dec x4).bind fun l => (dec x5).bind fun f => (decK x6).bind fun ks => some (.mk op n a v l f ks)
  | _ => none
def decK : D → Option (List Cond)
  | .list n es => if n = 7 then decCs es else none
  | .v (.slice none 0 0) => some []
  | _ => none
def decCs : List D → Option (List Cond)
  | [] => some []
  | d :: ds => (decC d).bind fun x => (decCs ds).bind fun xs => some (x :: xs)
end
theorem encCs_map : ∀ l : List Cond, encCs l = l.map encC
  | [] => rfl
  | _ :: l => by rw [encCs, encCs_map l]; rfl
theorem encC_kn : ∀ c : Cond, (encC c).kn = true
  | .mk .. => rfl
theorem encC_wid : ∀ c : Cond, (encC c).cells.length = 7
  | .mk .. => rfl
mutual
theorem decC_enc : ∀ c : Cond, decC (encC c) = some c
  | .mk op n a v l f ks => by
    have h : decK (.list 7 (encCs ks)) = some ks := by rw [decK, if_pos rfl]; exact decCs_enc ks
    simp only [encC, decC, Cod.dec_enc, Option.bind_some, h]
theorem decCs_enc : ∀ l : List Cond, decCs (encCs l) = some l
  | [] => by simp only [encCs, decCs]
  | c :: l => by simp only [encCs, decCs, decC_enc c, decCs_enc l, Option.bind_some]
end
mutual
theorem decC_le : ∀ (d : D) (c : Cond), decC d = some c → FrzTo noH d (encC c)
  | .agg [x0, x1, x2, x3, x4, x5, x6], c, h => by
    simp only [decC, Option.bind_eq_some_iff, Option.some.injEq] at h
    obtain ⟨op, h0, n, h1, a, h2, v, h3, l, h4, f, h5, ks, h6, rfl⟩ := h
    rw [encC]
    exact LeL.agg (.cons (Cod.le _ _ h0) (.cons (Cod.le _ _ h1) (.cons (Cod.le _ _ h2) (.cons (Cod.le _ _ h3) (.cons (Cod.le _ _ h4) (.cons (Cod.le _ _ h5) (.cons (decK_le x6 ks h6) .nil)))))))
theorem decK_le : ∀ (d : D) (l : List Cond), decK d = some l → FrzTo noH d (.list 7 (encCs l))
  | .list n es, l, h => by
    simp only [decK] at h
    split at h
    · rename_i hn
      subst hn
      have hl := decCs_le es l h
      refine .list hl.1 (fun e he => ?_) hl.2
      rw [encCs_map] at he
      obtain ⟨x, hx, rfl⟩ := List.mem_map.1 he
      exact ⟨encC_kn x, encC_wid x⟩
    · cases h
  | .v (.slice none 0 0), l, h => by
    simp only [decK, Option.some.injEq] at h
    subst h
    exact .nil _
theorem decCs_le : ∀ (es : List D) (l : List Cond), decCs es = some l → LeL es (encCs l)
  | [], l, h => by
    simp only [decCs, Option.some.injEq] at h
    subst h
    exact .nil
  | d :: ds, l, h => by
    simp only [decCs, Option.bind_eq_some_iff, Option.some.injEq] at h
    obtain ⟨x, h1, xs, h2, rfl⟩ := h
    rw [encCs]
    exact .cons (decC_le d x h1) (decCs_le ds xs h2)
end
instance : Cod Cond where
  wd := 7
  enc := encC
  dec := decC
  kn := encC_kn
  wid := encC_wid
  dec_enc := decC_enc
  le := decC_le
theorem encCs_enc (ks : List Cond) : D.list 7 (encCs ks) = enc ks := by rw [encCs_map]; rfl
theorem enc_cond (op : Int) (n a v l : B) (f : Bool) (ks : List Cond) : enc (Cond.mk op n a v l f ks) = .agg [enc op, enc n, enc a, enc v, enc l, enc f, enc ks] := by
  rw [← encCs_enc]
  show encC _ = _
  rw [encC]

structure Pat where
  op : Int
  cond : Cond
  lab : B
  reg : B
  mn : Int
  mx : Int
  kids : List Pat

def cellsC : Cond → List D
  | .mk op n a v l f ks => [enc op, enc n, enc a, enc v, enc l, enc f, enc ks]
theorem cellsC_len : ∀ c : Cond, (cellsC c).length = 7
  | .mk .. => rfl
mutual
def encP : Pat → D
  | .mk op c l r mn mx ks => .agg (enc op :: (cellsC c ++ [enc l, enc r, enc mn, enc mx, .list 13 (encPs ks)]))
def encPs : List Pat → List D
  | [] => []
  | k :: ks => encP k :: encPs ks
end
mutual
def decP : D → Option Pat
  | .agg [x0, y0, y1, y2, y3, y4, y5, y6, x1, x2, x3, x4, x5] => (dec x0).bind fun op => (dec (D.agg [y0, y1, y2, y3, y4, y5, y6])).bind fun c => (dec x1).bind fun l => (dec x2).bind fun r => (dec x3).bind fun mn => (dec x4).bind fun mx => (decPK x5).bind fun ks => some (.mk op c l r mn mx ks)
  | _ => none
def decPK : D → Option (List Pat)
  | .list n es => if n = 13 then decPs es else none
  | .v (.slice none 0 0) => some []
  | _ => none
def decPs : List D → Option (List Pat)
  | [] => some []
  | d :: ds => (decP d).bind fun x => (decPs ds).bind fun xs => some (x :: xs)
end
theorem encPs_map : ∀ l : List Pat, encPs l = l.map encP
  | [] => rfl
  | _ :: l => by rw [encPs, encPs_map l]; rfl
theorem encP_kn : ∀ c : Pat, (encP c).kn = true
  | .mk .. => rfl
theorem encP_wid : ∀ c : Pat, (encP c).cells.length = 13
  | .mk op c l r mn mx ks => by simp [encP, D.cells, cellsC_len]
mutual
theorem decP_enc : ∀ c : Pat, decP (encP c) = some c
  | .mk op (.mk cop n a v cl f cks) l r mn mx ks => by
    have h : decPK (.list 13 (encPs ks)) = some ks := by rw [decPK, if_pos rfl]; exact decPs_enc ks
    have hc : dec (D.agg [enc cop, enc n, enc a, enc v, enc cl, enc f, enc cks]) = some (Cond.mk cop n a v cl f cks) := by rw [← enc_cond]; exact Cod.dec_enc _
    simp only [encP, cellsC, List.cons_append, List.nil_append, decP, Cod.dec_enc, Option.bind_some, h, hc]
theorem decPs_enc : ∀ l : List Pat, decPs (encPs l) = some l
  | [] => by simp only [encPs, decPs]
  | c :: l => by simp only [encPs, decPs, decP_enc c, decPs_enc l, Option.bind_some]
end
theorem dec_condL {y0 y1 y2 y3 y4 y5 y6 : D} {c : Cond} (h : dec (D.agg [y0, y1, y2, y3, y4, y5, y6]) = some c) : LeL [y0, y1, y2, y3, y4, y5, y6] (cellsC c) := by
  have h' : decC (D.agg [y0, y1, y2, y3, y4, y5, y6]) = some c := h
  simp only [decC, Option.bind_eq_some_iff, Option.some.injEq] at h'
  obtain ⟨op, h0, n, h1, a, h2, v, h3, l, h4, f, h5, ks, h6, rfl⟩ := h'
  have hk := decK_le y6 ks h6
  rw [encCs_enc] at hk
  exact .cons (Cod.le _ _ h0) (.cons (Cod.le _ _ h1) (.cons (Cod.le _ _ h2) (.cons (Cod.le _ _ h3) (.cons (Cod.le _ _ h4) (.cons (Cod.le _ _ h5) (.cons hk .nil))))))
theorem LeL.append {a b c d : List D} (h : LeL a b) (k : LeL c d) : LeL (a ++ c) (b ++ d) := by
  refine ⟨by simp [h.1, k.1], fun i x y hx hy => ?_⟩
  rw [List.getElem?_append] at hx hy
  by_cases hi : i < a.length
  · rw [if_pos hi] at hx
    rw [if_pos (by rw [← h.1]; exact hi)] at hy
    exact h.2 i x y hx hy
  · rw [if_neg hi] at hx
    rw [if_neg (by rw [← h.1]; exact hi), ← h.1] at hy
    exact k.2 _ x y hx hy
mutual
theorem decP_le : ∀ (d : D) (c : Pat), decP d = some c → FrzTo noH d (encP c)
  | .agg [x0, y0, y1, y2, y3, y4, y5, y6, x1, x2, x3, x4, x5], c, h => by
    simp only [decP, Option.bind_eq_some_iff, Option.some.injEq] at h
    obtain ⟨op, h0, c, h1, l, h2, r, h3, mn, h4, mx, h5, ks, h6, rfl⟩ := h
    rw [encP]
    exact LeL.agg (.cons (Cod.le _ _ h0) ((dec_condL h1).append (.cons (Cod.le _ _ h2) (.cons (Cod.le _ _ h3) (.cons (Cod.le _ _ h4) (.cons (Cod.le _ _ h5) (.cons (decPK_le x5 ks h6) .nil)))))))
theorem decPK_le : ∀ (d : D) (l : List Pat), decPK d = some l → FrzTo noH d (.list 13 (encPs l))
  | .list n es, l, h => by
    simp only [decPK] at h
    split at h
    · rename_i hn
      subst hn
      have hl := decPs_le es l h
      refine .list hl.1 (fun e he => ?_) hl.2
      rw [encPs_map] at he
      obtain ⟨x, hx, rfl⟩ := List.mem_map.1 he
      exact ⟨encP_kn x, encP_wid x⟩
    · cases h
  | .v (.slice none 0 0), l, h => by
    simp only [decPK, Option.some.injEq] at h
    subst h
    exact .nil _
theorem decPs_le : ∀ (es : List D) (l : List Pat), decPs es = some l → LeL es (encPs l)
  | [], l, h => by
    simp only [decPs, Option.some.injEq] at h
    subst h
    exact .nil
  | d :: ds, l, h => by
    simp only [decPs, Option.bind_eq_some_iff, Option.some.injEq] at h
    obtain ⟨x, h1, xs, h2, rfl⟩ := h
    rw [encPs]
    exact .cons (decP_le d x h1) (decPs_le ds xs h2)
end
instance : Cod Pat where
  wd := 13
  enc := encP
  dec := decP
  kn := encP_kn
  wid := encP_wid
  dec_enc := decP_enc
  le := decP_le
theorem encPs_enc (ks : List Pat) : D.list 13 (encPs ks) = enc ks := by rw [encPs_map]; rfl
theorem enc_pat (op : Int) (c : Cond) (l r : B) (mn mx : Int) (ks : List Pat) : enc (Pat.mk op c l r mn mx ks) = .agg (enc op :: (cellsC c ++ [enc l, enc r, enc mn, enc mx, enc ks])) := by
  rw [← encPs_enc]
  show encP _ = _
  rw [encP]

theorem decCs_mapM : ∀ es : List D, decCs es = es.mapM (dec (X := Cond))
  | [] => by simp [decCs]
  | d :: es => by
    rw [decCs, List.mapM_cons, decCs_mapM es]
    rfl
theorem decK_eq : ∀ d : D, decK d = dec (X := List Cond) d := fun d => by
  unfold decK
  split
  · rename_i n es
    show _ = if n = 7 then es.mapM (dec (X := Cond)) else none
    rw [decCs_mapM]
  · rfl
  · rename_i h1 h2
    show _ = (match d with
      | .list n es => if n = 7 then es.mapM (dec (X := Cond)) else none
      | .v (.slice none 0 0) => some []
      | _ => none)
    split
    · exact absurd rfl (h1 _ _)
    · exact absurd rfl h2
    · rfl
theorem decPs_mapM : ∀ es : List D, decPs es = es.mapM (dec (X := Pat))
  | [] => by simp [decPs]
  | d :: es => by
    rw [decPs, List.mapM_cons, decPs_mapM es]
    rfl
theorem decPK_eq : ∀ d : D, decPK d = dec (X := List Pat) d := fun d => by
  unfold decPK
  split
  · rename_i n es
    show _ = if n = 13 then es.mapM (dec (X := Pat)) else none
    rw [decPs_mapM]
  · rfl
  · rename_i h1 h2
    show _ = (match d with
      | .list n es => if n = 13 then es.mapM (dec (X := Pat)) else none
      | .v (.slice none 0 0) => some []
      | _ => none)
    split
    · exact absurd rfl (h1 _ _)
    · exact absurd rfl h2
    · rfl
@[simp] theorem eta_Cond (s : Cond) : Cond.mk s.op s.name s.arg s.val s.lab s.fold s.kids = s := by cases s; rfl
@[simp] theorem enc_Cond (s : Cond) : enc s = .agg [enc s.op, enc s.name, enc s.arg, enc s.val, enc s.lab, enc s.fold, enc s.kids] := by cases s; exact enc_cond ..
@[simp] theorem wd_Cond : Cod.wd Cond = 7 := id rfl
@[simp] theorem dec_Cond (x0 x1 x2 x3 x4 x5 x6 : D) : dec (X := Cond) (.agg [x0, x1, x2, x3, x4, x5, x6]) = ((dec x0).bind fun x0 => (dec x1).bind fun x1 => (dec x2).bind fun x2 => (dec x3).bind fun x3 => (dec x4).bind fun x4 => (dec x5).bind fun x5 => (dec x6).bind fun x6 => some ⟨x0, x1, x2, x3, x4, x5, x6⟩) := by
  show decC _ = _
  simp only [decC, decK_eq]
@[simp] theorem eta_Pat (s : Pat) : Pat.mk s.op s.cond s.lab s.reg s.mn s.mx s.kids = s := by cases s; rfl
@[simp] theorem enc_Pat (s : Pat) : enc s = .agg [enc s.op, enc s.cond.op, enc s.cond.name, enc s.cond.arg, enc s.cond.val, enc s.cond.lab, enc s.cond.fold, enc s.cond.kids, enc s.lab, enc s.reg, enc s.mn, enc s.mx, enc s.kids] := by
  obtain ⟨op, ⟨a, b, c, d, e, f, g⟩, l, r, mn, mx, ks⟩ := s
  exact enc_pat ..
@[simp] theorem wd_Pat : Cod.wd Pat = 13 := id rfl
@[simp] theorem dec_Pat (x0 y0 y1 y2 y3 y4 y5 y6 x1 x2 x3 x4 x5 : D) : dec (X := Pat) (.agg [x0, y0, y1, y2, y3, y4, y5, y6, x1, x2, x3, x4, x5]) =
    ((dec x0).bind fun x0 => (dec y0).bind fun y0 => (dec y1).bind fun y1 => (dec y2).bind fun y2 => (dec y3).bind fun y3 => (dec y4).bind fun y4 => (dec y5).bind fun y5 => (dec y6).bind fun y6 =>
      (dec x1).bind fun x1 => (dec x2).bind fun x2 => (dec x3).bind fun x3 => (dec x4).bind fun x4 => (dec x5).bind fun x5 => some ⟨x0, ⟨y0, y1, y2, y3, y4, y5, y6⟩, x1, x2, x3, x4, x5⟩) := by
  show decP _ = _
  simp only [decP, decPK_eq, dec_Cond, Option.bind_assoc, Option.bind_some]
end Go.Gv

namespace Go.Gv
set_option linter.unusedSimpArgs false
set_option linter.unusedVariables false

theorem take_snoc {α : Type} {l : List α} {k : Nat} {a : α} (h : l[k]? = some a) : l.take (k + 1) = l.take k ++ [a] := by
  rw [List.take_add_one, h]; rfl
theorem drop_cons_of {α : Type} {l : List α} {k : Nat} {a : α} (h : l[k]? = some a) : l.drop k = a :: l.drop (k + 1) := by
  obtain ⟨hk, rfl⟩ := List.getElem?_eq_some_iff.1 h
  exact List.drop_eq_getElem_cons hk
theorem mem_at {α : Type} {l : List α} {k : Nat} {a : α} (h : l[k]? = some a) : a ∈ l := List.mem_of_getElem? h
theorem at_lt {α : Type} {l : List α} {k : Nat} (h : k < l.length) : ∃ a, l[k]? = some a := ⟨l[k], List.getElem?_eq_getElem h⟩

/-! ### Strict order of spans -/
def ltS (a b : Span) : Prop := a.b < b.b ∨ a.b = b.b ∧ a.e < b.e
instance (a b : Span) : Decidable (ltS a b) := by unfold ltS; infer_instance
theorem ltS_irr (a : Span) : ¬ ltS a a := by unfold ltS; omega
theorem Span.ext' {a b : Span} (h : a.b = b.b) (k : a.e = b.e) : a = b := by cases a; cases b; simp at h k; simp [h, k]
/-- A list in strict order. -/
def SS (l : List Span) : Prop := l.Pairwise ltS
theorem SS.nil : SS [] := List.Pairwise.nil
/-- r is the list, in order, of what is in l. -/
def IsNorm (l r : List Span) : Prop := SS r ∧ ∀ x, x ∈ r ↔ x ∈ l
theorem IsNorm.nil : IsNorm [] [] := ⟨SS.nil, fun _ => Iff.rfl⟩
theorem IsNorm.congr {l l' r : List Span} (h : IsNorm l r) (hl : ∀ x, x ∈ l ↔ x ∈ l') : IsNorm l' r := ⟨h.1, fun x => (h.2 x).trans (hl x)⟩
theorem ss_len : ∀ {r l : List Span}, SS r → (∀ x ∈ r, x ∈ l) → r.length ≤ l.length
  | [], l, _, _ => Nat.zero_le _
  | x :: r, l, h, hl => by
    have h' := List.pairwise_cons.1 h
    have hx := hl x (by simp)
    have := ss_len (l := l.erase x) h'.2 fun y hy => (List.mem_erase_of_ne (fun (e : y = x) => ltS_irr x (by have := h'.1 y hy; rwa [e] at this))).2 (hl y (by simp [hy]))
    rw [List.length_erase_of_mem hx] at this
    have := List.length_pos_of_mem hx
    simp; omega
theorem IsNorm.len {l r : List Span} (h : IsNorm l r) : r.length ≤ l.length := ss_len h.1 fun x hx => (h.2 x).1 hx
theorem IsNorm.same {l l' r : List Span} (h : IsNorm l r) (hl : ∀ x, x ∈ l' ↔ x ∈ l) : IsNorm l' r := ⟨h.1, fun x => (h.2 x).trans (hl x).symm⟩

/-! ### Where something stands in a list -/
def idxI {X : Type} : List X → (X → Bool) → Int
  | [], _ => -1
  | x :: l, p => if p x then 0 else if idxI l p < 0 then -1 else idxI l p + 1
theorem idxI_none {X : Type} {p : X → Bool} : ∀ {l : List X}, (∀ y ∈ l, p y = false) → idxI l p = -1
  | [], _ => rfl
  | x :: l, h => by
    have := idxI_none (l := l) (fun y hy => h y (by simp [hy]))
    simp [idxI, h x (by simp), this]
theorem idxI_at {X : Type} {p : X → Bool} : ∀ {l : List X} {k : Nat} {x : X}, l[k]? = some x → p x = true → (∀ y ∈ l.take k, p y = false) → idxI l p = k
  | [], k, x, hx, _, _ => by simp at hx
  | z :: l, 0, x, hx, hp, _ => by
    simp at hx
    subst hx
    simp [idxI, hp]
  | z :: l, k + 1, x, hx, hp, hb => by
    have hz := hb z (by simp)
    have ih := idxI_at (l := l) (k := k) (by simpa using hx) hp (fun y hy => hb y (by simp [hy]))
    simp [idxI, hz, ih]
    omega
theorem idxI_cases {X : Type} (p : X → Bool) (l : List X) : (idxI l p = -1 ∧ ∀ y ∈ l, p y = false) ∨ ∃ k x, idxI l p = (k : Nat) ∧ l[k]? = some x ∧ p x = true ∧ ∀ y ∈ l.take k, p y = false := by
  induction l with
  | nil => exact .inl ⟨rfl, by simp⟩
  | cons z l ih =>
    by_cases hz : p z = true
    · exact .inr ⟨0, z, by simp [idxI, hz], by simp, hz, by simp⟩
    · have hz : p z = false := by simpa using hz
      rcases ih with ⟨h1, h2⟩ | ⟨k, x, h1, h2, h3, h4⟩
      · refine .inl ⟨by simp [idxI, hz, h1], fun y hy => ?_⟩
        rcases List.mem_cons.1 hy with rfl | hy
        · exact hz
        · exact h2 y hy
      · refine .inr ⟨k + 1, x, ?_, by simpa using h2, h3, fun y hy => ?_⟩
        · simp [idxI, hz, h1]; omega
        · rw [List.take_succ_cons] at hy
          rcases List.mem_cons.1 hy with rfl | hy
          · exact hz
          · exact h4 y hy
theorem idxI_ge {X : Type} (p : X → Bool) (l : List X) : decide (0 ≤ idxI l p) = l.any p := by
  rcases idxI_cases p l with ⟨h1, h2⟩ | ⟨k, x, h1, h2, h3, h4⟩
  · have : l.any p = false := by simpa using h2
    rw [h1, this]; rfl
  · have : l.any p = true := List.any_eq_true.2 ⟨x, mem_at h2, h3⟩
    rw [h1, this]; simp
theorem SS.filter {l : List Span} (h : SS l) (p : Span → Bool) : SS (l.filter p) := List.Pairwise.filter p h
theorem IsNorm.filter {l r : List Span} (h : IsNorm l r) (p : Span → Bool) : IsNorm (l.filter p) (r.filter p) := ⟨h.1.filter p, fun x => by simp [h.2 x]⟩
end Go.Gv

namespace Go.Gv
set_option linter.unusedSimpArgs false

instance : Inhabited Cond := ⟨⟨0, ⟨#[]⟩, ⟨#[]⟩, ⟨#[]⟩, ⟨#[]⟩, false, []⟩⟩
instance : Inhabited Pat := ⟨⟨0, default, ⟨#[]⟩, ⟨#[]⟩, 0, 0, []⟩⟩
/-- The condition without fields. -/
def Cond0 : Cond := ⟨0, ⟨#[]⟩, ⟨#[]⟩, ⟨#[]⟩, ⟨#[]⟩, false, []⟩

mutual
def pDep : Pat → Nat | .mk _ _ _ _ _ _ ks => pDeps ks + 1
def pDeps : List Pat → Nat | [] => 0 | k :: ks => max (pDep k) (pDeps ks)
end
mutual
def cDep : Cond → Nat | .mk _ _ _ _ _ _ ks => cDeps ks + 1
def cDeps : List Cond → Nat | [] => 0 | k :: ks => max (cDep k) (cDeps ks)
end
mutual
def pNum : Pat → Nat | .mk _ _ _ _ _ _ ks => pNums ks + 1
def pNums : List Pat → Nat | [] => 0 | k :: ks => pNum k + pNums ks
end
theorem pDep_eq (p : Pat) : pDep p = pDeps p.kids + 1 := by cases p; rw [pDep]
theorem cDep_eq (p : Cond) : cDep p = cDeps p.kids + 1 := by cases p; rw [cDep]
theorem pNum_eq (p : Pat) : pNum p = pNums p.kids + 1 := by cases p; rw [pNum]
theorem pDeps_mem {k : Pat} : ∀ {ks : List Pat}, k ∈ ks → pDep k ≤ pDeps ks
  | a :: ks, h => by
    rw [pDeps]
    rcases List.mem_cons.1 h with rfl | h
    · omega
    · have := pDeps_mem h; omega
theorem cDeps_mem {k : Cond} : ∀ {ks : List Cond}, k ∈ ks → cDep k ≤ cDeps ks
  | a :: ks, h => by
    rw [cDeps]
    rcases List.mem_cons.1 h with rfl | h
    · omega
    · have := cDeps_mem h; omega
theorem pDep_kid {p k : Pat} (h : k ∈ p.kids) : pDep k < pDep p := by have := pDeps_mem h; rw [pDep_eq p]; omega
theorem cDep_kid {p k : Cond} (h : k ∈ p.kids) : cDep k < cDep p := by have := cDeps_mem h; rw [cDep_eq p]; omega
/-- What holds of a pattern if it does so whenever it holds of its kids, holds of all. -/
theorem pat_ind {C : Pat → Prop} (h : ∀ p, (∀ k ∈ p.kids, C k) → C p) (p : Pat) : C p := by
  generalize hn : pDep p = n
  induction n using Nat.strongRecOn generalizing p with
  | _ n ih => exact h p fun k hk => ih (pDep k) (by rw [← hn]; exact pDep_kid hk) k rfl
/-! ### All nodes -/
mutual
def everyB (f : Pat → Bool) : Pat → Bool | .mk op c l r mn mx ks => f ⟨op, c, l, r, mn, mx, ks⟩ && everyBs f ks
def everyBs (f : Pat → Bool) : List Pat → Bool | [] => true | k :: ks => everyB f k && everyBs f ks
end
theorem everyBs_eq (f : Pat → Bool) : ∀ ks : List Pat, everyBs f ks = ks.all (everyB f)
  | [] => by rw [everyBs]; rfl
  | k :: ks => by rw [everyBs, everyBs_eq f ks, List.all_cons]
theorem everyB_eq (f : Pat → Bool) (p : Pat) : everyB f p = (f p && p.kids.all (everyB f)) := by cases p; rw [everyB, everyBs_eq]
mutual
def shallowB : Pat → Int → Bool | .mk _ _ _ _ _ _ ks, d => decide (d ≤ 100) && shallowBs ks (d + 1)
def shallowBs : List Pat → Int → Bool | [], _ => true | k :: ks, d => shallowB k d && shallowBs ks d
end
theorem shallowBs_eq (d : Int) : ∀ ks : List Pat, shallowBs ks d = ks.all (shallowB · d)
  | [] => by rw [shallowBs]; rfl
  | k :: ks => by rw [shallowBs, shallowBs_eq d ks, List.all_cons]
theorem shallowB_eq (p : Pat) (d : Int) : shallowB p d = (decide (d ≤ 100) && p.kids.all (shallowB · (d + 1))) := by cases p; rw [shallowB, shallowBs_eq]
theorem shallow_mono (p : Pat) : ∀ d d' : Int, d' ≤ d → shallowB p d = true → shallowB p d' = true := by
  induction p using pat_ind with | _ p ih => ?_
  intro d d' h
  rw [shallowB_eq, shallowB_eq]
  simp only [Bool.and_eq_true, decide_eq_true_eq, List.all_eq_true]
  exact fun ⟨h1, h2⟩ => ⟨by omega, fun k hk => ih k hk (d + 1) (d' + 1) (by omega) (h2 k hk)⟩

def NodeOk (p : Pat) : Prop := (p.op = 1 ∧ p.reg = ⟨#[]⟩ ∧ p.mn = 0 ∧ p.mx = 0 ∧ p.kids = []) ∨
  ((p.op = 2 ∨ p.op = 3) ∧ p.cond = Cond0 ∧ p.lab = ⟨#[]⟩ ∧ p.mn = 0 ∧ p.mx = 0 ∧ p.kids = []) ∨
  ((p.op = 4 ∨ p.op = 5) ∧ p.cond = Cond0 ∧ p.lab = ⟨#[]⟩ ∧ p.reg = ⟨#[]⟩ ∧ p.mn = 0 ∧ p.mx = 0 ∧ 2 ≤ p.kids.length) ∨
  (p.op = 6 ∧ p.cond = Cond0 ∧ p.lab = ⟨#[]⟩ ∧ p.reg = ⟨#[]⟩ ∧ p.kids.length = 1)
noncomputable def nodeB (p : Pat) : Bool := @decide (NodeOk p) (Classical.propDecidable _)
theorem nodeB_iff (p : Pat) : nodeB p = true ↔ NodeOk p := @decide_eq_true_iff (NodeOk p) (Classical.propDecidable _)
/-- The numbers of a repetition. -/
def numB (p : Pat) : Bool := decide (p.op = 6 → 0 ≤ p.mn ∧ p.mn ≤ 16 ∧ (p.mx = -1 ∨ p.mn ≤ p.mx ∧ p.mx ≤ 16))
/-- The names of a node (v: the names that are valid). -/
def nameB (v : B → Bool) (p : Pat) : Bool := decide (((p.op = 2 ∨ p.op = 3) → v p.reg = true) ∧ (p.lab ≠ ⟨#[]⟩ → v p.lab = true))
noncomputable def patB (v : B → Bool) (p : Pat) : Bool := shallowB p 1 && everyB nodeB p && everyB (nameB v) p && everyB numB p

theorem patB_kid {v : B → Bool} {p k : Pat} (h : patB v p = true) (hk : k ∈ p.kids) : patB v k = true := by
  unfold patB at *
  rw [everyB_eq, everyB_eq, everyB_eq numB, shallowB_eq] at h
  simp only [Bool.and_eq_true, List.all_eq_true] at h
  obtain ⟨⟨⟨⟨_, h1⟩, _, h2⟩, _, h3⟩, _, h4⟩ := h
  rw [h2 k hk, h3 k hk, h4 k hk, shallow_mono k _ 1 (by omega) (h1 k hk)]
  rfl
theorem patB_node {v : B → Bool} {p : Pat} (h : patB v p = true) : nodeB p = true ∧ nameB v p = true ∧ numB p = true := by
  unfold patB at *
  rw [everyB_eq, everyB_eq, everyB_eq numB] at h
  simp only [Bool.and_eq_true] at h
  exact ⟨h.1.1.2.1, h.1.2.1, h.2.1⟩

/-! ### Sizes, widths, leaves -/
def sizeN (p : Pat) (n : Int) : Int := if p.kids = [] then 1 else if p.op = 6 then (if p.mx = -1 then min (n * (p.mn + 1)) 1000 else if p.mx = 0 then n else min (n * p.mx) 1000) else n
mutual
def sizeP : Pat → Int | .mk op c l r mn mx ks => sizeN ⟨op, c, l, r, mn, mx, ks⟩ (sizePs ks 0)
def sizePs : List Pat → Int → Int | [], n => n | k :: ks, n => sizePs ks (min (n + sizeP k) 1000)
end
theorem sizeP_eq (p : Pat) : sizeP p = sizeN p (sizePs p.kids 0) := by cases p; rw [sizeP]
theorem sizePs_app (a b : List Pat) (n : Int) : sizePs (a ++ b) n = sizePs b (sizePs a n) := by
  induction a generalizing n with
  | nil => rfl
  | cons k a ih => simp only [List.cons_append, sizePs]; exact ih _

mutual
def leavesP : Pat → List Pat | .mk op c l r mn mx ks => if op = 1 then [⟨op, c, l, r, mn, mx, ks⟩] else leavesPs ks
def leavesPs : List Pat → List Pat | [] => [] | k :: ks => leavesP k ++ leavesPs ks
end
theorem leavesPs_eq : ∀ ks : List Pat, leavesPs ks = ks.flatMap leavesP
  | [] => by rw [leavesPs]; rfl
  | k :: ks => by rw [leavesPs, leavesPs_eq ks, List.flatMap_cons]
theorem leavesP_eq (p : Pat) : leavesP p = if p.op = 1 then [p] else p.kids.flatMap leavesP := by cases p; rw [leavesP, leavesPs_eq]
theorem leavesP_le (p : Pat) : (leavesP p).length ≤ pNum p := by
  induction p using pat_ind with | _ p ih => ?_
  rw [leavesP_eq, pNum_eq]
  split
  · simp
  · have : ∀ ks : List Pat, (∀ k ∈ ks, (leavesP k).length ≤ pNum k) → (ks.flatMap leavesP).length ≤ pNums ks := by
      intro ks
      induction ks with
      | nil => intro _; simp [pNums]
      | cons k ks ih =>
        intro h
        rw [List.flatMap_cons, List.length_append, pNums]
        have h1 := h k (by simp)
        have h2 := ih fun x hx => h x (by simp [hx])
        omega
    have := this p.kids ih
    omega

theorem sizePs_rng : ∀ (ks : List Pat) (n : Int), 0 ≤ n → n ≤ 1000 → (∀ k ∈ ks, 0 ≤ sizeP k) → 0 ≤ sizePs ks n ∧ sizePs ks n ≤ 1000
  | [], n, h0, h1, _ => by rw [sizePs]; exact ⟨h0, h1⟩
  | k :: ks, n, h0, h1, h => by
    rw [sizePs]
    have := h k (by simp)
    exact sizePs_rng ks _ (by omega) (by omega) fun x hx => h x (by simp [hx])
theorem sizeP_rng {v : B → Bool} (p : Pat) : patB v p = true → 0 ≤ sizeP p ∧ sizeP p ≤ 1000 := by
  induction p using pat_ind with | _ p ih => ?_
  intro h
  have hk := sizePs_rng p.kids 0 (by omega) (by omega) fun k hk => (ih k hk (patB_kid h hk)).1
  have hn := (patB_node h).2.2
  unfold numB at hn
  rw [decide_eq_true_eq] at hn
  rw [sizeP_eq]
  generalize sizePs p.kids 0 = n at hk
  unfold sizeN
  split
  · omega
  · split
    · rename_i h6
      have hn := hn h6
      split
      · have : 0 ≤ n * (p.mn + 1) := Int.mul_nonneg hk.1 (by omega)
        omega
      · split
        · exact hk
        · have : 0 ≤ n * p.mx := Int.mul_nonneg hk.1 (by omega)
          omega
    · exact hk
end Go.Gv

namespace Go.Gv
set_option linter.unusedSimpArgs false
set_option linter.unusedVariables false

/-! ### Generated patterns -/
def b_s : B := ⟨#[115]⟩
def b_np : B := ⟨#[110, 112]⟩
def b_t : B := ⟨#[116]⟩
def b_x : B := ⟨#[120]⟩
def b_y : B := ⟨#[121]⟩
def Types : List B := [b_s, b_np, b_t]
def Reps : List (Int × Int) := [(0, 1), (0, -1), (1, -1), (2, 2), (0, 2), (1, 3), (0, 0)]
/-- A leaf of a generated pattern. -/
def WP0 (lb : List B) (p : Pat) : Prop := (p.op = 1 ∧ (p.lab = ⟨#[]⟩ ∨ p.lab ∈ lb) ∧ p.reg = ⟨#[]⟩ ∧ p.mn = 0 ∧ p.mx = 0 ∧ p.kids = []) ∨ ((p.op = 2 ∨ p.op = 3) ∧ p.cond = Cond0 ∧ p.lab = ⟨#[]⟩ ∧ p.reg ∈ Types ∧ p.mn = 0 ∧ p.mx = 0 ∧ p.kids = [])
/-- A pattern that was generated, of at most n levels above the leaves. -/
def WP (lb : List B) : Nat → Pat → Prop
  | 0, p => WP0 lb p
  | n + 1, p => WP0 lb p ∨ ((p.op = 4 ∨ p.op = 5) ∧ p.cond = Cond0 ∧ p.lab = ⟨#[]⟩ ∧ p.reg = ⟨#[]⟩ ∧ p.mn = 0 ∧ p.mx = 0 ∧ ∃ a b, p.kids = [a, b] ∧ WP lb n a ∧ WP lb n b) ∨
    (p.op = 6 ∧ p.cond = Cond0 ∧ p.lab = ⟨#[]⟩ ∧ p.reg = ⟨#[]⟩ ∧ (p.mn, p.mx) ∈ Reps ∧ ∃ a, p.kids = [a] ∧ WP lb n a)
theorem wp0 {lb : List B} {n : Nat} {p : Pat} (h : WP0 lb p) : WP lb n p := by
  cases n
  · exact h
  · exact .inl h
/-- The labels that a generated pattern may bind. -/
def LabOk (lb : List B) : Prop := ∀ l ∈ lb, l = b_x ∨ l = b_y
theorem wp_cases {lb : List B} {n : Nat} {p : Pat} (h : WP lb n p) : WP0 lb p ∨ ∃ m, n = m + 1 ∧ (((p.op = 4 ∨ p.op = 5) ∧ p.cond = Cond0 ∧ p.lab = ⟨#[]⟩ ∧ p.reg = ⟨#[]⟩ ∧ p.mn = 0 ∧ p.mx = 0 ∧ ∃ a b, p.kids = [a, b] ∧ WP lb m a ∧ WP lb m b) ∨
    (p.op = 6 ∧ p.cond = Cond0 ∧ p.lab = ⟨#[]⟩ ∧ p.reg = ⟨#[]⟩ ∧ (p.mn, p.mx) ∈ Reps ∧ ∃ a, p.kids = [a] ∧ WP lb m a)) := by
  cases n with
  | zero => exact .inl h
  | succ m => exact h.elim .inl fun h => .inr ⟨m, rfl, h⟩
theorem wp_ind {lb : List B} {C : Nat → Pat → Prop} (h : ∀ n p, WP lb n p → (∀ k ∈ p.kids, ∃ m, n = m + 1 ∧ WP lb m k ∧ C m k) → C n p) : ∀ n p, WP lb n p → C n p := by
  intro n
  induction n with
  | zero =>
    intro p hp
    refine h 0 p hp fun k hk => ?_
    rcases hp with hp | hp
    · rw [hp.2.2.2.2.2] at hk; simp at hk
    · rw [hp.2.2.2.2.2.2] at hk; simp at hk
  | succ m ih =>
    intro p hp
    refine h (m + 1) p hp fun k hk => ⟨m, rfl, ?_⟩
    have : WP lb m k := by
      rcases hp with (hp | hp) | hp | hp
      · rw [hp.2.2.2.2.2] at hk; simp at hk
      · rw [hp.2.2.2.2.2.2] at hk; simp at hk
      · obtain ⟨a, b, e, ha, hb⟩ := hp.2.2.2.2.2.2
        rw [e] at hk
        simp at hk
        rcases hk with rfl | rfl
        · exact ha
        · exact hb
      · obtain ⟨a, e, ha⟩ := hp.2.2.2.2.2
        rw [e] at hk
        simp at hk
        subst hk
        exact ha
    exact ⟨this, ih k this⟩
theorem wp_patB {v : B → Bool} {lb : List B} (hl : LabOk lb) (hv : v b_s = true ∧ v b_np = true ∧ v b_t = true ∧ v b_x = true ∧ v b_y = true) : ∀ n p, WP lb n p → n ≤ 90 → patB v p = true := by
  have key : ∀ n p, WP lb n p → (n ≤ 90 → ∀ d : Int, d + n ≤ 100 → shallowB p d = true) ∧ everyB nodeB p = true ∧ everyB (nameB v) p = true ∧ everyB numB p = true := by
    refine wp_ind fun n p hp ih => ?_
    have hnode : nodeB p = true ∧ nameB v p = true ∧ numB p = true := by
      rw [nodeB_iff]
      unfold NodeOk nameB numB
      rw [decide_eq_true_eq, decide_eq_true_eq]
      have hr : (p.mn, p.mx) ∈ Reps → 0 ≤ p.mn ∧ p.mn ≤ 16 ∧ (p.mx = -1 ∨ p.mn ≤ p.mx ∧ p.mx ≤ 16) := by
        intro h
        simp [Reps] at h
        omega
      have ht : p.reg ∈ Types → v p.reg = true := by
        intro h
        simp [Types] at h
        rcases h with h | h | h <;> rw [h]
        · exact hv.1
        · exact hv.2.1
        · exact hv.2.2.1
      rcases wp_cases hp with (⟨h1, h2, h3, h4, h5, h6⟩ | ⟨h1, h2, h3, h4, h5, h6, h7⟩) | ⟨m, _, (⟨h1, h2, h3, h4, h5, h6, a, b, h7, _⟩ | ⟨h1, h2, h3, h4, h5, a, h7, _⟩)⟩
      · refine ⟨.inl ⟨h1, h3, h4, h5, h6⟩, ⟨fun h => by omega, fun hne => ?_⟩, fun h => by omega⟩
        rcases h2 with h2 | h2
        · exact absurd h2 hne
        · rcases hl _ h2 with h | h <;> rw [h]
          · exact hv.2.2.2.1
          · exact hv.2.2.2.2
      · exact ⟨.inr (.inl ⟨h1, h2, h3, h5, h6, h7⟩), ⟨fun _ => ht h4, fun h => absurd h3 h⟩, fun h => by omega⟩
      · exact ⟨.inr (.inr (.inl ⟨h1, h2, h3, h4, h5, h6, by rw [h7]; simp⟩)), ⟨fun h => by omega, fun h => absurd h3 h⟩, fun h => by omega⟩
      · exact ⟨.inr (.inr (.inr ⟨h1, h2, h3, h4, by rw [h7]; simp⟩)), ⟨fun h => by omega, fun h => absurd h3 h⟩, fun _ => hr h5⟩
    refine ⟨fun hn d hd => ?_, ?_, ?_, ?_⟩
    · rw [shallowB_eq, Bool.and_eq_true, decide_eq_true_eq, List.all_eq_true]
      refine ⟨by omega, fun k hk => ?_⟩
      obtain ⟨m, e, _, h, _⟩ := ih k hk
      exact h (by omega) _ (by omega)
    · rw [everyB_eq, Bool.and_eq_true, List.all_eq_true]
      exact ⟨hnode.1, fun k hk => by obtain ⟨m, e, _, h⟩ := ih k hk; exact h.2.1⟩
    · rw [everyB_eq, Bool.and_eq_true, List.all_eq_true]
      exact ⟨hnode.2.1, fun k hk => by obtain ⟨m, e, _, h⟩ := ih k hk; exact h.2.2.1⟩
    · rw [everyB_eq, Bool.and_eq_true, List.all_eq_true]
      exact ⟨hnode.2.2, fun k hk => by obtain ⟨m, e, _, h⟩ := ih k hk; exact h.2.2.2⟩
  intro n p hp hn
  obtain ⟨h1, h2, h3, h4⟩ := key n p hp
  unfold patB
  rw [h1 hn 1 (by omega), h2, h3, h4]
  rfl
/-- Sizes of generated patterns. -/
theorem wp_size {lb : List B} : ∀ n p, WP lb n p → n ≤ 5 → 1 ≤ sizeP p ∧ sizeP p ≤ 3 ^ n ∧ pNum p + 1 ≤ 2 ^ (n + 1) := by
  refine wp_ind fun n p hp ih hn => ?_
  have hb : (1 : Int) ≤ 3 ^ n ∧ 1 ≤ 2 ^ n := ⟨Int.pow_pos (by omega), Nat.one_le_two_pow⟩
  rcases wp_cases hp with (⟨h1, h2, h3, h4, h5, h6⟩ | ⟨h1, h2, h3, h4, h5, h6, h7⟩) | ⟨m, rfl, (⟨h1, h2, h3, h4, h5, h6, a, b, h7, _⟩ | ⟨h1, h2, h3, h4, h5, a, h7, _⟩)⟩
  · rw [sizeP_eq, sizeN, if_pos h6, pNum_eq, h6, pNums, Nat.pow_succ]; omega
  · rw [sizeP_eq, sizeN, if_pos h7, pNum_eq, h7, pNums, Nat.pow_succ]; omega
  · obtain ⟨m1, e1, _, a1⟩ := ih a (by rw [h7]; simp)
    obtain ⟨m2, e2, _, a2⟩ := ih b (by rw [h7]; simp)
    have e1 : m1 = m := by omega
    have e2 : m2 = m := by omega
    subst e1; subst e2
    have a1 := a1 (by omega)
    have a2 := a2 (by omega)
    rw [sizeP_eq, sizeN, if_neg (by rw [h7]; simp), if_neg (by omega), pNum_eq, h7]
    simp only [sizePs, pNums]
    rw [Int.pow_succ, Nat.pow_succ]
    rw [Nat.pow_succ] at a1 a2 ⊢
    have h2 : (0 : Int) ≤ 3 ^ m2 := by omega
    have : (3 : Int) ^ m2 ≤ 243 := by
      have : m2 = 0 ∨ m2 = 1 ∨ m2 = 2 ∨ m2 = 3 ∨ m2 = 4 := by omega
      rcases this with rfl | rfl | rfl | rfl | rfl <;> decide
    omega
  · obtain ⟨m1, e1, _, a1⟩ := ih a (by rw [h7]; simp)
    have e1 : m1 = m := by omega
    subst e1
    have a1 := a1 (by omega)
    rw [sizeP_eq, sizeN, if_neg (by rw [h7]; simp), if_pos h1, pNum_eq, h7]
    simp only [sizePs, pNums]
    rw [Int.pow_succ, Nat.pow_succ]
    rw [Nat.pow_succ] at a1 ⊢
    have : (3 : Int) ^ m1 ≤ 243 := by
      have : m1 = 0 ∨ m1 = 1 ∨ m1 = 2 ∨ m1 = 3 ∨ m1 = 4 := by omega
      rcases this with rfl | rfl | rfl | rfl | rfl <;> decide
    simp only [Reps, List.mem_cons, Prod.mk.injEq, List.not_mem_nil, or_false] at h5
    rw [show min (0 + sizeP a) 1000 = sizeP a by omega]
    rcases h5 with ⟨e1, e2⟩ | ⟨e1, e2⟩ | ⟨e1, e2⟩ | ⟨e1, e2⟩ | ⟨e1, e2⟩ | ⟨e1, e2⟩ | ⟨e1, e2⟩ <;> rw [e1, e2] <;> simp <;> omega
end Go.Gv

namespace Go.Gv
set_option linter.unusedSimpArgs false
theorem pNums_app (a b : List Pat) : pNums (a ++ b) = pNums a + pNums b := by
  induction a with
  | nil => simp [pNums]
  | cons k a ih => simp only [List.cons_append, pNums]; omega
end Go.Gv

namespace Go.Gv
set_option linter.unusedSimpArgs false
set_option linter.unusedVariables false
/-- A condition of at most n levels below the top, at most two kids each. -/
def CS : Nat → Cond → Prop
  | 0, c => c.kids = []
  | n + 1, c => c.kids.length ≤ 2 ∧ ∀ k ∈ c.kids, CS n k
theorem cs_nil {n : Nat} {c : Cond} (h : c.kids = []) : CS n c := by
  cases n
  · exact h
  · exact ⟨by rw [h]; exact Nat.zero_le _, fun k hk => by rw [h] at hk; simp at hk⟩
theorem cs_one {n m : Nat} {c a : Cond} (hm : n = m + 1) (h : c.kids = [a]) (ha : CS m a) : CS n c := by
  subst hm
  refine ⟨by rw [h]; exact Nat.le_succ _, fun k hk => ?_⟩
  rw [h] at hk
  have : k = a := by simpa using hk
  subst this
  exact ha
theorem cs_two {n m : Nat} {c a b : Cond} (hm : n = m + 1) (h : c.kids = [a, b]) (ha : CS m a) (hb : CS m b) : CS n c := by
  subst hm
  refine ⟨by rw [h]; exact Nat.le_refl _, fun k hk => ?_⟩
  rw [h] at hk
  have : k = a ∨ k = b := by simpa using hk
  rcases this with rfl | rfl
  · exact ha
  · exact hb
theorem cs_same {n : Nat} {c d : Cond} (h : c.kids = d.kids) (hd : CS n d) : CS n c := by
  cases n
  · exact h.trans hd
  · exact ⟨by rw [h]; exact hd.1, fun k hk => hd.2 k (by rw [← h]; exact hk)⟩
theorem cs_len {n : Nat} {c : Cond} (h : CS n c) : c.kids.length ≤ 2 := by
  cases n
  · have : c.kids = [] := h
    rw [this]; exact Nat.zero_le _
  · exact h.1
/-- A pattern of at most n levels below the top, at most two kids each, with small conditions. -/
def PD : Nat → Pat → Prop
  | 0, p => (∃ m, CS m p.cond) ∧ p.kids = []
  | n + 1, p => (∃ m, CS m p.cond) ∧ p.kids.length ≤ 2 ∧ ∀ k ∈ p.kids, PD n k
theorem pd_nil {n : Nat} {p : Pat} (hc : ∃ m, CS m p.cond) (h : p.kids = []) : PD n p := by
  cases n
  · exact ⟨hc, h⟩
  · exact ⟨hc, by rw [h]; exact Nat.zero_le _, fun k hk => by rw [h] at hk; simp at hk⟩
theorem pd_one {n m : Nat} {p a : Pat} (hm : n = m + 1) (hc : ∃ m, CS m p.cond) (h : p.kids = [a]) (ha : PD m a) : PD n p := by
  subst hm
  refine ⟨hc, by rw [h]; exact Nat.le_succ _, fun k hk => ?_⟩
  rw [h] at hk
  have : k = a := by simpa using hk
  subst this
  exact ha
theorem pd_two {n m : Nat} {p a b : Pat} (hm : n = m + 1) (hc : ∃ m, CS m p.cond) (h : p.kids = [a, b]) (ha : PD m a) (hb : PD m b) : PD n p := by
  subst hm
  refine ⟨hc, by rw [h]; exact Nat.le_refl _, fun k hk => ?_⟩
  rw [h] at hk
  have : k = a ∨ k = b := by simpa using hk
  rcases this with rfl | rfl
  · exact ha
  · exact hb
theorem cs_c0 : ∃ m, CS m Cond0 := ⟨0, rfl⟩
theorem pd_cond {n : Nat} {p : Pat} (h : PD n p) : ∃ m, CS m p.cond := by cases n <;> exact h.1
theorem pd_len {n : Nat} {p : Pat} (h : PD n p) : p.kids.length ≤ 2 := by
  cases n
  · rw [h.2]; exact Nat.zero_le _
  · exact h.2.1
theorem pd_kid {n : Nat} {p k : Pat} (h : PD n p) (hk : k ∈ p.kids) : ∃ m, n = m + 1 ∧ PD m k := by
  cases n
  · rw [h.2] at hk; simp at hk
  · exact ⟨_, rfl, h.2.2 k hk⟩
theorem cs_kid {n : Nat} {p k : Cond} (h : CS n p) (hk : k ∈ p.kids) : ∃ m, n = m + 1 ∧ CS m k := by
  cases n
  · have h : p.kids = [] := h
    rw [h] at hk; simp at hk
  · exact ⟨_, rfl, h.2 k hk⟩
end Go.Gv

namespace Go.Gv
open Go.Proofs
/-- corpora/corporamade.Mod [int, int] -> [int] -/
def cc_m_Mod : CC := .seq (.reg [ .op (some 4) none (.mv (.const (.int .i64 0)))]) (.keep [0, 1] [] (.seq (.seq (.reg [ .op (some 5) none (.mv (.tmp 1)), .op (some 6) none (.cmp .lss (.tmp 5) (.const (.int .i64 1)))]) (.keep [0, 1, 6] [] (.ite (.tmp 6) (.seq (.reg [ .op (some 4) none (.mv (.const (.int .i64 0)))]) (.keep [4] [] (.ret))) (.skip)))) (.keep [0, 1] [] (.seq (.reg [
 .op (some 7) none (.mv (.tmp 0)), .op (some 8) none (.mv (.tmp 1)), .op (some 9) none (.arith .rem (.tmp 7) (.tmp 8)), .op (some 0) none (.mv (.tmp 9))]) (.keep [0, 1] [] (.seq (.seq (.reg [ .op (some 10) none (.mv (.tmp 0)), .op (some 11) none (.cmp .lss (.tmp 10) (.const (.int .i64 0)))]) (.keep [0, 1, 11] [] (.ite (.tmp 11) (.reg [ .op (some 12) none (.mv (.tmp 0)),
 .op (some 13) none (.mv (.tmp 1)), .op (some 14) none (.arith .add (.tmp 12) (.tmp 13)), .op (some 0) none (.mv (.tmp 14))]) (.skip)))) (.keep [0] [] (.seq (.reg [ .op (some 15) none (.mv (.tmp 0)), .op (some 4) none (.mv (.tmp 15))]) (.keep [4] [] (.ret))))))))))
def rs_m_Mod : List CRes := [.tmp 4]
def im_m_Mod : List Nat := []
theorem ok_m_Mod : FnOk Tryz.prog f_m_Mod im_m_Mod cc_m_Mod rs_m_Mod 16 := fnOk1 mixed (by kernel_rfl)
/-- corpora/corporaref04.First [uint8] -> [bool] -/
def cc_r04_First : CC := .seq (.reg [ .op (some 2) none (.mv (.const (.bool false)))]) (.keep [0] [] (.seq (.reg [ .op (some 3) none (.mv (.tmp 0)), .op (some 4) none (.eql false false [.int] (.tmp 3) (.const (.int .u8 95))), .op (some 5) none (.mv (.tmp 4)), .op (some 6) (some (5, false)) (.mv (.tmp 0)), .op (some 7) (some (5, false)) (.cmp .geq (.tmp 6) (.const (.int .u8 65))),
 .op (some 8) (some (5, false)) (.mv (.tmp 7)), .op (some 9) (some (8, true)) (.mv (.tmp 0)), .op (some 10) (some (8, true)) (.cmp .leq (.tmp 9) (.const (.int .u8 90))), .op (some 11) (some (5, false)) (.pick (.tmp 8) (.tmp 10) (.const (.bool false))), .op (some 12) none (.pick (.tmp 5) (.const (.bool true)) (.tmp 11)), .op (some 13) none (.mv (.tmp 12)),
 .op (some 14) (some (13, false)) (.mv (.tmp 0)), .op (some 15) (some (13, false)) (.cmp .geq (.tmp 14) (.const (.int .u8 97))), .op (some 16) (some (13, false)) (.mv (.tmp 15)), .op (some 17) (some (16, true)) (.mv (.tmp 0)), .op (some 18) (some (16, true)) (.cmp .leq (.tmp 17) (.const (.int .u8 122))), .op (some 19) (some (13, false)) (.pick (.tmp 16) (.tmp 18) (.const (.bool false))),
 .op (some 20) none (.pick (.tmp 13) (.const (.bool true)) (.tmp 19)), .op (some 2) none (.mv (.tmp 20))]) (.keep [2] [] (.ret))))
def rs_r04_First : List CRes := [.tmp 2]
def im_r04_First : List Nat := []
theorem ok_r04_First : FnOk Tryz.prog f_r04_First im_r04_First cc_r04_First rs_r04_First 21 := fnOk1 mixed (by kernel_rfl)
/-- corpora/corporaref04.Next [uint8] -> [bool] -/
def cc_r04_Next : CC := .seq (.reg [ .op (some 2) none (.mv (.const (.bool false)))]) (.keep [0] [] (.seq (.reg [ .op (some 3) none (.mv (.tmp 0)), .op (some 4) none (.call f_r04_First [(.tmp 3)]), .op (some 5) none (.mv (.tmp 4)), .op (some 6) (some (5, false)) (.mv (.tmp 0)), .op (some 7) (some (5, false)) (.cmp .geq (.tmp 6) (.const (.int .u8 48))),
 .op (some 8) (some (5, false)) (.mv (.tmp 7)), .op (some 9) (some (8, true)) (.mv (.tmp 0)), .op (some 10) (some (8, true)) (.cmp .leq (.tmp 9) (.const (.int .u8 57))), .op (some 11) (some (5, false)) (.pick (.tmp 8) (.tmp 10) (.const (.bool false))), .op (some 12) none (.pick (.tmp 5) (.const (.bool true)) (.tmp 11)), .op (some 13) none (.mv (.tmp 12)),
 .op (some 14) (some (13, false)) (.mv (.tmp 0)), .op (some 15) (some (13, false)) (.eql false false [.int] (.tmp 14) (.const (.int .u8 45))), .op (some 16) none (.pick (.tmp 13) (.const (.bool true)) (.tmp 15)), .op (some 2) none (.mv (.tmp 16))]) (.keep [2] [] (.ret))))
def rs_r04_Next : List CRes := [.tmp 2]
def im_r04_Next : List Nat := []
theorem ok_r04_Next : FnOk Tryz.prog f_r04_Next im_r04_Next cc_r04_Next rs_r04_Next 17 := fnOk1 mixed (by kernel_rfl)
-- r04_ValidName while id=0: live [0:s, 3:i] changed [3] res []
/-- corpora/corporaref04.ValidName [string] -> [bool] -/
def cc_r04_ValidName : CC := .seq (.reg [ .op (some 2) none (.mv (.const (.bool false)))]) (.keep [0] [] (.seq (.seq (.reg [ .op (some 4) none (.mv (.tmp 0)), .op (some 5) none (.slen (.tmp 4)), .op (some 6) none (.cmp .lss (.tmp 5) (.const (.int .i64 1))), .op (some 7) none (.mv (.tmp 6)), .op (some 8) (some (7, false)) (.mv (.tmp 0)), .op (some 9) (some (7, false)) (.slen (.tmp 8)),
 .op (some 10) (some (7, false)) (.cmp .gtr (.tmp 9) (.const (.int .i64 32))), .op (some 11) none (.pick (.tmp 7) (.const (.bool true)) (.tmp 10)), .op (some 12) none (.mv (.tmp 11)), .op (some 13) (some (12, false)) (.mv (.tmp 0)), .op (some 14) (some (12, false)) (.sidx (.tmp 13) (.const (.int .i64 0))), .op (some 15) (some (12, false)) (.call f_r04_First [(.tmp 14)]),
 .op (some 16) (some (12, false)) (.not (.tmp 15)), .op (some 17) none (.pick (.tmp 12) (.const (.bool true)) (.tmp 16))]) (.keep [0, 17] [] (.ite (.tmp 17) (.seq (.reg [ .op (some 2) none (.mv (.const (.bool false)))]) (.keep [2] [] (.ret))) (.skip)))) (.keep [0] [] (.seq (.seq (.reg [ .op (some 3) none (.mv (.const (.int .i64 1)))]) (.keep [0, 3] [] (.block 0 (.loop 1 (.seq (.seq (.reg [
 .op (some 18) none (.mv (.tmp 3)), .op (some 19) none (.mv (.tmp 0)), .op (some 20) none (.slen (.tmp 19)), .op (some 21) none (.cmp .lss (.tmp 18) (.tmp 20))]) (.keep [0, 3, 21] [] (.ite (.tmp 21) (.skip) (.exit 0)))) (.keep [0, 3] [] (.seq (.block 1 (.seq (.reg [ .op (some 24) none (.mv (.tmp 0)), .op (some 25) none (.mv (.tmp 3)), .op (some 26) none (.sidx (.tmp 24) (.tmp 25)),
 .op (some 27) none (.call f_r04_Next [(.tmp 26)]), .op (some 28) none (.not (.tmp 27))]) (.keep [0, 3, 28] [] (.ite (.tmp 28) (.seq (.reg [ .op (some 2) none (.mv (.const (.bool false)))]) (.keep [2] [] (.ret))) (.skip))))) (.keep [0, 3] [] (.reg [ .op (some 22) none (.mv (.tmp 3)), .op (some 23) none (.arith .add (.tmp 22) (.const (.int .i64 1))), .op (some 3) none (.mv (.tmp 23))])))))))))
 (.keep [] [] (.seq (.reg [ .op (some 2) none (.mv (.const (.bool true)))]) (.keep [2] [] (.ret))))))))
def rs_r04_ValidName : List CRes := [.tmp 2]
def im_r04_ValidName : List Nat := []
theorem ok_r04_ValidName : FnOk Tryz.prog f_r04_ValidName im_r04_ValidName cc_r04_ValidName rs_r04_ValidName 29 := fnOk1 mixed (by kernel_rfl)
/-- corpora/corporamade.Type [int] -> [string] -/
def cc_m_Type : CC := .seq (.reg [ .op (some 2) none (.mv (.const (.string ⟨#[]⟩)))]) (.keep [0] [] (.seq (.reg [ .op (some 3) none (.bslice ty_string 1 [(.const (.string ⟨#[115]⟩)), (.const (.string ⟨#[110, 112]⟩)), (.const (.string ⟨#[116]⟩))]), .op (some 4) none (.mv (.tmp 0)), .op (some 5) none (.call f_m_Mod [(.tmp 4), (.const (.int .i64 3))]), .op (some 6) none (.iaddr 1 (.tmp 3) (.tmp 5)),
 .op (some 7) none (.load false 1 (.tmp 6)), .op (some 2) none (.mv (.tmp 7))]) (.keep [2] [] (.ret))))
def rs_m_Type : List CRes := [.tmp 2]
def im_m_Type : List Nat := []
theorem ok_m_Type : FnOk Tryz.prog f_m_Type im_m_Type cc_m_Type rs_m_Type 8 := fnOk1 mixed (by kernel_rfl)
/-- (*corpora/corporamade.Tape).Next [P_corporamade_Tape, int] -> [int] -/
def cc_m_Tape_Next : CC := .seq (.reg [ .op (some 4) none (.mv (.const (.int .i64 0)))]) (.keep [0, 1] [] (.seq (.seq (.regd [ .op (some 5) none (.mv (.tmp 0)), .op (some 6) none (.nilck (.tmp 5)), .op (some 7) none (.faddr 1 (.tmp 6)), .op (some 8) none (.load false 1 (.tmp 7)), .op (some 9) none (.mv (.tmp 0)), .op (some 10) none (.nilck (.tmp 9)), .op (some 11) none (.faddr 0 (.tmp 10)),
 .op (some 12) none (.load false 1 (.tmp 11)), .op (some 13) none (.len (.tmp 12))] [ .op (some 14) none (.cmp .geq (.tmp 8) (.tmp 13))]) (.keep [0, 1, 14] [] (.ite (.tmp 14) (.seq (.reg [ .op (some 4) none (.mv (.const (.int .i64 0)))]) (.keep [4] [] (.ret))) (.skip)))) (.keep [0, 1] [] (.seq (.reg [ .op (some 15) none (.mv (.tmp 0)), .op (some 16) none (.nilck (.tmp 15)),
 .op (some 17) none (.faddr 1 (.tmp 16)), .op (some 18) none (.load false 1 (.tmp 17)), .op (some 19) none (.arith .add (.tmp 18) (.const (.int .i64 1))), .op (some 20) none (.nilck (.tmp 15)), .op (some 21) none (.faddr 1 (.tmp 20)), .op none none (.store none 1 (.tmp 21) (.tmp 19))]) (.keep [0, 1] [] (.seq (.regd [ .op (some 22) none (.mv (.tmp 0)), .op (some 23) none (.nilck (.tmp 22)),
 .op (some 24) none (.faddr 0 (.tmp 23)), .op (some 25) none (.load false 1 (.tmp 24)), .op (some 26) none (.mv (.tmp 0)), .op (some 27) none (.nilck (.tmp 26)), .op (some 28) none (.faddr 1 (.tmp 27)), .op (some 29) none (.load false 1 (.tmp 28)), .op (some 30) none (.arith .sub (.tmp 29) (.const (.int .i64 1))), .op (some 31) none (.iaddr 1 (.tmp 25) (.tmp 30)),
 .op (some 32) none (.load false 1 (.tmp 31)), .op (some 33) none (.mv (.tmp 1))] [ .op (some 34) none (.call f_m_Mod [(.tmp 32), (.tmp 33)]), .op (some 4) none (.mv (.tmp 34))]) (.keep [4] [] (.ret))))))))
def rs_m_Tape_Next : List CRes := [.tmp 4]
def im_m_Tape_Next : List Nat := []
theorem ok_m_Tape_Next : FnOk Tryz.prog f_m_Tape_Next im_m_Tape_Next cc_m_Tape_Next rs_m_Tape_Next 35 := fnOk1 mixed (by kernel_rfl)
/-- corpora/corporamade.New [L_int] -> [P_corporamade_Tape] -/
def cc_m_New : CC := .seq (.reg [ .op (some 2) none (.mv (.const (.pointer none)))]) (.keep [0] [] (.seq (.seq (.reg [ .op (some 3) none (.mv (.tmp 0)), .op (some 4) none (.len (.tmp 3)), .op (some 5) none (.cmp .gtr (.tmp 4) (.const (.int .i64 120)))]) (.keep [0, 5] [] (.ite (.tmp 5) (.reg [ .op (some 6) none (.mv (.tmp 0)),
 .op (some 7) none (.slice 1 (.tmp 6) none (some (.const (.int .i64 120)))), .op (some 0) none (.mv (.tmp 7))]) (.skip)))) (.keep [0] [] (.seq (.reg [ .op (some 8) none (.mv (.tmp 0)), .op (some 9) none (.build [(.slice none 0 0), (.int .i64 0)] [(0, 1, (.tmp 8))]), .op (some 10) none (.box ty_corporamade_Tape false (.tmp 9)), .op (some 2) none (.mv (.tmp 10))]) (.keep [2] [10] (.ret))))))
def rs_m_New : List CRes := [.tmp 2]
def im_m_New : List Nat := [999]
theorem ok_m_New : FnOk Tryz.prog f_m_New im_m_New cc_m_New rs_m_New 11 := fnOk1 mixed (by kernel_rfl)

end Go.Gv

namespace Go.Gv
set_option linter.unusedSimpArgs false
set_option linter.unusedVariables false
set_option maxRecDepth 100000
open Cod (enc dec)
variable {S : Nat → Spc}

def modI (x n : Int) : Int := if n < 1 then 0 else if x.tmod n < 0 then x.tmod n + n else x.tmod n
abbrev s_m_Mod : Spc := spc (a2 Int Int) (fun x => x.2 ≤ 1000000000) enc fun x y => y = modI x.1 x.2
theorem w_m_Mod : Walk cc_m_Mod rs_m_Mod S (a2 Int Int) (fun x => x.2 ≤ 1000000000) enc fun x y => y = modI x.1 x.2 := by
  rintro ⟨a, b⟩ hl
  simp at hl
  simp [cc_m_Mod, rs_m_Mod, modI]
  refine ⟨fun h1 h2 => by omega, fun h1 => ⟨by omega, fun h2 => ⟨?_, ?_⟩, fun h2 => ?_⟩⟩
  · have := Int.lt_tmod_of_pos a (b := b) (by omega)
    simp [InR]; omega
  · rw [if_neg (by omega), if_pos h2]
  · rw [if_neg (by omega), if_neg (by omega)]
end Go.Gv
