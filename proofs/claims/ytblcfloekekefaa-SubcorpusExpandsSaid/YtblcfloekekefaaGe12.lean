/- A part of the framework and of the walks: V1 L1 Cd. -/
import Derived.Test.YtblcfloekekefaaProg
import Derived.Test.YtblcfloekekefaaGe11

namespace Go.Gv
set_option linter.unusedSimpArgs false
set_option linter.unusedVariables false
open Cod (enc dec)
abbrev B := ByteArray
structure I32 where
  val : Int
deriving DecidableEq
instance : Cod I32 where
  wd := 1
  enc n := .v (.int .i32 n.val)
  dec | .v (.int .i32 n) => some ⟨n⟩ | _ => none
  kn _ := rfl
  wid _ := rfl
  dec_enc _ := rfl
  le d x h := by
    split at h
    · cases h; exact .same _
    · cases h
@[simp] theorem enc_i32 (n : I32) : enc n = .v (.int .i32 n.val) := id rfl
@[simp] theorem wd_i32 : Cod.wd I32 = 1 := id rfl
@[simp] theorem dec_i32 (n : Int) : dec (X := I32) (.v (.int .i32 n)) = some ⟨n⟩ := id rfl
@[simp] theorem eta_i32 (n : I32) : I32.mk n.val = n := id rfl
structure U8 where
  val : Int
deriving DecidableEq
instance : Cod U8 where
  wd := 1
  enc n := .v (.int .u8 n.val)
  dec | .v (.int .u8 n) => some ⟨n⟩ | _ => none
  kn _ := rfl
  wid _ := rfl
  dec_enc _ := rfl
  le d x h := by
    split at h
    · cases h; exact .same _
    · cases h
@[simp] theorem enc_u8 (n : U8) : enc n = .v (.int .u8 n.val) := id rfl
@[simp] theorem wd_u8 : Cod.wd U8 = 1 := id rfl
@[simp] theorem dec_u8 (n : Int) : dec (X := U8) (.v (.int .u8 n)) = some ⟨n⟩ := id rfl
@[simp] theorem eta_u8 (n : U8) : U8.mk n.val = n := id rfl

structure Pair where
  nm : B
  vl : B
deriving DecidableEq
instance : Cod Pair where
  wd := 2
  enc s := .agg [enc s.nm, enc s.vl]
  dec | .agg [x0, x1] => (dec x0).bind fun x0 => (dec x1).bind fun x1 => some ⟨x0, x1⟩ | _ => none
  kn _ := rfl
  wid _ := rfl
  dec_enc s := by simp
  le d x h := by
    split at h
    · simp only [Option.bind_eq_some_iff] at h
      obtain ⟨x0, h0, x1, h1, h⟩ := h
      cases h
      exact LeL.agg (.cons (Cod.le _ _ h0) (.cons (Cod.le _ _ h1) .nil))
    · cases h
@[simp] theorem eta_Pair (s : Pair) : (Pair.mk s.nm s.vl) = s := id rfl
@[simp] theorem enc_Pair (s : Pair) : enc s = .agg [enc s.nm, enc s.vl] := id rfl
@[simp] theorem wd_Pair : Cod.wd Pair = 2 := id rfl
@[simp] theorem dec_Pair (x0 x1 : D) : dec (X := Pair) (.agg [x0, x1]) = ((dec x0).bind fun x0 => (dec x1).bind fun x1 => some ⟨x0, x1⟩) := id rfl

structure Attr where
  nm : B
  st : Bool
deriving DecidableEq
instance : Cod Attr where
  wd := 2
  enc s := .agg [enc s.nm, enc s.st]
  dec | .agg [x0, x1] => (dec x0).bind fun x0 => (dec x1).bind fun x1 => some ⟨x0, x1⟩ | _ => none
  kn _ := rfl
  wid _ := rfl
  dec_enc s := by simp
  le d x h := by
    split at h
    · simp only [Option.bind_eq_some_iff] at h
      obtain ⟨x0, h0, x1, h1, h⟩ := h
      cases h
      exact LeL.agg (.cons (Cod.le _ _ h0) (.cons (Cod.le _ _ h1) .nil))
    · cases h
@[simp] theorem eta_Attr (s : Attr) : (Attr.mk s.nm s.st) = s := id rfl
@[simp] theorem enc_Attr (s : Attr) : enc s = .agg [enc s.nm, enc s.st] := id rfl
@[simp] theorem wd_Attr : Cod.wd Attr = 2 := id rfl
@[simp] theorem dec_Attr (x0 x1 : D) : dec (X := Attr) (.agg [x0, x1]) = ((dec x0).bind fun x0 => (dec x1).bind fun x1 => some ⟨x0, x1⟩) := id rfl

structure Span where
  b : Int
  e : Int
deriving DecidableEq
instance : Cod Span where
  wd := 2
  enc s := .agg [enc s.b, enc s.e]
  dec | .agg [x0, x1] => (dec x0).bind fun x0 => (dec x1).bind fun x1 => some ⟨x0, x1⟩ | _ => none
  kn _ := rfl
  wid _ := rfl
  dec_enc s := by simp
  le d x h := by
    split at h
    · simp only [Option.bind_eq_some_iff] at h
      obtain ⟨x0, h0, x1, h1, h⟩ := h
      cases h
      exact LeL.agg (.cons (Cod.le _ _ h0) (.cons (Cod.le _ _ h1) .nil))
    · cases h
@[simp] theorem eta_Span (s : Span) : (Span.mk s.b s.e) = s := id rfl
@[simp] theorem enc_Span (s : Span) : enc s = .agg [enc s.b, enc s.e] := id rfl
@[simp] theorem wd_Span : Cod.wd Span = 2 := id rfl
@[simp] theorem dec_Span (x0 x1 : D) : dec (X := Span) (.agg [x0, x1]) = ((dec x0).bind fun x0 => (dec x1).bind fun x1 => some ⟨x0, x1⟩) := id rfl

structure Text where
  nm : B
  b : Int
  e : Int
  kv : List Pair
deriving DecidableEq
instance : Cod Text where
  wd := 4
  enc s := .agg [enc s.nm, enc s.b, enc s.e, enc s.kv]
  dec | .agg [x0, x1, x2, x3] => (dec x0).bind fun x0 => (dec x1).bind fun x1 => (dec x2).bind fun x2 => (dec x3).bind fun x3 => some ⟨x0, x1, x2, x3⟩ | _ => none
  kn _ := rfl
  wid _ := rfl
  dec_enc s := by simp
  le d x h := by
    split at h
    · simp only [Option.bind_eq_some_iff] at h
      obtain ⟨x0, h0, x1, h1, x2, h2, x3, h3, h⟩ := h
      cases h
      exact LeL.agg (.cons (Cod.le _ _ h0) (.cons (Cod.le _ _ h1) (.cons (Cod.le _ _ h2) (.cons (Cod.le _ _ h3) .nil))))
    · cases h
@[simp] theorem eta_Text (s : Text) : (Text.mk s.nm s.b s.e s.kv) = s := id rfl
@[simp] theorem enc_Text (s : Text) : enc s = .agg [enc s.nm, enc s.b, enc s.e, enc s.kv] := id rfl
@[simp] theorem wd_Text : Cod.wd Text = 4 := id rfl
@[simp] theorem dec_Text (x0 x1 x2 x3 : D) : dec (X := Text) (.agg [x0, x1, x2, x3]) = ((dec x0).bind fun x0 => (dec x1).bind fun x1 => (dec x2).bind fun x2 => (dec x3).bind fun x3 => some ⟨x0, x1, x2, x3⟩) := id rfl

structure Region where
  ty : B
  b : Int
  e : Int
  kv : List Pair
deriving DecidableEq
instance : Cod Region where
  wd := 4
  enc s := .agg [enc s.ty, enc s.b, enc s.e, enc s.kv]
  dec | .agg [x0, x1, x2, x3] => (dec x0).bind fun x0 => (dec x1).bind fun x1 => (dec x2).bind fun x2 => (dec x3).bind fun x3 => some ⟨x0, x1, x2, x3⟩ | _ => none
  kn _ := rfl
  wid _ := rfl
  dec_enc s := by simp
  le d x h := by
    split at h
    · simp only [Option.bind_eq_some_iff] at h
      obtain ⟨x0, h0, x1, h1, x2, h2, x3, h3, h⟩ := h
      cases h
      exact LeL.agg (.cons (Cod.le _ _ h0) (.cons (Cod.le _ _ h1) (.cons (Cod.le _ _ h2) (.cons (Cod.le _ _ h3) .nil))))
    · cases h
@[simp] theorem eta_Region (s : Region) : (Region.mk s.ty s.b s.e s.kv) = s := id rfl
@[simp] theorem enc_Region (s : Region) : enc s = .agg [enc s.ty, enc s.b, enc s.e, enc s.kv] := id rfl
@[simp] theorem wd_Region : Cod.wd Region = 4 := id rfl
@[simp] theorem dec_Region (x0 x1 x2 x3 : D) : dec (X := Region) (.agg [x0, x1, x2, x3]) = ((dec x0).bind fun x0 => (dec x1).bind fun x1 => (dec x2).bind fun x2 => (dec x3).bind fun x3 => some ⟨x0, x1, x2, x3⟩) := id rfl

structure Node where
  lb : B
  b : Int
  e : Int
  par : Int
deriving DecidableEq
instance : Cod Node where
  wd := 4
  enc s := .agg [enc s.lb, enc s.b, enc s.e, enc s.par]
  dec | .agg [x0, x1, x2, x3] => (dec x0).bind fun x0 => (dec x1).bind fun x1 => (dec x2).bind fun x2 => (dec x3).bind fun x3 => some ⟨x0, x1, x2, x3⟩ | _ => none
  kn _ := rfl
  wid _ := rfl
  dec_enc s := by simp
  le d x h := by
    split at h
    · simp only [Option.bind_eq_some_iff] at h
      obtain ⟨x0, h0, x1, h1, x2, h2, x3, h3, h⟩ := h
      cases h
      exact LeL.agg (.cons (Cod.le _ _ h0) (.cons (Cod.le _ _ h1) (.cons (Cod.le _ _ h2) (.cons (Cod.le _ _ h3) .nil))))
    · cases h
@[simp] theorem eta_Node (s : Node) : (Node.mk s.lb s.b s.e s.par) = s := id rfl
@[simp] theorem enc_Node (s : Node) : enc s = .agg [enc s.lb, enc s.b, enc s.e, enc s.par] := id rfl
@[simp] theorem wd_Node : Cod.wd Node = 4 := id rfl
@[simp] theorem dec_Node (x0 x1 x2 x3 : D) : dec (X := Node) (.agg [x0, x1, x2, x3]) = ((dec x0).bind fun x0 => (dec x1).bind fun x1 => (dec x2).bind fun x2 => (dec x3).bind fun x3 => some ⟨x0, x1, x2, x3⟩) := id rfl

structure Corpus where
  attrs : List Attr
  toks : List (List B)
  texts : List Text
  regs : List Region
  nodes : List Node
  heads : List Int
  rels : List B
deriving DecidableEq
instance : Cod Corpus where
  wd := 7
  enc s := .agg [enc s.attrs, enc s.toks, enc s.texts, enc s.regs, enc s.nodes, enc s.heads, enc s.rels]
  dec | .agg [x0, x1, x2, x3, x4, x5, x6] => (dec x0).bind fun x0 => (dec x1).bind fun x1 => (dec x2).bind fun x2 => (dec x3).bind fun x3 => (dec x4).bind fun x4 => (dec x5).bind fun x5 => (dec x6).bind fun x6 => some ⟨x0, x1, x2, x3, x4, x5, x6⟩ | _ => none
  kn _ := rfl
  wid _ := rfl
  dec_enc s := by simp
  le d x h := by
    split at h
    · simp only [Option.bind_eq_some_iff] at h
      obtain ⟨x0, h0, x1, h1, x2, h2, x3, h3, x4, h4, x5, h5, x6, h6, h⟩ := h
      cases h
      exact LeL.agg (.cons (Cod.le _ _ h0) (.cons (Cod.le _ _ h1) (.cons (Cod.le _ _ h2) (.cons (Cod.le _ _ h3) (.cons (Cod.le _ _ h4) (.cons (Cod.le _ _ h5) (.cons (Cod.le _ _ h6) .nil)))))))
    · cases h
@[simp] theorem eta_Corpus (s : Corpus) : (Corpus.mk s.attrs s.toks s.texts s.regs s.nodes s.heads s.rels) = s := id rfl
@[simp] theorem enc_Corpus (s : Corpus) : enc s = .agg [enc s.attrs, enc s.toks, enc s.texts, enc s.regs, enc s.nodes, enc s.heads, enc s.rels] := id rfl
@[simp] theorem wd_Corpus : Cod.wd Corpus = 7 := id rfl
@[simp] theorem dec_Corpus (x0 x1 x2 x3 x4 x5 x6 : D) : dec (X := Corpus) (.agg [x0, x1, x2, x3, x4, x5, x6]) = ((dec x0).bind fun x0 => (dec x1).bind fun x1 => (dec x2).bind fun x2 => (dec x3).bind fun x3 => (dec x4).bind fun x4 => (dec x5).bind fun x5 => (dec x6).bind fun x6 => some ⟨x0, x1, x2, x3, x4, x5, x6⟩) := id rfl

structure Match where
  b : Int
  e : Int
  lbs : List Int
deriving DecidableEq
instance : Cod Match where
  wd := 3
  enc s := .agg [enc s.b, enc s.e, enc s.lbs]
  dec | .agg [x0, x1, x2] => (dec x0).bind fun x0 => (dec x1).bind fun x1 => (dec x2).bind fun x2 => some ⟨x0, x1, x2⟩ | _ => none
  kn _ := rfl
  wid _ := rfl
  dec_enc s := by simp
  le d x h := by
    split at h
    · simp only [Option.bind_eq_some_iff] at h
      obtain ⟨x0, h0, x1, h1, x2, h2, h⟩ := h
      cases h
      exact LeL.agg (.cons (Cod.le _ _ h0) (.cons (Cod.le _ _ h1) (.cons (Cod.le _ _ h2) .nil)))
    · cases h
@[simp] theorem eta_Match (s : Match) : (Match.mk s.b s.e s.lbs) = s := id rfl
@[simp] theorem enc_Match (s : Match) : enc s = .agg [enc s.b, enc s.e, enc s.lbs] := id rfl
@[simp] theorem wd_Match : Cod.wd Match = 3 := id rfl
@[simp] theorem dec_Match (x0 x1 x2 : D) : dec (X := Match) (.agg [x0, x1, x2]) = ((dec x0).bind fun x0 => (dec x1).bind fun x1 => (dec x2).bind fun x2 => some ⟨x0, x1, x2⟩) := id rfl

structure Source where
  leaf : Int
  off : Int
deriving DecidableEq
instance : Cod Source where
  wd := 2
  enc s := .agg [enc s.leaf, enc s.off]
  dec | .agg [x0, x1] => (dec x0).bind fun x0 => (dec x1).bind fun x1 => some ⟨x0, x1⟩ | _ => none
  kn _ := rfl
  wid _ := rfl
  dec_enc s := by simp
  le d x h := by
    split at h
    · simp only [Option.bind_eq_some_iff] at h
      obtain ⟨x0, h0, x1, h1, h⟩ := h
      cases h
      exact LeL.agg (.cons (Cod.le _ _ h0) (.cons (Cod.le _ _ h1) .nil))
    · cases h
@[simp] theorem eta_Source (s : Source) : (Source.mk s.leaf s.off) = s := id rfl
@[simp] theorem enc_Source (s : Source) : enc s = .agg [enc s.leaf, enc s.off] := id rfl
@[simp] theorem wd_Source : Cod.wd Source = 2 := id rfl
@[simp] theorem dec_Source (x0 x1 : D) : dec (X := Source) (.agg [x0, x1]) = ((dec x0).bind fun x0 => (dec x1).bind fun x1 => some ⟨x0, x1⟩) := id rfl

structure Unit01 where
  r : I32
  pos : Int
  sz : Int
  ok : Bool
deriving DecidableEq
instance : Cod Unit01 where
  wd := 4
  enc s := .agg [enc s.r, enc s.pos, enc s.sz, enc s.ok]
  dec | .agg [x0, x1, x2, x3] => (dec x0).bind fun x0 => (dec x1).bind fun x1 => (dec x2).bind fun x2 => (dec x3).bind fun x3 => some ⟨x0, x1, x2, x3⟩ | _ => none
  kn _ := rfl
  wid _ := rfl
  dec_enc s := by simp
  le d x h := by
    split at h
    · simp only [Option.bind_eq_some_iff] at h
      obtain ⟨x0, h0, x1, h1, x2, h2, x3, h3, h⟩ := h
      cases h
      exact LeL.agg (.cons (Cod.le _ _ h0) (.cons (Cod.le _ _ h1) (.cons (Cod.le _ _ h2) (.cons (Cod.le _ _ h3) .nil))))
    · cases h
@[simp] theorem eta_Unit01 (s : Unit01) : (Unit01.mk s.r s.pos s.sz s.ok) = s := id rfl
@[simp] theorem enc_Unit01 (s : Unit01) : enc s = .agg [enc s.r, enc s.pos, enc s.sz, enc s.ok] := id rfl
@[simp] theorem wd_Unit01 : Cod.wd Unit01 = 4 := id rfl
@[simp] theorem dec_Unit01 (x0 x1 x2 x3 : D) : dec (X := Unit01) (.agg [x0, x1, x2, x3]) = ((dec x0).bind fun x0 => (dec x1).bind fun x1 => (dec x2).bind fun x2 => (dec x3).bind fun x3 => some ⟨x0, x1, x2, x3⟩) := id rfl

structure Filter where
  op : Int
  neg : Bool
  reg : B
deriving DecidableEq
instance : Cod Filter where
  wd := 3
  enc s := .agg [enc s.op, enc s.neg, enc s.reg]
  dec | .agg [x0, x1, x2] => (dec x0).bind fun x0 => (dec x1).bind fun x1 => (dec x2).bind fun x2 => some ⟨x0, x1, x2⟩ | _ => none
  kn _ := rfl
  wid _ := rfl
  dec_enc s := by simp
  le d x h := by
    split at h
    · simp only [Option.bind_eq_some_iff] at h
      obtain ⟨x0, h0, x1, h1, x2, h2, h⟩ := h
      cases h
      exact LeL.agg (.cons (Cod.le _ _ h0) (.cons (Cod.le _ _ h1) (.cons (Cod.le _ _ h2) .nil)))
    · cases h
@[simp] theorem eta_Filter (s : Filter) : (Filter.mk s.op s.neg s.reg) = s := id rfl
@[simp] theorem enc_Filter (s : Filter) : enc s = .agg [enc s.op, enc s.neg, enc s.reg] := id rfl
@[simp] theorem wd_Filter : Cod.wd Filter = 3 := id rfl
@[simp] theorem dec_Filter (x0 x1 x2 : D) : dec (X := Filter) (.agg [x0, x1, x2]) = ((dec x0).bind fun x0 => (dec x1).bind fun x1 => (dec x2).bind fun x2 => some ⟨x0, x1, x2⟩) := id rfl

end Go.Gv

namespace Go.Gv
set_option linter.unusedSimpArgs false
set_option linter.unusedVariables false

theorem take_snoc {α : Type} {l : List α} {k : Nat} {a : α} (h : l[k]? = some a) : l.take (k + 1) = l.take k ++ [a] := by
  rw [List.take_add_one, h]; rfl
theorem drop_cons_of {α : Type} {l : List α} {k : Nat} {a : α} (h : l[k]? = some a) : l.drop k = a :: l.drop (k + 1) := by
  obtain ⟨hk, rfl⟩ := List.getElem?_eq_some_iff.1 h
  exact List.drop_eq_getElem_cons hk
theorem mem_at {α : Type} {l : List α} {k : Nat} {a : α} (h : l[k]? = some a) : a ∈ l := List.mem_of_getElem? h
theorem lt_at {α : Type} {l : List α} {k : Nat} {a : α} (h : l[k]? = some a) : k < l.length := (List.getElem?_eq_some_iff.1 h).1
theorem at_lt {α : Type} {l : List α} {k : Nat} (h : k < l.length) : ∃ a, l[k]? = some a := ⟨l[k], List.getElem?_eq_getElem h⟩

/-! ### Strict order of spans -/
def ltS (a b : Span) : Prop := a.b < b.b ∨ a.b = b.b ∧ a.e < b.e
instance (a b : Span) : Decidable (ltS a b) := by unfold ltS; infer_instance
theorem ltS_irr (a : Span) : ¬ ltS a a := by unfold ltS; omega
theorem ltS_trans {a b c : Span} (h : ltS a b) (k : ltS b c) : ltS a c := by unfold ltS at *; omega
theorem Span.ext' {a b : Span} (h : a.b = b.b) (k : a.e = b.e) : a = b := by cases a; cases b; simp at h k; simp [h, k]
theorem ltS_tot (a b : Span) : ltS a b ∨ a = b ∨ ltS b a := by
  by_cases h : a.b = b.b ∧ a.e = b.e
  · exact .inr (.inl (Span.ext' h.1 h.2))
  · unfold ltS; omega

/-- A list in strict order. -/
def SS (l : List Span) : Prop := l.Pairwise ltS
theorem SS.nil : SS [] := List.Pairwise.nil
theorem ss_ext : ∀ {a b : List Span}, SS a → SS b → (∀ x, x ∈ a ↔ x ∈ b) → a = b
  | [], [], _, _, _ => rfl
  | [], y :: b, _, _, h => by have := (h y).2 (by simp); simp at this
  | x :: a, [], _, _, h => by have := (h x).1 (by simp); simp at this
  | x :: a, y :: b, ha, hb, h => by
    have ha' := List.pairwise_cons.1 ha
    have hb' := List.pairwise_cons.1 hb
    have hxy : x = y := by
      rcases List.mem_cons.1 ((h x).1 (by simp)) with e | e
      · exact e
      · rcases List.mem_cons.1 ((h y).2 (by simp)) with e2 | e2
        · exact e2.symm
        · exact absurd (ltS_trans (ha'.1 y e2) (hb'.1 x e)) (ltS_irr x)
    subst hxy
    have : a = b := ss_ext ha'.2 hb'.2 fun z => by
      constructor
      · intro hz
        rcases List.mem_cons.1 ((h z).1 (by simp [hz])) with e | e
        · subst e; exact absurd (ha'.1 z hz) (ltS_irr z)
        · exact e
      · intro hz
        rcases List.mem_cons.1 ((h z).2 (by simp [hz])) with e | e
        · subst e; exact absurd (hb'.1 z hz) (ltS_irr z)
        · exact e
    rw [this]

/-- r is the list, in order, of what is in l. -/
def IsNorm (l r : List Span) : Prop := SS r ∧ ∀ x, x ∈ r ↔ x ∈ l
theorem IsNorm.eq {l l' r r' : List Span} (h : IsNorm l r) (k : IsNorm l' r') (hl : ∀ x, x ∈ l ↔ x ∈ l') : r = r' :=
  ss_ext h.1 k.1 fun x => (h.2 x).trans ((hl x).trans (k.2 x).symm)
theorem IsNorm.nil : IsNorm [] [] := ⟨SS.nil, fun _ => Iff.rfl⟩
theorem IsNorm.congr {l l' r : List Span} (h : IsNorm l r) (hl : ∀ x, x ∈ l ↔ x ∈ l') : IsNorm l' r := ⟨h.1, fun x => (h.2 x).trans (hl x)⟩
theorem IsNorm.self {l : List Span} (h : SS l) : IsNorm l l := ⟨h, fun _ => Iff.rfl⟩

theorem ss_len : ∀ {r l : List Span}, SS r → (∀ x ∈ r, x ∈ l) → r.length ≤ l.length
  | [], l, _, _ => Nat.zero_le _
  | x :: r, l, h, hl => by
    have h' := List.pairwise_cons.1 h
    have hx := hl x (by simp)
    have := ss_len (l := l.erase x) h'.2 fun y hy => (List.mem_erase_of_ne (fun (e : y = x) => ltS_irr x (by have := h'.1 y hy; rwa [e] at this))).2 (hl y (by simp [hy]))
    rw [List.length_erase_of_mem hx] at this
    have := List.length_pos_of_mem hx
    simp; omega
theorem IsNorm.len {l r : List Span} (h : IsNorm l r) : r.length ≤ l.length := ss_len h.1 fun x hx => (h.2 x).1 hx
theorem IsNorm.snoc {l l' r r' : List Span} {s : Span} (h : IsNorm l r) (k : IsNorm (r ++ [s]) r') (hl : ∀ x, x ∈ l' ↔ x ∈ l ∨ x = s) : IsNorm l' r' :=
  ⟨k.1, fun x => (k.2 x).trans (by rw [hl x]; simp [h.2 x])⟩
theorem IsNorm.same {l l' r : List Span} (h : IsNorm l r) (hl : ∀ x, x ∈ l' ↔ x ∈ l) : IsNorm l' r := ⟨h.1, fun x => (h.2 x).trans (hl x).symm⟩

/-- Where an element is put. -/
theorem norm_insert {l : List Span} {s : Span} {k : Nat} (h : SS l) (hk : k ≤ l.length) (h1 : ∀ x ∈ l.drop k, ltS s x) (h2 : k = 0 ∨ ∃ y, l[k - 1]? = some y ∧ ¬ ltS s y) :
    (∀ y, 0 < k → l[k - 1]? = some y → y = s → IsNorm (l ++ [s]) l) ∧ ((∀ y, 0 < k → l[k - 1]? = some y → y ≠ s) → IsNorm (l ++ [s]) (l.take k ++ s :: l.drop k)) := by
  constructor
  · intro y _ hy e
    subst e
    refine (IsNorm.self h).congr fun x => ?_
    simp only [List.mem_append, List.mem_singleton]
    exact ⟨.inl, fun hx => hx.elim id fun e => e ▸ mem_at hy⟩
  · intro hne
    have hs : SS (l.take k ++ l.drop k) := by rw [List.take_append_drop]; exact h
    obtain ⟨ha, hb, hab⟩ := List.pairwise_append.1 hs
    have hlt : ∀ x ∈ l.take k, ltS x s := by
      intro x hx
      rcases h2 with rfl | ⟨y, hy, hn⟩
      · simp at hx
      · rcases Nat.eq_zero_or_pos k with rfl | hk0
        · simp at hx
        have hys : ltS y s := by
          rcases ltS_tot y s with h | h | h
          · exact h
          · exact absurd h (hne y hk0 hy)
          · exact absurd h hn
        have htk : l.take k = l.take (k - 1) ++ [y] := by
          have := take_snoc hy
          rwa [Nat.sub_add_cancel hk0] at this
        rw [htk] at hx ha
        rcases List.mem_append.1 hx with hx | hx
        · exact ltS_trans ((List.pairwise_append.1 ha).2.2 x hx y (by simp)) hys
        · simp at hx; subst hx; exact hys
    refine ⟨?_, fun x => ?_⟩
    · refine List.pairwise_append.2 ⟨ha, List.pairwise_cons.2 ⟨h1, hb⟩, fun x hx y hy => ?_⟩
      rcases List.mem_cons.1 hy with rfl | hy
      · exact hlt x hx
      · exact hab x hx y hy
    · have : x ∈ l ↔ x ∈ l.take k ∨ x ∈ l.drop k := by
        rw [← List.mem_append, List.take_append_drop]
      simp only [List.mem_append, List.mem_cons, List.mem_singleton, this]
      constructor
      · rintro (h | h | h)
        · exact .inl (.inl h)
        · simp [h]
        · exact .inl (.inr h)
      · rintro ((h | h) | h)
        · exact .inl h
        · exact .inr (.inr h)
        · simp at h; exact .inr (.inl h)

def containsS (t s : Span) : Bool := decide (t.b ≤ s.b ∧ s.e ≤ t.e)
def hasS (l : List Span) (s : Span) : Bool := decide (s ∈ l)
def liesS (s : Span) (l : List Span) : Bool := l.any fun t => containsS t s

/-! ### Where something stands in a list -/
def idxI {X : Type} : List X → (X → Bool) → Int
  | [], _ => -1
  | x :: l, p => if p x then 0 else if idxI l p < 0 then -1 else idxI l p + 1
theorem idxI_none {X : Type} {p : X → Bool} : ∀ {l : List X}, (∀ y ∈ l, p y = false) → idxI l p = -1
  | [], _ => rfl
  | x :: l, h => by
    have := idxI_none (l := l) (fun y hy => h y (by simp [hy]))
    simp [idxI, h x (by simp), this]
theorem idxI_at {X : Type} {p : X → Bool} : ∀ {l : List X} {k : Nat} {x : X}, l[k]? = some x → p x = true → (∀ y ∈ l.take k, p y = false) → idxI l p = k
  | [], k, x, hx, _, _ => by simp at hx
  | z :: l, 0, x, hx, hp, _ => by
    simp at hx
    subst hx
    simp [idxI, hp]
  | z :: l, k + 1, x, hx, hp, hb => by
    have hz := hb z (by simp)
    have ih := idxI_at (l := l) (k := k) (by simpa using hx) hp (fun y hy => hb y (by simp [hy]))
    simp [idxI, hz, ih]
    omega
theorem idxI_cases {X : Type} (p : X → Bool) (l : List X) : (idxI l p = -1 ∧ ∀ y ∈ l, p y = false) ∨ ∃ k x, idxI l p = (k : Nat) ∧ l[k]? = some x ∧ p x = true ∧ ∀ y ∈ l.take k, p y = false := by
  induction l with
  | nil => exact .inl ⟨rfl, by simp⟩
  | cons z l ih =>
    by_cases hz : p z = true
    · exact .inr ⟨0, z, by simp [idxI, hz], by simp, hz, by simp⟩
    · have hz : p z = false := by simpa using hz
      rcases ih with ⟨h1, h2⟩ | ⟨k, x, h1, h2, h3, h4⟩
      · refine .inl ⟨by simp [idxI, hz, h1], fun y hy => ?_⟩
        rcases List.mem_cons.1 hy with rfl | hy
        · exact hz
        · exact h2 y hy
      · refine .inr ⟨k + 1, x, ?_, by simpa using h2, h3, fun y hy => ?_⟩
        · simp [idxI, hz, h1]; omega
        · rw [List.take_succ_cons] at hy
          rcases List.mem_cons.1 hy with rfl | hy
          · exact hz
          · exact h4 y hy
theorem idxI_ge {X : Type} (p : X → Bool) (l : List X) : decide (0 ≤ idxI l p) = l.any p := by
  rcases idxI_cases p l with ⟨h1, h2⟩ | ⟨k, x, h1, h2, h3, h4⟩
  · have : l.any p = false := by simpa using h2
    rw [h1, this]; rfl
  · have : l.any p = true := List.any_eq_true.2 ⟨x, mem_at h2, h3⟩
    rw [h1, this]; simp
/-- What DeleteFunc leaves, where nothing ahead of place i is deleted. -/
theorem filter_split {X : Type} (p : X → Bool) {l : List X} {k : Nat} (h : ∀ y ∈ l.take k, p y = false) : (l.filter fun y => !p y) = l.take k ++ (l.drop k).filter fun y => !p y := by
  have e := congrArg (List.filter fun y => !p y) (List.take_append_drop k l).symm
  rw [List.filter_append] at e
  rw [e]
  congr 1
  refine List.filter_eq_self.2 fun y hy => ?_
  simp [h y hy]

/-! ### Each once -/
def ddS (r : List Span) (x : Span) : List Span := if r.getLast? = some x then r else r ++ [x]
def cptS (l : List Span) : List Span := l.foldl ddS []
theorem cptS_snoc (l : List Span) (x : Span) : cptS (l ++ [x]) = ddS (cptS l) x := by simp [cptS]
theorem list_snoc {α : Type} {P : List α → Prop} (h0 : P []) (hs : ∀ l x, P l → P (l ++ [x])) : ∀ l, P l := by
  intro l
  have : ∀ n (l : List α), l.length = n → P l := by
    intro n
    induction n with
    | zero => intro l hl; rw [List.eq_nil_of_length_eq_zero hl]; exact h0
    | succ n ih =>
      intro l hl
      have hne : l ≠ [] := by intro e; subst e; simp at hl
      rw [← List.dropLast_concat_getLast hne]
      exact hs _ _ (ih _ (by simp [hl]))
  exact this _ l rfl
theorem cptS_last (l : List Span) : (cptS l).getLast? = l.getLast? := by
  refine list_snoc (P := fun l => (cptS l).getLast? = l.getLast?) rfl (fun l x ih => ?_) l
  rw [cptS_snoc, ddS]
  split
  · rename_i h; rw [h]; simp
  · simp
theorem cptS_len (l : List Span) : (cptS l).length ≤ l.length := by
  refine list_snoc (P := fun l => (cptS l).length ≤ l.length) (Nat.le_refl _) (fun l x ih => ?_) l
  rw [cptS_snoc, ddS]
  split <;> simp <;> omega
theorem cptS_mem (l : List Span) : ∀ x, x ∈ cptS l ↔ x ∈ l := by
  refine list_snoc (P := fun l => ∀ x, x ∈ cptS l ↔ x ∈ l) (fun x => Iff.rfl) (fun l y ih x => ?_) l
  rw [cptS_snoc, ddS]
  split
  · rename_i h
    rw [cptS_last] at h
    have hy : y ∈ l := List.mem_of_getLast? h
    simp [ih x]
    rintro rfl; exact hy
  · simp [ih x]
/-- In order, with repetitions. -/
def WS (l : List Span) : Prop := l.Pairwise fun a b => ¬ ltS b a
theorem cptS_ss {l : List Span} (h : WS l) : SS (cptS l) := by
  revert h
  refine list_snoc (P := fun l => WS l → SS (cptS l)) (fun _ => SS.nil) (fun l x ih h => ?_) l
  have h' := List.pairwise_append.1 h
  have hs := ih h'.1
  rw [cptS_snoc, ddS]
  split
  · exact hs
  · rename_i hne
    refine List.pairwise_append.2 ⟨hs, by simp, fun a ha b hb => ?_⟩
    simp at hb
    subst hb
    have hal := (cptS_mem l a).1 ha
    rcases ltS_tot a b with h1 | h1 | h1
    · exact h1
    · exfalso
      subst h1
      -- a stands in l, and is the last one: all behind it are equal
      apply hne
      rw [cptS_last]
      obtain ⟨l1, l2, rfl⟩ := List.append_of_mem hal
      have h3 := (List.pairwise_append.1 h'.1).2.1
      have h4 := List.pairwise_cons.1 h3
      cases hl2 : l2.getLast? with
      | none =>
        have : l2 = [] := List.getLast?_eq_none_iff.1 hl2
        subst this
        simp
      | some z =>
        have hz : z ∈ l2 := List.mem_of_getLast? hl2
        have e1 := h4.1 z hz
        have e2 := h'.2.2 z (by simp [hz]) a (by simp)
        have : z = a := by
          rcases ltS_tot z a with k | k | k
          · exact absurd k e1
          · exact k
          · exact absurd k e2
        subst this
        rw [List.getLast?_append, List.getLast?_cons]
        simp [hl2]
    · exact absurd h1 (h'.2.2 a hal b (by simp))
theorem norm_cpt {l l' : List Span} (hp : ∀ x, x ∈ l' ↔ x ∈ l) (h : WS l') : IsNorm l (cptS l') := ⟨cptS_ss h, fun x => (cptS_mem l' x).trans (hp x)⟩
theorem SS.filter {l : List Span} (h : SS l) (p : Span → Bool) : SS (l.filter p) := List.Pairwise.filter p h
theorem IsNorm.filter {l r : List Span} (h : IsNorm l r) (p : Span → Bool) : IsNorm (l.filter p) (r.filter p) := ⟨h.1.filter p, fun x => by simp [h.2 x]⟩
theorem set_encS (l : List Span) (i : Nat) (v : Span) : (l.map Cod.enc).set i (.agg [.v (.int .i64 v.b), .v (.int .i64 v.e)]) = (l.set i v).map Cod.enc := by
  rw [List.map_set]; rfl

theorem cptS_short {l : List Span} (h : l.length < 2) : cptS l = l := by
  match l, h with
  | [], _ => rfl
  | [x], _ => rfl
  | x :: y :: l, h => exact absurd h (by simp only [List.length_cons]; omega)
theorem cptS_one {l : List Span} (h : 1 ≤ l.length) : cptS (l.take 1) = l.take 1 := cptS_short (by simp; omega)

/-- One more element, that is or is not the one before. -/
theorem cptS_step {l : List Span} {j : Nat} {x y : Span} (hj : 1 ≤ j) (hx : l[j]? = some x) (hy : l[j - 1]? = some y) : cptS (l.take (j + 1)) = if x = y then cptS (l.take j) else cptS (l.take j) ++ [x] := by
  rw [take_snoc hx, cptS_snoc, ddS, cptS_last]
  have : (l.take j).getLast? = some y := by
    have e := take_snoc hy
    rw [Nat.sub_add_cancel hj] at e
    rw [e]; simp
  rw [this]
  by_cases h : x = y
  · subst h; simp
  · have : ¬ y = x := fun e => h e.symm
    simp [h, this]
/-- A cell is written between what is done and what is still to be read. -/
theorem set_take_drop {α : Type} {cur l : List α} {k m : Nat} {x : α} (hk : k < cur.length) (hkm : k < m) (hd : cur.drop m = l.drop m) :
    (cur.set k x).take (k + 1) = cur.take k ++ [x] ∧ (cur.set k x).drop m = l.drop m := by
  constructor
  · rw [List.take_add_one]
    simp [List.take_set_of_le, hk]
  · rw [List.drop_set_of_lt hkm, hd]

theorem drop_at {α : Type} {a b : List α} {m i : Nat} (h : a.drop m = b.drop m) (hi : m ≤ i) : a[i]? = b[i]? := by
  have := congrArg (fun l => l[i - m]?) h
  simp only [List.getElem?_drop] at this
  rwa [show m + (i - m) = i by omega] at this
theorem drop_more {α : Type} {a b : List α} {m i : Nat} (h : a.drop m = b.drop m) (hi : m ≤ i) : a.drop i = b.drop i := by
  have := congrArg (fun l => l.drop (i - m)) h
  simp only [List.drop_drop] at this
  rwa [show m + (i - m) = i by omega] at this

theorem dec_width (s : ByteArray) (p : Nat) (h : p < s.size) : 1 ≤ (Utf8.decode s p).2 ∧ p + (Utf8.decode s p).2 ≤ s.size := by
  unfold Utf8.decode
  simp only [Bool.and_eq_true, decide_eq_true_eq]
  repeat' split
  all_goals (try simp only [])
  all_goals omega
end Go.Gv

namespace Go.Gv
open Go.Proofs
def f_main_main : Nat := 0
def f_gosem_cut : Nat := 1
def f_gosem_cut_init : Nat := 2
def f_law30_SubcorpusLaws : Nat := 3
def f_law30_SubcorpusExpands : Nat := 4
def f_m_New : Nat := 5
def f_m_Tape_Corpus : Nat := 6
def f_m_Tape_Spans : Nat := 7
def f_subcorpus_Subtract : Nat := 8
def f_subcorpus_Intersect : Nat := 9
def f_subcorpus_Unite : Nat := 10
def f_r27_Same : Nat := 11
def f_subcorpus_Inside : Nat := 12
def f_subcorpus_IsList : Nat := 13
def f_law30_known : Nat := 14
def f_m_Type : Nat := 15
def f_m_Tape_Next : Nat := 16
def f_subcorpus_Expand : Nat := 17
def f_r30_Expand : Nat := 18
def f_r27_Contains : Nat := 19
def f_m_Tape_Document : Nat := 20
def f_r06_Concat : Nat := 21
def f_m_Tape_Matches : Nat := 22
def f_subcorpus_keep : Nat := 23
def f_subcorpus_Subtract_1 : Nat := 24
def f_slices_Contains_Span : Nat := 25
def f_subcorpus_Intersect_1 : Nat := 26
def f_subcorpus_sorted : Nat := 27
def f_subcorpus_Inside_1 : Nat := 28
def f_subcorpus_lies : Nat := 29
def f_corpus_TextAt : Nat := 30
def f_subcorpus_compare : Nat := 31
def f_m_Mod : Nat := 32
def f_inside_Last : Nat := 33
def f_r28_Last : Nat := 34
def f_r27_Insert : Nat := 35
def f_m_Attributes : Nat := 36
def f_m_word : Nat := 37
def f_m_tag : Nat := 38
def f_m_features : Nat := 39
def f_r06_SortRegions : Nat := 40
def f_m_Tape_nodes : Nat := 41
def f_m_Tape_heads : Nat := 42
def f_r06_Valid : Nat := 43
def f_r06_sameAttributes : Nat := 44
def f_r06_FindText : Nat := 45
def f_r06_allHeads : Nat := 46
def f_slices_DeleteFunc_Span : Nat := 47
def f_subcorpus_keep_1 : Nat := 48
def f_slices_Index_Span : Nat := 49
def f_slices_Concat_Span : Nat := 50
def f_slices_SortFunc_Span : Nat := 51
def f_slices_Compact_Span : Nat := 52
def f_slices_ContainsFunc_Span : Nat := 53
def f_subcorpus_lies_1 : Nat := 54
def f_cmp_Or_int : Nat := 55
def f_cmp_Compare_int : Nat := 56
def f_inside_of : Nat := 57
def f_inside_related : Nat := 58
def f_r06_CompareRegions : Nat := 59
def f_r06_Validate : Nat := 60
def f_slices_IndexFunc_Span : Nat := 61
def f_slices_Grow_Span : Nat := 62
def f_slices_pdqsortCmpFunc_Span : Nat := 63
def f_math_bits_Len : Nat := 64
def f_cmp_isNaN_int : Nat := 65
def f_inside_of_1 : Nat := 66
def f_r06_sign : Nat := 67
def f_r06_compare : Nat := 68
def f_r06_Attributes : Nat := 69
def f_r06_tokens : Nat := 70
def f_r06_texts : Nat := 71
def f_r06_regions : Nat := 72
def f_r06_Nodes : Nat := 73
def f_r06_heads : Nat := 74
def f_slices_insertionSortCmpFunc_Span : Nat := 75
def f_slices_heapSortCmpFunc_Span : Nat := 76
def f_slices_breakPatternsCmpFunc_Span : Nat := 77
def f_slices_choosePivotCmpFunc_Span : Nat := 78
def f_slices_reverseRangeCmpFunc_Span : Nat := 79
def f_slices_partialInsertionSortCmpFunc_Span : Nat := 80
def f_slices_partitionEqualCmpFunc_Span : Nat := 81
def f_slices_partitionCmpFunc_Span : Nat := 82
def f_math_bits_Len32 : Nat := 83
def f_math_bits_Len64 : Nat := 84
def f_r04_ValidName : Nat := 85
def f_r06_Value : Nat := 86
def f_r06_pairs : Nat := 87
def f_r06_within : Nat := 88
def f_r06_bare : Nat := 89
def f_r06_TextAt : Nat := 90
def f_r06_cyclic : Nat := 91
def f_slices_siftDownCmpFunc_Span : Nat := 92
def f_slices_nextPowerOfTwo : Nat := 93
def f_slices_xorshift_Next : Nat := 94
def f_slices_medianAdjacentCmpFunc_Span : Nat := 95
def f_slices_medianCmpFunc_Span : Nat := 96
def f_r04_First : Nat := 97
def f_r04_Next : Nat := 98
def f_r05_Parse : Nat := 99
def f_r04_ValidValue : Nat := 100
def f_slices_order2CmpFunc_Span : Nat := 101
def f_r01_Valid : Nat := 102
def f_r01_Units : Nat := 103
def f_runtime_boundsError_Error : Nat := 104
def f_runtime_boundsError_RuntimeError : Nat := 105
def f_runtime_errorString_Error : Nat := 106
def f_runtime_errorString_RuntimeError : Nat := 107
def f_runtime_plainError_Error : Nat := 108
def f_runtime_plainError_RuntimeError : Nat := 109
def f_runtime_errorAddressString_Error : Nat := 110
def f_runtime_errorAddressString_RuntimeError : Nat := 111
def f_runtime_TypeAssertionError_Error : Nat := 112
def f_runtime_TypeAssertionError_RuntimeError : Nat := 113
def f_runtime_PanicNilError_Error : Nat := 114
def f_runtime_PanicNilError_RuntimeError : Nat := 115
def f_internal_abi_Type_Align : Nat := 116
def f_internal_runtime_maps_unhashableTypeError_Error : Nat := 117
def f_internal_runtime_maps_unhashableTypeError_RuntimeError : Nat := 118
def f_m_Tape_Natural : Nat := 119
def f_internal_abi_Kind_String : Nat := 120
def ty__ : Nat := 0
def ty_func_ : Nat := 1
def ty_int64 : Nat := 2
def ty_int : Nat := 3
def ty_bool : Nat := 4
def ty_uint8 : Nat := 5
def ty_abi_BoundsErrorCode : Nat := 6
def ty_struct_x_int64_y_int_signed_bool_code_abi_BoundsErrorCode_ : Nat := 7
def ty_runtime_boundsError : Nat := 8
def ty_string : Nat := 9
def ty_runtime_errorString : Nat := 10
def ty_runtime_plainError : Nat := 11
def ty_uintptr : Nat := 12
def ty_struct_msg_string_addr_uintptr_ : Nat := 13
def ty_runtime_errorAddressString : Nat := 14
def ty_P_runtime_TypeAssertionError : Nat := 15
def ty_P_runtime_PanicNilError : Nat := 16
def ty_P_abi_Type : Nat := 17
def ty_struct_typ_P_abi_Type_ : Nat := 18
def ty_maps_unhashableTypeError : Nat := 19
def ty_interface_ : Nat := 20
def ty_int32 : Nat := 21
def ty_L_int : Nat := 22
def ty_P_corporamade_Tape : Nat := 23
def ty_func_L_int_P_corporamade_Tape : Nat := 24
def ty_L_Attribute : Nat := 25
def ty_L_L_string : Nat := 26
def ty_L_Text : Nat := 27
def ty_L_Region : Nat := 28
def ty_L_Node : Nat := 29
def ty_L_string : Nat := 30
def ty_struct_Attributes_L_Attribute_Tokens_L_L_string_Texts_L_Text_Regions_L_Region_Nodes_L_Node_Heads_L_int_Relations_L_string_ : Nat := 31
def ty_Corpus : Nat := 32
def ty_func_int_Corpus : Nat := 33
def ty_L_Span : Nat := 34
def ty_func_Corpus_int_L_Span : Nat := 35
def ty_func_L_Span_L_Span_L_Span : Nat := 36
def ty_func_L_Span_L_Span_bool : Nat := 37
def ty_func_Corpus_L_Span_bool : Nat := 38
def ty_func_bool : Nat := 39
def ty_func_L_int_bool : Nat := 40
def ty_func_int_string : Nat := 41
def ty_func_int_int : Nat := 42
def ty_func_Corpus_L_Span_string_L_Span : Nat := 43
def ty_struct_Begin_int_End_int_ : Nat := 44
def ty_Span : Nat := 45
def ty_func_Span_Span_bool : Nat := 46
def ty_struct_L_L_int_At_int_ : Nat := 47
def ty_corporamade_Tape : Nat := 48
def ty_func_string_int_Corpus : Nat := 49
def ty_Errno : Nat := 50
def ty__Corpus_Errno_ : Nat := 51
def ty_func_Corpus_Corpus_Corpus_Errno_ : Nat := 52
def ty_L_Match : Nat := 53
def ty_func_Corpus_int_int_L_Match : Nat := 54
def ty_struct_Begin_int_End_int_Labels_L_int_ : Nat := 55
def ty_Match : Nat := 56
def ty_func_L_Span_func_Span_bool_L_Span : Nat := 57
def ty_func_L_Span_Span_bool : Nat := 58
def ty_func_Span_bool : Nat := 59
def ty_func_L_Span_L_Span : Nat := 60
def ty_func_Span_L_Span_bool : Nat := 61
def ty_func_Corpus_int_int : Nat := 62
def ty_L_Pair : Nat := 63
def ty_struct_Name_string_Begin_int_End_int_Meta_L_Pair_ : Nat := 64
def ty_Text : Nat := 65
def ty_func_Span_Span_int : Nat := 66
def ty_func_int_int_int : Nat := 67
def ty_func_Corpus_string_Span_int : Nat := 68
def ty_struct_Type_string_Begin_int_End_int_Keys_L_Pair_ : Nat := 69
def ty_Region : Nat := 70
def ty_func_L_Span_Span_L_Span : Nat := 71
def ty_func_L_Attribute : Nat := 72
def ty_struct_Name_string_Value_string_ : Nat := 73
def ty_Pair : Nat := 74
def ty_func_L_Region_L_Region : Nat := 75
def ty_func_P_Corpus_ : Nat := 76
def ty_P_Corpus : Nat := 77
def ty_func_Corpus_bool : Nat := 78
def ty_func_L_Attribute_L_Attribute_bool : Nat := 79
def ty_func_Corpus_string_int : Nat := 80
def ty_struct_Label_string_Begin_int_End_int_Parent_int_ : Nat := 81
def ty_Node : Nat := 82
def ty__L_int_L_string_ : Nat := 83
def ty_func_Corpus_L_int_L_string_ : Nat := 84
def ty_func_L_Span_Span_int : Nat := 85
def ty_L_L_Span : Nat := 86
def ty_func_L_Span_func_Span_Span_int_ : Nat := 87
def ty_func_L_Span_L_Spanx : Nat := 88
def ty_func_L_Span_func_Span_bool_bool : Nat := 89
def ty_func_int_intx : Nat := 90
def ty_func_func_int_Region_bool_ : Nat := 91
def ty_iter_Seq2_int_Region_ : Nat := 92
def ty_func_Corpus_string_iter_Seq2_int_Region_ : Nat := 93
def ty_func_int_Region_Span_bool : Nat := 94
def ty_struct_Name_string_Set_bool_ : Nat := 95
def ty_Attribute : Nat := 96
def ty_func_Region_Region_int : Nat := 97
def ty__int_int_Errno_ : Nat := 98
def ty_func_Corpus_int_int_Errno_ : Nat := 99
def ty_func_L_Span_func_Span_bool_int : Nat := 100
def ty_func_L_Span_int_L_Span : Nat := 101
def ty_func_L_Span_int_int_int_func_Span_Span_int_ : Nat := 102
def ty_func_uint_int : Nat := 103
def ty_uint : Nat := 104
def ty_func_int_bool : Nat := 105
def ty_func_int_Region_bool : Nat := 106
def ty_func_bool_int : Nat := 107
def ty_func_string_string_int : Nat := 108
def ty__int_Errno_ : Nat := 109
def ty_func_L_Attribute_int_Errno_ : Nat := 110
def ty_func_Corpus_int_Errno_ : Nat := 111
def ty_func_L_Node_Corpus_int_Errno_ : Nat := 112
def ty_func_L_Span_int_int_func_Span_Span_int_ : Nat := 113
def ty_slices_sortedHint : Nat := 114
def ty__int_slices_sortedHint_ : Nat := 115
def ty_func_L_Span_int_int_func_Span_Span_int_int_slices_sortedHint_ : Nat := 116
def ty_func_L_Span_int_int_func_Span_Span_int_bool : Nat := 117
def ty_func_L_Span_int_int_int_func_Span_Span_int_int : Nat := 118
def ty__int_bool_ : Nat := 119
def ty_func_L_Span_int_int_int_func_Span_Span_int_int_bool_ : Nat := 120
def ty_func_uint32_int : Nat := 121
def ty_uint32 : Nat := 122
def ty_func_uint64_int : Nat := 123
def ty_uint64 : Nat := 124
def ty_func_string_bool : Nat := 125
def ty_func_Attribute_string_Errno : Nat := 126
def ty_func_L_Pair_Errno : Nat := 127
def ty_func_Corpus_int_int_bool : Nat := 128
def ty_func_L_int_L_string_bool : Nat := 129
def ty_func_L_int_int_bool : Nat := 130
def ty_slices_xorshift : Nat := 131
def ty_func_int_uint : Nat := 132
def ty_func_uint64 : Nat := 133
def ty_func_L_Span_int_P_int_func_Span_Span_int_int : Nat := 134
def ty_P_int : Nat := 135
def ty_func_L_Span_int_int_int_P_int_func_Span_Span_int_int : Nat := 136
def ty_func_uint8_bool : Nat := 137
def ty__L_string_Errno_ : Nat := 138
def ty_func_string_L_string_Errno_ : Nat := 139
def ty_func_string_Errno : Nat := 140
def ty_P_slices_xorshift : Nat := 141
def ty__int_int_ : Nat := 142
def ty_func_L_Span_int_int_P_int_func_Span_Span_int_int_int_ : Nat := 143
def ty_L_uint8 : Nat := 144
def ty_L_corporaref01_Unit : Nat := 145
def ty_func_string_L_corporaref01_Unit : Nat := 146
def ty_struct_R_int32_At_int_Size_int_OK_bool_ : Nat := 147
def ty_corporaref01_Unit : Nat := 148
def ty_func_string : Nat := 149
def ty_struct_interface_P_abi_Type_concrete_P_abi_Type_asserted_P_abi_Type_missingMethod_string_ : Nat := 150
def ty_runtime_TypeAssertionError : Nat := 151
def ty__0_P_runtime_PanicNilError : Nat := 152
def ty_struct_0_P_runtime_PanicNilError_ : Nat := 153
def ty_runtime_PanicNilError : Nat := 154
def ty_func_int : Nat := 155
def ty_abi_TFlag : Nat := 156
def ty_abi_Kind : Nat := 157
def ty_func_unsafe_Pointer_unsafe_Pointer_bool : Nat := 158
def ty_P_uint8 : Nat := 159
def ty_abi_NameOff : Nat := 160
def ty_abi_TypeOff : Nat := 161
def ty_struct_Size_uintptr_PtrBytes_uintptr_Hash_uint32_TFlag_abi_TFlag_Align_uint8_FieldAlign_uint8_Kind_abi_Kind_Equal_func_unsafe_Pointer_unsafe_Pointer_bool_GCData_P_uint8_Str_abi_NameOff_PtrToThis_abi_TypeOff_ : Nat := 162
def ty_abi_Type : Nat := 163
def ty_unsafe_Pointer : Nat := 164
theorem mixed : Try.prog.follows .mixedOrders = true := by kernel_rfl
def f_r24_TextOf : Nat := 900000
def f_r30_has : Nat := 900001
def f_r30_within : Nat := 900002
end Go.Gv
