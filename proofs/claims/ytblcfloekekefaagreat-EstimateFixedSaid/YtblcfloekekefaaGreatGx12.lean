/- A part of the framework and of the walks: V1 L1 Cd Cc W1. -/
import Derived.Test.YtblcfloekekefaaGreatProg
import Derived.Test.YtblcfloekekefaaGreatGx11

namespace Go.Gv
set_option linter.unusedSimpArgs false
set_option linter.unusedVariables false
open Cod (enc dec)
abbrev B := ByteArray
structure I32 where
  val : Int
deriving DecidableEq
instance : Cod I32 where
  wd := 1
  enc n := .v (.int .i32 n.val)
  dec | .v (.int .i32 n) => some ⟨n⟩ | _ => none
  kn _ := rfl
  wid _ := rfl
  dec_enc _ := rfl
  le d x h := by
    split at h
    · cases h; exact .same _
    · cases h
@[simp] theorem enc_i32 (n : I32) : enc n = .v (.int .i32 n.val) := id rfl
@[simp] theorem wd_i32 : Cod.wd I32 = 1 := id rfl
@[simp] theorem dec_i32 (n : Int) : dec (X := I32) (.v (.int .i32 n)) = some ⟨n⟩ := id rfl
@[simp] theorem eta_i32 (n : I32) : I32.mk n.val = n := id rfl
structure U8 where
  val : Int
deriving DecidableEq
instance : Cod U8 where
  wd := 1
  enc n := .v (.int .u8 n.val)
  dec | .v (.int .u8 n) => some ⟨n⟩ | _ => none
  kn _ := rfl
  wid _ := rfl
  dec_enc _ := rfl
  le d x h := by
    split at h
    · cases h; exact .same _
    · cases h
@[simp] theorem enc_u8 (n : U8) : enc n = .v (.int .u8 n.val) := id rfl
@[simp] theorem wd_u8 : Cod.wd U8 = 1 := id rfl
@[simp] theorem dec_u8 (n : Int) : dec (X := U8) (.v (.int .u8 n)) = some ⟨n⟩ := id rfl
@[simp] theorem eta_u8 (n : U8) : U8.mk n.val = n := id rfl

structure Pair where
  nm : B
  vl : B
deriving DecidableEq
instance : Cod Pair where
  wd := 2
  enc s := .agg [enc s.nm, enc s.vl]
  dec | .agg [x0, x1] => (dec x0).bind fun x0 => (dec x1).bind fun x1 => some ⟨x0, x1⟩ | _ => none
  kn _ := rfl
  wid _ := rfl
  dec_enc s := by simp
  le d x h := by
    split at h
    · simp only [Option.bind_eq_some_iff] at h
      obtain ⟨x0, h0, x1, h1, h⟩ := h
      cases h
      exact LeL.agg (.cons (Cod.le _ _ h0) (.cons (Cod.le _ _ h1) .nil))
    · cases h
@[simp] theorem eta_Pair (s : Pair) : (Pair.mk s.nm s.vl) = s := id rfl
@[simp] theorem enc_Pair (s : Pair) : enc s = .agg [enc s.nm, enc s.vl] := id rfl
@[simp] theorem wd_Pair : Cod.wd Pair = 2 := id rfl
@[simp] theorem dec_Pair (x0 x1 : D) : dec (X := Pair) (.agg [x0, x1]) = ((dec x0).bind fun x0 => (dec x1).bind fun x1 => some ⟨x0, x1⟩) := id rfl

structure Attr where
  nm : B
  st : Bool
deriving DecidableEq
instance : Cod Attr where
  wd := 2
  enc s := .agg [enc s.nm, enc s.st]
  dec | .agg [x0, x1] => (dec x0).bind fun x0 => (dec x1).bind fun x1 => some ⟨x0, x1⟩ | _ => none
  kn _ := rfl
  wid _ := rfl
  dec_enc s := by simp
  le d x h := by
    split at h
    · simp only [Option.bind_eq_some_iff] at h
      obtain ⟨x0, h0, x1, h1, h⟩ := h
      cases h
      exact LeL.agg (.cons (Cod.le _ _ h0) (.cons (Cod.le _ _ h1) .nil))
    · cases h
@[simp] theorem eta_Attr (s : Attr) : (Attr.mk s.nm s.st) = s := id rfl
@[simp] theorem enc_Attr (s : Attr) : enc s = .agg [enc s.nm, enc s.st] := id rfl
@[simp] theorem wd_Attr : Cod.wd Attr = 2 := id rfl
@[simp] theorem dec_Attr (x0 x1 : D) : dec (X := Attr) (.agg [x0, x1]) = ((dec x0).bind fun x0 => (dec x1).bind fun x1 => some ⟨x0, x1⟩) := id rfl

structure Span where
  b : Int
  e : Int
deriving DecidableEq
instance : Cod Span where
  wd := 2
  enc s := .agg [enc s.b, enc s.e]
  dec | .agg [x0, x1] => (dec x0).bind fun x0 => (dec x1).bind fun x1 => some ⟨x0, x1⟩ | _ => none
  kn _ := rfl
  wid _ := rfl
  dec_enc s := by simp
  le d x h := by
    split at h
    · simp only [Option.bind_eq_some_iff] at h
      obtain ⟨x0, h0, x1, h1, h⟩ := h
      cases h
      exact LeL.agg (.cons (Cod.le _ _ h0) (.cons (Cod.le _ _ h1) .nil))
    · cases h
@[simp] theorem eta_Span (s : Span) : (Span.mk s.b s.e) = s := id rfl
@[simp] theorem enc_Span (s : Span) : enc s = .agg [enc s.b, enc s.e] := id rfl
@[simp] theorem wd_Span : Cod.wd Span = 2 := id rfl
@[simp] theorem dec_Span (x0 x1 : D) : dec (X := Span) (.agg [x0, x1]) = ((dec x0).bind fun x0 => (dec x1).bind fun x1 => some ⟨x0, x1⟩) := id rfl

structure Text where
  nm : B
  b : Int
  e : Int
  kv : List Pair
deriving DecidableEq
instance : Cod Text where
  wd := 4
  enc s := .agg [enc s.nm, enc s.b, enc s.e, enc s.kv]
  dec | .agg [x0, x1, x2, x3] => (dec x0).bind fun x0 => (dec x1).bind fun x1 => (dec x2).bind fun x2 => (dec x3).bind fun x3 => some ⟨x0, x1, x2, x3⟩ | _ => none
  kn _ := rfl
  wid _ := rfl
  dec_enc s := by simp
  le d x h := by
    split at h
    · simp only [Option.bind_eq_some_iff] at h
      obtain ⟨x0, h0, x1, h1, x2, h2, x3, h3, h⟩ := h
      cases h
      exact LeL.agg (.cons (Cod.le _ _ h0) (.cons (Cod.le _ _ h1) (.cons (Cod.le _ _ h2) (.cons (Cod.le _ _ h3) .nil))))
    · cases h
@[simp] theorem eta_Text (s : Text) : (Text.mk s.nm s.b s.e s.kv) = s := id rfl
@[simp] theorem enc_Text (s : Text) : enc s = .agg [enc s.nm, enc s.b, enc s.e, enc s.kv] := id rfl
@[simp] theorem wd_Text : Cod.wd Text = 4 := id rfl
@[simp] theorem dec_Text (x0 x1 x2 x3 : D) : dec (X := Text) (.agg [x0, x1, x2, x3]) = ((dec x0).bind fun x0 => (dec x1).bind fun x1 => (dec x2).bind fun x2 => (dec x3).bind fun x3 => some ⟨x0, x1, x2, x3⟩) := id rfl

structure Region where
  ty : B
  b : Int
  e : Int
  kv : List Pair
deriving DecidableEq
instance : Cod Region where
  wd := 4
  enc s := .agg [enc s.ty, enc s.b, enc s.e, enc s.kv]
  dec | .agg [x0, x1, x2, x3] => (dec x0).bind fun x0 => (dec x1).bind fun x1 => (dec x2).bind fun x2 => (dec x3).bind fun x3 => some ⟨x0, x1, x2, x3⟩ | _ => none
  kn _ := rfl
  wid _ := rfl
  dec_enc s := by simp
  le d x h := by
    split at h
    · simp only [Option.bind_eq_some_iff] at h
      obtain ⟨x0, h0, x1, h1, x2, h2, x3, h3, h⟩ := h
      cases h
      exact LeL.agg (.cons (Cod.le _ _ h0) (.cons (Cod.le _ _ h1) (.cons (Cod.le _ _ h2) (.cons (Cod.le _ _ h3) .nil))))
    · cases h
@[simp] theorem eta_Region (s : Region) : (Region.mk s.ty s.b s.e s.kv) = s := id rfl
@[simp] theorem enc_Region (s : Region) : enc s = .agg [enc s.ty, enc s.b, enc s.e, enc s.kv] := id rfl
@[simp] theorem wd_Region : Cod.wd Region = 4 := id rfl
@[simp] theorem dec_Region (x0 x1 x2 x3 : D) : dec (X := Region) (.agg [x0, x1, x2, x3]) = ((dec x0).bind fun x0 => (dec x1).bind fun x1 => (dec x2).bind fun x2 => (dec x3).bind fun x3 => some ⟨x0, x1, x2, x3⟩) := id rfl

structure Node where
  lb : B
  b : Int
  e : Int
  par : Int
deriving DecidableEq
instance : Cod Node where
  wd := 4
  enc s := .agg [enc s.lb, enc s.b, enc s.e, enc s.par]
  dec | .agg [x0, x1, x2, x3] => (dec x0).bind fun x0 => (dec x1).bind fun x1 => (dec x2).bind fun x2 => (dec x3).bind fun x3 => some ⟨x0, x1, x2, x3⟩ | _ => none
  kn _ := rfl
  wid _ := rfl
  dec_enc s := by simp
  le d x h := by
    split at h
    · simp only [Option.bind_eq_some_iff] at h
      obtain ⟨x0, h0, x1, h1, x2, h2, x3, h3, h⟩ := h
      cases h
      exact LeL.agg (.cons (Cod.le _ _ h0) (.cons (Cod.le _ _ h1) (.cons (Cod.le _ _ h2) (.cons (Cod.le _ _ h3) .nil))))
    · cases h
@[simp] theorem eta_Node (s : Node) : (Node.mk s.lb s.b s.e s.par) = s := id rfl
@[simp] theorem enc_Node (s : Node) : enc s = .agg [enc s.lb, enc s.b, enc s.e, enc s.par] := id rfl
@[simp] theorem wd_Node : Cod.wd Node = 4 := id rfl
@[simp] theorem dec_Node (x0 x1 x2 x3 : D) : dec (X := Node) (.agg [x0, x1, x2, x3]) = ((dec x0).bind fun x0 => (dec x1).bind fun x1 => (dec x2).bind fun x2 => (dec x3).bind fun x3 => some ⟨x0, x1, x2, x3⟩) := id rfl

structure Corpus where
  attrs : List Attr
  toks : List (List B)
  texts : List Text
  regs : List Region
  nodes : List Node
  heads : List Int
  rels : List B
deriving DecidableEq
instance : Cod Corpus where
  wd := 7
  enc s := .agg [enc s.attrs, enc s.toks, enc s.texts, enc s.regs, enc s.nodes, enc s.heads, enc s.rels]
  dec | .agg [x0, x1, x2, x3, x4, x5, x6] => (dec x0).bind fun x0 => (dec x1).bind fun x1 => (dec x2).bind fun x2 => (dec x3).bind fun x3 => (dec x4).bind fun x4 => (dec x5).bind fun x5 => (dec x6).bind fun x6 => some ⟨x0, x1, x2, x3, x4, x5, x6⟩ | _ => none
  kn _ := rfl
  wid _ := rfl
  dec_enc s := by simp
  le d x h := by
    split at h
    · simp only [Option.bind_eq_some_iff] at h
      obtain ⟨x0, h0, x1, h1, x2, h2, x3, h3, x4, h4, x5, h5, x6, h6, h⟩ := h
      cases h
      exact LeL.agg (.cons (Cod.le _ _ h0) (.cons (Cod.le _ _ h1) (.cons (Cod.le _ _ h2) (.cons (Cod.le _ _ h3) (.cons (Cod.le _ _ h4) (.cons (Cod.le _ _ h5) (.cons (Cod.le _ _ h6) .nil)))))))
    · cases h
@[simp] theorem eta_Corpus (s : Corpus) : (Corpus.mk s.attrs s.toks s.texts s.regs s.nodes s.heads s.rels) = s := id rfl
@[simp] theorem enc_Corpus (s : Corpus) : enc s = .agg [enc s.attrs, enc s.toks, enc s.texts, enc s.regs, enc s.nodes, enc s.heads, enc s.rels] := id rfl
@[simp] theorem wd_Corpus : Cod.wd Corpus = 7 := id rfl
@[simp] theorem dec_Corpus (x0 x1 x2 x3 x4 x5 x6 : D) : dec (X := Corpus) (.agg [x0, x1, x2, x3, x4, x5, x6]) = ((dec x0).bind fun x0 => (dec x1).bind fun x1 => (dec x2).bind fun x2 => (dec x3).bind fun x3 => (dec x4).bind fun x4 => (dec x5).bind fun x5 => (dec x6).bind fun x6 => some ⟨x0, x1, x2, x3, x4, x5, x6⟩) := id rfl

structure Match where
  b : Int
  e : Int
  lbs : List Int
deriving DecidableEq
instance : Cod Match where
  wd := 3
  enc s := .agg [enc s.b, enc s.e, enc s.lbs]
  dec | .agg [x0, x1, x2] => (dec x0).bind fun x0 => (dec x1).bind fun x1 => (dec x2).bind fun x2 => some ⟨x0, x1, x2⟩ | _ => none
  kn _ := rfl
  wid _ := rfl
  dec_enc s := by simp
  le d x h := by
    split at h
    · simp only [Option.bind_eq_some_iff] at h
      obtain ⟨x0, h0, x1, h1, x2, h2, h⟩ := h
      cases h
      exact LeL.agg (.cons (Cod.le _ _ h0) (.cons (Cod.le _ _ h1) (.cons (Cod.le _ _ h2) .nil)))
    · cases h
@[simp] theorem eta_Match (s : Match) : (Match.mk s.b s.e s.lbs) = s := id rfl
@[simp] theorem enc_Match (s : Match) : enc s = .agg [enc s.b, enc s.e, enc s.lbs] := id rfl
@[simp] theorem wd_Match : Cod.wd Match = 3 := id rfl
@[simp] theorem dec_Match (x0 x1 x2 : D) : dec (X := Match) (.agg [x0, x1, x2]) = ((dec x0).bind fun x0 => (dec x1).bind fun x1 => (dec x2).bind fun x2 => some ⟨x0, x1, x2⟩) := id rfl

structure Source where
  leaf : Int
  off : Int
deriving DecidableEq
instance : Cod Source where
  wd := 2
  enc s := .agg [enc s.leaf, enc s.off]
  dec | .agg [x0, x1] => (dec x0).bind fun x0 => (dec x1).bind fun x1 => some ⟨x0, x1⟩ | _ => none
  kn _ := rfl
  wid _ := rfl
  dec_enc s := by simp
  le d x h := by
    split at h
    · simp only [Option.bind_eq_some_iff] at h
      obtain ⟨x0, h0, x1, h1, h⟩ := h
      cases h
      exact LeL.agg (.cons (Cod.le _ _ h0) (.cons (Cod.le _ _ h1) .nil))
    · cases h
@[simp] theorem eta_Source (s : Source) : (Source.mk s.leaf s.off) = s := id rfl
@[simp] theorem enc_Source (s : Source) : enc s = .agg [enc s.leaf, enc s.off] := id rfl
@[simp] theorem wd_Source : Cod.wd Source = 2 := id rfl
@[simp] theorem dec_Source (x0 x1 : D) : dec (X := Source) (.agg [x0, x1]) = ((dec x0).bind fun x0 => (dec x1).bind fun x1 => some ⟨x0, x1⟩) := id rfl

structure Unit01 where
  r : I32
  pos : Int
  sz : Int
  ok : Bool
deriving DecidableEq
instance : Cod Unit01 where
  wd := 4
  enc s := .agg [enc s.r, enc s.pos, enc s.sz, enc s.ok]
  dec | .agg [x0, x1, x2, x3] => (dec x0).bind fun x0 => (dec x1).bind fun x1 => (dec x2).bind fun x2 => (dec x3).bind fun x3 => some ⟨x0, x1, x2, x3⟩ | _ => none
  kn _ := rfl
  wid _ := rfl
  dec_enc s := by simp
  le d x h := by
    split at h
    · simp only [Option.bind_eq_some_iff] at h
      obtain ⟨x0, h0, x1, h1, x2, h2, x3, h3, h⟩ := h
      cases h
      exact LeL.agg (.cons (Cod.le _ _ h0) (.cons (Cod.le _ _ h1) (.cons (Cod.le _ _ h2) (.cons (Cod.le _ _ h3) .nil))))
    · cases h
@[simp] theorem eta_Unit01 (s : Unit01) : (Unit01.mk s.r s.pos s.sz s.ok) = s := id rfl
@[simp] theorem enc_Unit01 (s : Unit01) : enc s = .agg [enc s.r, enc s.pos, enc s.sz, enc s.ok] := id rfl
@[simp] theorem wd_Unit01 : Cod.wd Unit01 = 4 := id rfl
@[simp] theorem dec_Unit01 (x0 x1 x2 x3 : D) : dec (X := Unit01) (.agg [x0, x1, x2, x3]) = ((dec x0).bind fun x0 => (dec x1).bind fun x1 => (dec x2).bind fun x2 => (dec x3).bind fun x3 => some ⟨x0, x1, x2, x3⟩) := id rfl

structure Filter where
  op : Int
  neg : Bool
  reg : B
deriving DecidableEq
instance : Cod Filter where
  wd := 3
  enc s := .agg [enc s.op, enc s.neg, enc s.reg]
  dec | .agg [x0, x1, x2] => (dec x0).bind fun x0 => (dec x1).bind fun x1 => (dec x2).bind fun x2 => some ⟨x0, x1, x2⟩ | _ => none
  kn _ := rfl
  wid _ := rfl
  dec_enc s := by simp
  le d x h := by
    split at h
    · simp only [Option.bind_eq_some_iff] at h
      obtain ⟨x0, h0, x1, h1, x2, h2, h⟩ := h
      cases h
      exact LeL.agg (.cons (Cod.le _ _ h0) (.cons (Cod.le _ _ h1) (.cons (Cod.le _ _ h2) .nil)))
    · cases h
@[simp] theorem eta_Filter (s : Filter) : (Filter.mk s.op s.neg s.reg) = s := id rfl
@[simp] theorem enc_Filter (s : Filter) : enc s = .agg [enc s.op, enc s.neg, enc s.reg] := id rfl
@[simp] theorem wd_Filter : Cod.wd Filter = 3 := id rfl
@[simp] theorem dec_Filter (x0 x1 x2 : D) : dec (X := Filter) (.agg [x0, x1, x2]) = ((dec x0).bind fun x0 => (dec x1).bind fun x1 => (dec x2).bind fun x2 => some ⟨x0, x1, x2⟩) := id rfl

end Go.Gv

namespace Go.Gv
set_option linter.unusedSimpArgs false
set_option linter.unusedVariables false

theorem take_snoc {α : Type} {l : List α} {k : Nat} {a : α} (h : l[k]? = some a) : l.take (k + 1) = l.take k ++ [a] := by
  rw [List.take_add_one, h]; rfl
theorem drop_cons_of {α : Type} {l : List α} {k : Nat} {a : α} (h : l[k]? = some a) : l.drop k = a :: l.drop (k + 1) := by
  obtain ⟨hk, rfl⟩ := List.getElem?_eq_some_iff.1 h
  exact List.drop_eq_getElem_cons hk
theorem mem_at {α : Type} {l : List α} {k : Nat} {a : α} (h : l[k]? = some a) : a ∈ l := List.mem_of_getElem? h
theorem lt_at {α : Type} {l : List α} {k : Nat} {a : α} (h : l[k]? = some a) : k < l.length := (List.getElem?_eq_some_iff.1 h).1
theorem at_lt {α : Type} {l : List α} {k : Nat} (h : k < l.length) : ∃ a, l[k]? = some a := ⟨l[k], List.getElem?_eq_getElem h⟩

/-! ### Strict order of spans -/
def ltS (a b : Span) : Prop := a.b < b.b ∨ a.b = b.b ∧ a.e < b.e
instance (a b : Span) : Decidable (ltS a b) := by unfold ltS; infer_instance
theorem ltS_irr (a : Span) : ¬ ltS a a := by unfold ltS; omega
theorem ltS_trans {a b c : Span} (h : ltS a b) (k : ltS b c) : ltS a c := by unfold ltS at *; omega
theorem Span.ext' {a b : Span} (h : a.b = b.b) (k : a.e = b.e) : a = b := by cases a; cases b; simp at h k; simp [h, k]
theorem ltS_tot (a b : Span) : ltS a b ∨ a = b ∨ ltS b a := by
  by_cases h : a.b = b.b ∧ a.e = b.e
  · exact .inr (.inl (Span.ext' h.1 h.2))
  · unfold ltS; omega

/-- A list in strict order. -/
def SS (l : List Span) : Prop := l.Pairwise ltS
theorem SS.nil : SS [] := List.Pairwise.nil
theorem ss_ext : ∀ {a b : List Span}, SS a → SS b → (∀ x, x ∈ a ↔ x ∈ b) → a = b
  | [], [], _, _, _ => rfl
  | [], y :: b, _, _, h => by have := (h y).2 (by simp); simp at this
  | x :: a, [], _, _, h => by have := (h x).1 (by simp); simp at this
  | x :: a, y :: b, ha, hb, h => by
    have ha' := List.pairwise_cons.1 ha
    have hb' := List.pairwise_cons.1 hb
    have hxy : x = y := by
      rcases List.mem_cons.1 ((h x).1 (by simp)) with e | e
      · exact e
      · rcases List.mem_cons.1 ((h y).2 (by simp)) with e2 | e2
        · exact e2.symm
        · exact absurd (ltS_trans (ha'.1 y e2) (hb'.1 x e)) (ltS_irr x)
    subst hxy
    have : a = b := ss_ext ha'.2 hb'.2 fun z => by
      constructor
      · intro hz
        rcases List.mem_cons.1 ((h z).1 (by simp [hz])) with e | e
        · subst e; exact absurd (ha'.1 z hz) (ltS_irr z)
        · exact e
      · intro hz
        rcases List.mem_cons.1 ((h z).2 (by simp [hz])) with e | e
        · subst e; exact absurd (hb'.1 z hz) (ltS_irr z)
        · exact e
    rw [this]

/-- r is the list, in order, of what is in l. -/
def IsNorm (l r : List Span) : Prop := SS r ∧ ∀ x, x ∈ r ↔ x ∈ l
theorem IsNorm.eq {l l' r r' : List Span} (h : IsNorm l r) (k : IsNorm l' r') (hl : ∀ x, x ∈ l ↔ x ∈ l') : r = r' :=
  ss_ext h.1 k.1 fun x => (h.2 x).trans ((hl x).trans (k.2 x).symm)
theorem IsNorm.nil : IsNorm [] [] := ⟨SS.nil, fun _ => Iff.rfl⟩
theorem IsNorm.congr {l l' r : List Span} (h : IsNorm l r) (hl : ∀ x, x ∈ l ↔ x ∈ l') : IsNorm l' r := ⟨h.1, fun x => (h.2 x).trans (hl x)⟩
theorem IsNorm.self {l : List Span} (h : SS l) : IsNorm l l := ⟨h, fun _ => Iff.rfl⟩

theorem ss_len : ∀ {r l : List Span}, SS r → (∀ x ∈ r, x ∈ l) → r.length ≤ l.length
  | [], l, _, _ => Nat.zero_le _
  | x :: r, l, h, hl => by
    have h' := List.pairwise_cons.1 h
    have hx := hl x (by simp)
    have := ss_len (l := l.erase x) h'.2 fun y hy => (List.mem_erase_of_ne (fun (e : y = x) => ltS_irr x (by have := h'.1 y hy; rwa [e] at this))).2 (hl y (by simp [hy]))
    rw [List.length_erase_of_mem hx] at this
    have := List.length_pos_of_mem hx
    simp; omega
theorem IsNorm.len {l r : List Span} (h : IsNorm l r) : r.length ≤ l.length := ss_len h.1 fun x hx => (h.2 x).1 hx
theorem IsNorm.same {l l' r : List Span} (h : IsNorm l r) (hl : ∀ x, x ∈ l' ↔ x ∈ l) : IsNorm l' r := ⟨h.1, fun x => (h.2 x).trans (hl x).symm⟩

/-- Where an element is put. -/
theorem norm_insert {l : List Span} {s : Span} {k : Nat} (h : SS l) (hk : k ≤ l.length) (h1 : ∀ x ∈ l.drop k, ltS s x) (h2 : k = 0 ∨ ∃ y, l[k - 1]? = some y ∧ ¬ ltS s y) :
    (∀ y, 0 < k → l[k - 1]? = some y → y = s → IsNorm (l ++ [s]) l) ∧ ((∀ y, 0 < k → l[k - 1]? = some y → y ≠ s) → IsNorm (l ++ [s]) (l.take k ++ s :: l.drop k)) := by
  constructor
  · intro y _ hy e
    subst e
    refine (IsNorm.self h).congr fun x => ?_
    simp only [List.mem_append, List.mem_singleton]
    exact ⟨.inl, fun hx => hx.elim id fun e => e ▸ mem_at hy⟩
  · intro hne
    have hs : SS (l.take k ++ l.drop k) := by rw [List.take_append_drop]; exact h
    obtain ⟨ha, hb, hab⟩ := List.pairwise_append.1 hs
    have hlt : ∀ x ∈ l.take k, ltS x s := by
      intro x hx
      rcases h2 with rfl | ⟨y, hy, hn⟩
      · simp at hx
      · rcases Nat.eq_zero_or_pos k with rfl | hk0
        · simp at hx
        have hys : ltS y s := by
          rcases ltS_tot y s with h | h | h
          · exact h
          · exact absurd h (hne y hk0 hy)
          · exact absurd h hn
        have htk : l.take k = l.take (k - 1) ++ [y] := by
          have := take_snoc hy
          rwa [Nat.sub_add_cancel hk0] at this
        rw [htk] at hx ha
        rcases List.mem_append.1 hx with hx | hx
        · exact ltS_trans ((List.pairwise_append.1 ha).2.2 x hx y (by simp)) hys
        · simp at hx; subst hx; exact hys
    refine ⟨?_, fun x => ?_⟩
    · refine List.pairwise_append.2 ⟨ha, List.pairwise_cons.2 ⟨h1, hb⟩, fun x hx y hy => ?_⟩
      rcases List.mem_cons.1 hy with rfl | hy
      · exact hlt x hx
      · exact hab x hx y hy
    · have : x ∈ l ↔ x ∈ l.take k ∨ x ∈ l.drop k := by
        rw [← List.mem_append, List.take_append_drop]
      simp only [List.mem_append, List.mem_cons, List.mem_singleton, this]
      constructor
      · rintro (h | h | h)
        · exact .inl (.inl h)
        · simp [h]
        · exact .inl (.inr h)
      · rintro ((h | h) | h)
        · exact .inl h
        · exact .inr (.inr h)
        · simp at h; exact .inr (.inl h)

/-! ### Where something stands in a list -/
def idxI {X : Type} : List X → (X → Bool) → Int
  | [], _ => -1
  | x :: l, p => if p x then 0 else if idxI l p < 0 then -1 else idxI l p + 1
theorem idxI_none {X : Type} {p : X → Bool} : ∀ {l : List X}, (∀ y ∈ l, p y = false) → idxI l p = -1
  | [], _ => rfl
  | x :: l, h => by
    have := idxI_none (l := l) (fun y hy => h y (by simp [hy]))
    simp [idxI, h x (by simp), this]
theorem idxI_at {X : Type} {p : X → Bool} : ∀ {l : List X} {k : Nat} {x : X}, l[k]? = some x → p x = true → (∀ y ∈ l.take k, p y = false) → idxI l p = k
  | [], k, x, hx, _, _ => by simp at hx
  | z :: l, 0, x, hx, hp, _ => by
    simp at hx
    subst hx
    simp [idxI, hp]
  | z :: l, k + 1, x, hx, hp, hb => by
    have hz := hb z (by simp)
    have ih := idxI_at (l := l) (k := k) (by simpa using hx) hp (fun y hy => hb y (by simp [hy]))
    simp [idxI, hz, ih]
    omega
theorem idxI_cases {X : Type} (p : X → Bool) (l : List X) : (idxI l p = -1 ∧ ∀ y ∈ l, p y = false) ∨ ∃ k x, idxI l p = (k : Nat) ∧ l[k]? = some x ∧ p x = true ∧ ∀ y ∈ l.take k, p y = false := by
  induction l with
  | nil => exact .inl ⟨rfl, by simp⟩
  | cons z l ih =>
    by_cases hz : p z = true
    · exact .inr ⟨0, z, by simp [idxI, hz], by simp, hz, by simp⟩
    · have hz : p z = false := by simpa using hz
      rcases ih with ⟨h1, h2⟩ | ⟨k, x, h1, h2, h3, h4⟩
      · refine .inl ⟨by simp [idxI, hz, h1], fun y hy => ?_⟩
        rcases List.mem_cons.1 hy with rfl | hy
        · exact hz
        · exact h2 y hy
      · refine .inr ⟨k + 1, x, ?_, by simpa using h2, h3, fun y hy => ?_⟩
        · simp [idxI, hz, h1]; omega
        · rw [List.take_succ_cons] at hy
          rcases List.mem_cons.1 hy with rfl | hy
          · exact hz
          · exact h4 y hy
theorem idxI_ge {X : Type} (p : X → Bool) (l : List X) : decide (0 ≤ idxI l p) = l.any p := by
  rcases idxI_cases p l with ⟨h1, h2⟩ | ⟨k, x, h1, h2, h3, h4⟩
  · have : l.any p = false := by simpa using h2
    rw [h1, this]; rfl
  · have : l.any p = true := List.any_eq_true.2 ⟨x, mem_at h2, h3⟩
    rw [h1, this]; simp
/-! ### Each once -/
def ddS (r : List Span) (x : Span) : List Span := if r.getLast? = some x then r else r ++ [x]
def cptS (l : List Span) : List Span := l.foldl ddS []
theorem cptS_snoc (l : List Span) (x : Span) : cptS (l ++ [x]) = ddS (cptS l) x := by simp [cptS]
theorem list_snoc {α : Type} {P : List α → Prop} (h0 : P []) (hs : ∀ l x, P l → P (l ++ [x])) : ∀ l, P l := by
  intro l
  have : ∀ n (l : List α), l.length = n → P l := by
    intro n
    induction n with
    | zero => intro l hl; rw [List.eq_nil_of_length_eq_zero hl]; exact h0
    | succ n ih =>
      intro l hl
      have hne : l ≠ [] := by intro e; subst e; simp at hl
      rw [← List.dropLast_concat_getLast hne]
      exact hs _ _ (ih _ (by simp [hl]))
  exact this _ l rfl
theorem cptS_last (l : List Span) : (cptS l).getLast? = l.getLast? := by
  refine list_snoc (P := fun l => (cptS l).getLast? = l.getLast?) rfl (fun l x ih => ?_) l
  rw [cptS_snoc, ddS]
  split
  · rename_i h; rw [h]; simp
  · simp
theorem cptS_mem (l : List Span) : ∀ x, x ∈ cptS l ↔ x ∈ l := by
  refine list_snoc (P := fun l => ∀ x, x ∈ cptS l ↔ x ∈ l) (fun x => Iff.rfl) (fun l y ih x => ?_) l
  rw [cptS_snoc, ddS]
  split
  · rename_i h
    rw [cptS_last] at h
    have hy : y ∈ l := List.mem_of_getLast? h
    simp [ih x]
    rintro rfl; exact hy
  · simp [ih x]
/-- In order, with repetitions. -/
def WS (l : List Span) : Prop := l.Pairwise fun a b => ¬ ltS b a
theorem cptS_ss {l : List Span} (h : WS l) : SS (cptS l) := by
  revert h
  refine list_snoc (P := fun l => WS l → SS (cptS l)) (fun _ => SS.nil) (fun l x ih h => ?_) l
  have h' := List.pairwise_append.1 h
  have hs := ih h'.1
  rw [cptS_snoc, ddS]
  split
  · exact hs
  · rename_i hne
    refine List.pairwise_append.2 ⟨hs, by simp, fun a ha b hb => ?_⟩
    simp at hb
    subst hb
    have hal := (cptS_mem l a).1 ha
    rcases ltS_tot a b with h1 | h1 | h1
    · exact h1
    · exfalso
      subst h1
      -- a stands in l, and is the last one: all behind it are equal
      apply hne
      rw [cptS_last]
      obtain ⟨l1, l2, rfl⟩ := List.append_of_mem hal
      have h3 := (List.pairwise_append.1 h'.1).2.1
      have h4 := List.pairwise_cons.1 h3
      cases hl2 : l2.getLast? with
      | none =>
        have : l2 = [] := List.getLast?_eq_none_iff.1 hl2
        subst this
        simp
      | some z =>
        have hz : z ∈ l2 := List.mem_of_getLast? hl2
        have e1 := h4.1 z hz
        have e2 := h'.2.2 z (by simp [hz]) a (by simp)
        have : z = a := by
          rcases ltS_tot z a with k | k | k
          · exact absurd k e1
          · exact k
          · exact absurd k e2
        subst this
        rw [List.getLast?_append, List.getLast?_cons]
        simp [hl2]
    · exact absurd h1 (h'.2.2 a hal b (by simp))
theorem SS.filter {l : List Span} (h : SS l) (p : Span → Bool) : SS (l.filter p) := List.Pairwise.filter p h
theorem IsNorm.filter {l r : List Span} (h : IsNorm l r) (p : Span → Bool) : IsNorm (l.filter p) (r.filter p) := ⟨h.1.filter p, fun x => by simp [h.2 x]⟩
theorem set_encS (l : List Span) (i : Nat) (v : Span) : (l.map Cod.enc).set i (.agg [.v (.int .i64 v.b), .v (.int .i64 v.e)]) = (l.set i v).map Cod.enc := by
  rw [List.map_set]; rfl

theorem cptS_short {l : List Span} (h : l.length < 2) : cptS l = l := by
  match l, h with
  | [], _ => rfl
  | [x], _ => rfl
  | x :: y :: l, h => exact absurd h (by simp only [List.length_cons]; omega)
theorem cptS_one {l : List Span} (h : 1 ≤ l.length) : cptS (l.take 1) = l.take 1 := cptS_short (by simp; omega)

/-- One more element, that is or is not the one before. -/
theorem cptS_step {l : List Span} {j : Nat} {x y : Span} (hj : 1 ≤ j) (hx : l[j]? = some x) (hy : l[j - 1]? = some y) : cptS (l.take (j + 1)) = if x = y then cptS (l.take j) else cptS (l.take j) ++ [x] := by
  rw [take_snoc hx, cptS_snoc, ddS, cptS_last]
  have : (l.take j).getLast? = some y := by
    have e := take_snoc hy
    rw [Nat.sub_add_cancel hj] at e
    rw [e]; simp
  rw [this]
  by_cases h : x = y
  · subst h; simp
  · have : ¬ y = x := fun e => h e.symm
    simp [h, this]
/-- A cell is written between what is done and what is still to be read. -/
theorem set_take_drop {α : Type} {cur l : List α} {k m : Nat} {x : α} (hk : k < cur.length) (hkm : k < m) (hd : cur.drop m = l.drop m) :
    (cur.set k x).take (k + 1) = cur.take k ++ [x] ∧ (cur.set k x).drop m = l.drop m := by
  constructor
  · rw [List.take_add_one]
    simp [List.take_set_of_le, hk]
  · rw [List.drop_set_of_lt hkm, hd]

theorem drop_at {α : Type} {a b : List α} {m i : Nat} (h : a.drop m = b.drop m) (hi : m ≤ i) : a[i]? = b[i]? := by
  have := congrArg (fun l => l[i - m]?) h
  simp only [List.getElem?_drop] at this
  rwa [show m + (i - m) = i by omega] at this
theorem drop_more {α : Type} {a b : List α} {m i : Nat} (h : a.drop m = b.drop m) (hi : m ≤ i) : a.drop i = b.drop i := by
  have := congrArg (fun l => l.drop (i - m)) h
  simp only [List.drop_drop] at this
  rwa [show m + (i - m) = i by omega] at this

end Go.Gv

namespace Go.Gv
open Go.Proofs
def f_law31_EstimateFixed : Nat := 4
def f_m_New : Nat := 7
def f_m_Tape_Query : Nat := 22
def f_r31_Same : Nat := 23
def f_estimate_Fixed : Nat := 24
def f_r31_Fixed : Nat := 25
def f_law31_known : Nat := 26
def f_m_Mod : Nat := 27
def f_m_Tape_Cond : Nat := 28
def f_m_Tape_Pattern : Nat := 29
def f_m_Tape_Next : Nat := 31
def f_m_Bound : Nat := 47
def f_m_bind : Nat := 48
def f_m_Tape_Constraint : Nat := 49
def f_m_Tape_Filter : Nat := 50
def f_query_Size : Nat := 51
def f_estimate_finder_visit : Nat := 52
def f_slices_SortFunc_Source : Nat := 53
def f_estimate_compare : Nat := 54
def f_slices_Compact_Source : Nat := 55
def f_r23_IsPattern : Nat := 56
def f_r23_Size : Nat := 57
def f_r31_fixed : Nat := 58
def f_r23_Parse : Nat := 59
def f_m_Tape_inner : Nat := 60
def f_m_Type : Nat := 61
def f_cmp_Or_int : Nat := 82
def f_cmp_Compare_int : Nat := 83
def f_m_replace : Nat := 84
def f_query_right : Nat := 85
def f_query_size : Nat := 86
def f_query_Width : Nat := 87
def f_estimate_shift : Nat := 88
def f_estimate_times : Nat := 89
def f_r23_shapes : Nat := 92
def f_r23_names : Nat := 93
def f_r23_numbers : Nat := 94
def f_r23_size : Nat := 95
def f_r31_insert : Nat := 96
def f_r23_Width : Nat := 97
def f_r23_Leaves : Nat := 98
def f_r23_scan : Nat := 99
def f_r23_parser_alt : Nat := 100
def f_r23_parser_eat : Nat := 101
def f_r23_parser_gor : Nat := 102
def f_r23_parser_word : Nat := 103
def f_r23_filters : Nat := 104
def f_r23_parser_wrong : Nat := 105
def f_r23_parser_want : Nat := 106
def f_r23_parser_is : Nat := 107
def f_r23_strategies : Nat := 108
def f_r23_parser_now : Nat := 109
def f_cmp_isNaN_int : Nat := 115
def f_query_Shape : Nat := 116
def f_query_every : Nat := 117
def f_query_named : Nat := 118
def f_query_ranged : Nat := 119
def f_query_width : Nat := 120
def f_slices_Sort_int : Nat := 121
def f_slices_Compact_int : Nat := 122
def f_r23_shape : Nat := 133
def f_r04_ValidName : Nat := 134
def f_r31_Less : Nat := 135
def f_r23_width : Nat := 136
def f_r23_leaves : Nat := 137
def f_r23_isLetter : Nat := 138
def f_r23_isDigit : Nat := 139
def f_r23_signs : Nat := 140
def f_r23_parser_seq : Nat := 141
def f_r23_parser_error : Nat := 143
def f_query_shallow : Nat := 160
def f_query_node : Nat := 161
def f_slices_ContainsFunc_Pattern : Nat := 162
def f_query_every_1 : Nat := 163
def f_markup_ValidName : Nat := 164
def f_r22_Same : Nat := 171
def f_r04_First : Nat := 172
def f_r04_Next : Nat := 173
def f_r23_parser_rep : Nat := 174
def f_r23_parser_begins : Nat := 175
def f_query_shallow_1 : Nat := 186
def f_query_zero : Nat := 187
def f_slices_IndexFunc_Pattern : Nat := 188
def f_markup_begins : Nat := 189
def f_markup_goesOn : Nat := 190
def f_r23_parser_item : Nat := 201
def f_r23_parser_number : Nat := 202
def f_r23_parser_next : Nat := 203
def f_r23_parser_tail : Nat := 204
def f_r23_parser_fold : Nat := 207
def f_r23_parser_or : Nat := 214
def ty_int : Nat := 3
def ty_string : Nat := 9
def ty_Cond : Nat := 43
def ty_Pattern : Nat := 46
def ty_Constraint : Nat := 49
def ty_Query : Nat := 52
def ty_Source : Nat := 61
def ty_corporamade_Tape : Nat := 65
def ty_Filter : Nat := 94
def ty_estimate_finder : Nat := 99
def ty_func_Pattern_bool : Nat := 104
def ty__2_int : Nat := 109
def ty_corporaref23_parser : Nat := 148
def ty_corporaref23_token : Nat := 157
theorem mixed : Tryz.prog.follows .mixedOrders = true := by kernel_rfl
end Go.Gv

namespace Go.Gv
open Go.Proofs
-- r27_Same range i=13 n=12 c=14 i2=25 id=0: live [0:a, 1:b] changed [] res []
-- r30_has range i=9 n=8 c=10 i2=16 id=0: live [3:s, 7:] changed [] res []
-- r30_within range i=9 n=8 c=10 i2=16 id=0: live [2:s, 7:] changed [] res []
-- r27_Insert while id=0: live [0:l, 3:s, 5:k] changed [5] res []
-- r30_Unite range i=14 n=13 c=15 i2=21 id=0: live [5:out, 12:] changed [5] res [8, 10, 12]
-- r30_Intersect range i=10 n=9 c=11 i2=20 id=0: live [1:b, 5:out, 8:] changed [5] res []
-- r30_Subtract range i=10 n=9 c=11 i2=21 id=0: live [1:b, 5:out, 8:] changed [5] res []
-- r30_Inside range i=10 n=9 c=11 i2=20 id=0: live [1:b, 5:out, 8:] changed [5] res []
-- cmp_Or_int range i=8 n=7 c=9 i2=16 id=0: live [3:zero, 6:] changed [] res []
/-- cmp.Or[int] [L_int] -> [int] -/
def cc_cmp_Or_int : CC :=
  .seq (.reg [
    .op (some 2) none (.mv (.const (.int .i64 0)))])
  (.keep [0] [] (.seq (.reg [
    .op (some 3) none (.mv (.const (.int .i64 0)))])
  (.keep [0, 3] [] (.seq /- 2 -/ (.seq (.reg [
    .op (some 6) none (.mv (.tmp 0)),
    .op (some 7) none (.len (.tmp 6)),
    .op (some 8) none (.mv (.const (.int .i64 0)))])
  (.keep [3, 6, 7, 8] [] (rangeCC 0 8 7 9 1 (.seq (.reg [
      .op (some 10) none (.iaddr 1 (.tmp 6) (.tmp 8)),
      .op (some 11) none (.load false 1 (.tmp 10)),
      .op (some 5) none (.mv (.tmp 11))])
    (.keep [3, 5, 6, 7, 8] [] (.seq (.reg [
      .op (some 12) none (.mv (.tmp 5)),
      .op (some 13) none (.mv (.tmp 3)),
      .op (some 14) none (.eql true false [.int] (.tmp 12) (.tmp 13))])
    (.keep [3, 5, 6, 7, 8, 14] [] (.ite (.tmp 14) (.seq (.reg [
        .op (some 15) none (.mv (.tmp 5)),
        .op (some 2) none (.mv (.tmp 15))])
      (.keep [2] [] (.ret)))
      (.skip)))))) 16)))
  (.keep [3] [] (.seq (.reg [
    .op (some 17) none (.mv (.tmp 3)),
    .op (some 2) none (.mv (.tmp 17))])
  (.keep [2] [] (.ret))))))))
def rs_cmp_Or_int : List CRes := [.tmp 2]
def im_cmp_Or_int : List Nat := []
theorem ok_cmp_Or_int : FnOk Tryz.prog f_cmp_Or_int im_cmp_Or_int cc_cmp_Or_int rs_cmp_Or_int 18 := fnOk1 mixed (by kernel_rfl)
/-- cmp.Compare[int] [int, int] -> [int] -/
def cc_cmp_Compare_int : CC :=
  .seq (.reg [
    .op (some 4) none (.mv (.const (.int .i64 0)))])
  (.keep [0, 1] [] (.seq (.reg [
    .op (some 7) none (.mv (.tmp 0)),
    .op (some 8) none (.call f_cmp_isNaN_int [(.tmp 7)]),
    .op (some 5) none (.mv (.tmp 8))])
  (.keep [0, 1, 5] [] (.seq (.reg [
    .op (some 9) none (.mv (.tmp 1)),
    .op (some 10) none (.call f_cmp_isNaN_int [(.tmp 9)]),
    .op (some 6) none (.mv (.tmp 10))])
  (.keep [0, 1, 5, 6] [] (.seq /- 3 -/ (.seq (.reg [
    .op (some 11) none (.mv (.tmp 5))])
  (.keep [0, 1, 6, 11] [] (.ite (.tmp 11) (.seq /- 5 -/ (.seq (.reg [
      .op (some 12) none (.mv (.tmp 6))])
    (.keep [12] [] (.ite (.tmp 12) (.seq (.reg [
        .op (some 4) none (.mv (.const (.int .i64 0)))])
      (.keep [4] [] (.ret)))
      (.skip))))
    (.keep [] [] (.seq (.reg [
      .op (some 4) none (.mv (.const (.int .i64 (-1))))])
    (.keep [4] [] (.ret)))))
    (.skip))))
  (.keep [0, 1, 6] [] (.seq /- 9 -/ (.seq (.reg [
    .op (some 13) none (.mv (.tmp 6))])
  (.keep [0, 1, 13] [] (.ite (.tmp 13) (.seq (.reg [
      .op (some 4) none (.mv (.const (.int .i64 1)))])
    (.keep [4] [] (.ret)))
    (.skip))))
  (.keep [0, 1] [] (.seq /- 12 -/ (.seq (.reg [
    .op (some 14) none (.mv (.tmp 0)),
    .op (some 15) none (.mv (.tmp 1)),
    .op (some 16) none (.cmp .lss (.tmp 14) (.tmp 15))])
  (.keep [0, 1, 16] [] (.ite (.tmp 16) (.seq (.reg [
      .op (some 4) none (.mv (.const (.int .i64 (-1))))])
    (.keep [4] [] (.ret)))
    (.skip))))
  (.keep [0, 1] [] (.seq /- 15 -/ (.seq (.reg [
    .op (some 17) none (.mv (.tmp 0)),
    .op (some 18) none (.mv (.tmp 1)),
    .op (some 19) none (.cmp .gtr (.tmp 17) (.tmp 18))])
  (.keep [19] [] (.ite (.tmp 19) (.seq (.reg [
      .op (some 4) none (.mv (.const (.int .i64 1)))])
    (.keep [4] [] (.ret)))
    (.skip))))
  (.keep [] [] (.seq (.reg [
    .op (some 4) none (.mv (.const (.int .i64 0)))])
  (.keep [4] [] (.ret))))))))))))))))
def rs_cmp_Compare_int : List CRes := [.tmp 4]
def im_cmp_Compare_int : List Nat := []
theorem ok_cmp_Compare_int : FnOk Tryz.prog f_cmp_Compare_int im_cmp_Compare_int cc_cmp_Compare_int rs_cmp_Compare_int 20 := fnOk1 mixed (by kernel_rfl)
/-- cmp.isNaN[int] [int] -> [bool] -/
def cc_cmp_isNaN_int : CC :=
  .seq (.reg [
    .op (some 2) none (.mv (.const (.bool false)))])
  (.keep [0] [] (.seq (.reg [
    .op (some 3) none (.mv (.tmp 0)),
    .op (some 4) none (.mv (.tmp 0)),
    .op (some 5) none (.eql true false [.int] (.tmp 3) (.tmp 4)),
    .op (some 2) none (.mv (.tmp 5))])
  (.keep [2] [] (.ret))))
def rs_cmp_isNaN_int : List CRes := [.tmp 2]
def im_cmp_isNaN_int : List Nat := []
theorem ok_cmp_isNaN_int : FnOk Tryz.prog f_cmp_isNaN_int im_cmp_isNaN_int cc_cmp_isNaN_int rs_cmp_isNaN_int 6 := fnOk1 mixed (by kernel_rfl)
/-- corpora/corporamade.Mod [int, int] -> [int] -/
def cc_m_Mod : CC :=
  .seq (.reg [
    .op (some 4) none (.mv (.const (.int .i64 0)))])
  (.keep [0, 1] [] (.seq /- 1 -/ (.seq (.reg [
    .op (some 5) none (.mv (.tmp 1)),
    .op (some 6) none (.cmp .lss (.tmp 5) (.const (.int .i64 1)))])
  (.keep [0, 1, 6] [] (.ite (.tmp 6) (.seq (.reg [
      .op (some 4) none (.mv (.const (.int .i64 0)))])
    (.keep [4] [] (.ret)))
    (.skip))))
  (.keep [0, 1] [] (.seq (.reg [
    .op (some 7) none (.mv (.tmp 0)),
    .op (some 8) none (.mv (.tmp 1)),
    .op (some 9) none (.arith .rem (.tmp 7) (.tmp 8)),
    .op (some 0) none (.mv (.tmp 9))])
  (.keep [0, 1] [] (.seq /- 5 -/ (.seq (.reg [
    .op (some 10) none (.mv (.tmp 0)),
    .op (some 11) none (.cmp .lss (.tmp 10) (.const (.int .i64 0)))])
  (.keep [0, 1, 11] [] (.ite (.tmp 11) (.reg [
      .op (some 12) none (.mv (.tmp 0)),
      .op (some 13) none (.mv (.tmp 1)),
      .op (some 14) none (.arith .add (.tmp 12) (.tmp 13)),
      .op (some 0) none (.mv (.tmp 14))])
    (.skip))))
  (.keep [0] [] (.seq (.reg [
    .op (some 15) none (.mv (.tmp 0)),
    .op (some 4) none (.mv (.tmp 15))])
  (.keep [4] [] (.ret))))))))))
def rs_m_Mod : List CRes := [.tmp 4]
def im_m_Mod : List Nat := []
theorem ok_m_Mod : FnOk Tryz.prog f_m_Mod im_m_Mod cc_m_Mod rs_m_Mod 16 := fnOk1 mixed (by kernel_rfl)
-- slices_Index_Span range i=8 n=7 c=9 i2=18 id=0: live [0:s, 3:v] changed [] res []
-- slices_IndexFunc_Span range i=8 n=7 c=9 i2=18 id=0: live [0:s, 1:f] changed [] res []
-- slices_Concat_Span range i=11 n=10 c=12 i2=22 id=0: live [0:slices, 3:size, 9:] changed [3] res []
-- slices_Concat_Span range i=27 n=26 c=28 i2=34 id=2: live [6:newslice, 25:] changed [6] res [24, 33]
-- slices_Compact_Span while id=0: live [0:s, 3:k] changed [3] res [0]
-- slices_Compact_Span while id=0: live [0:s, 3:k, 4:s2, 5:k2] changed [3, 5] res [0]
-- slices_DeleteFunc_Span while id=0: live [0:s, 1:del, 5:i, 6:j] changed [5, 6] res [0]
-- subcorpus_IsList range i=10 n=9 c=11 i2=53 id=0: live [1:l, 2:c, 8:] changed [] res []
-- corpus_TextAt range i=10 n=9 c=11 i2=26 id=0: live [1:pos, 8:] changed [] res []
-- r30_IsList range i=11 n=10 c=12 i2=74 id=0: live [1:l, 2:c, 9:] changed [] res []
-- r24_TextOf range i=11 n=10 c=12 i2=26 id=0: live [1:token, 4:, 9:] changed [] res [4]
/-- corpora/corporaref04.First [uint8] -> [bool] -/
def cc_r04_First : CC :=
  .seq (.reg [
    .op (some 2) none (.mv (.const (.bool false)))])
  (.keep [0] [] (.seq (.reg [
    .op (some 3) none (.mv (.tmp 0)),
    .op (some 4) none (.eql false false [.int] (.tmp 3) (.const (.int .u8 95))),
    .op (some 5) none (.mv (.tmp 4)),
    .op (some 6) (some (5, false)) (.mv (.tmp 0)),
    .op (some 7) (some (5, false)) (.cmp .geq (.tmp 6) (.const (.int .u8 65))),
    .op (some 8) (some (5, false)) (.mv (.tmp 7)),
    .op (some 9) (some (8, true)) (.mv (.tmp 0)),
    .op (some 10) (some (8, true)) (.cmp .leq (.tmp 9) (.const (.int .u8 90))),
    .op (some 11) (some (5, false)) (.pick (.tmp 8) (.tmp 10) (.const (.bool false))),
    .op (some 12) none (.pick (.tmp 5) (.const (.bool true)) (.tmp 11)),
    .op (some 13) none (.mv (.tmp 12)),
    .op (some 14) (some (13, false)) (.mv (.tmp 0)),
    .op (some 15) (some (13, false)) (.cmp .geq (.tmp 14) (.const (.int .u8 97))),
    .op (some 16) (some (13, false)) (.mv (.tmp 15)),
    .op (some 17) (some (16, true)) (.mv (.tmp 0)),
    .op (some 18) (some (16, true)) (.cmp .leq (.tmp 17) (.const (.int .u8 122))),
    .op (some 19) (some (13, false)) (.pick (.tmp 16) (.tmp 18) (.const (.bool false))),
    .op (some 20) none (.pick (.tmp 13) (.const (.bool true)) (.tmp 19)),
    .op (some 2) none (.mv (.tmp 20))])
  (.keep [2] [] (.ret))))
def rs_r04_First : List CRes := [.tmp 2]
def im_r04_First : List Nat := []
theorem ok_r04_First : FnOk Tryz.prog f_r04_First im_r04_First cc_r04_First rs_r04_First 21 := fnOk1 mixed (by kernel_rfl)
/-- corpora/corporaref04.Next [uint8] -> [bool] -/
def cc_r04_Next : CC :=
  .seq (.reg [
    .op (some 2) none (.mv (.const (.bool false)))])
  (.keep [0] [] (.seq (.reg [
    .op (some 3) none (.mv (.tmp 0)),
    .op (some 4) none (.call f_r04_First [(.tmp 3)]),
    .op (some 5) none (.mv (.tmp 4)),
    .op (some 6) (some (5, false)) (.mv (.tmp 0)),
    .op (some 7) (some (5, false)) (.cmp .geq (.tmp 6) (.const (.int .u8 48))),
    .op (some 8) (some (5, false)) (.mv (.tmp 7)),
    .op (some 9) (some (8, true)) (.mv (.tmp 0)),
    .op (some 10) (some (8, true)) (.cmp .leq (.tmp 9) (.const (.int .u8 57))),
    .op (some 11) (some (5, false)) (.pick (.tmp 8) (.tmp 10) (.const (.bool false))),
    .op (some 12) none (.pick (.tmp 5) (.const (.bool true)) (.tmp 11)),
    .op (some 13) none (.mv (.tmp 12)),
    .op (some 14) (some (13, false)) (.mv (.tmp 0)),
    .op (some 15) (some (13, false)) (.eql false false [.int] (.tmp 14) (.const (.int .u8 45))),
    .op (some 16) none (.pick (.tmp 13) (.const (.bool true)) (.tmp 15)),
    .op (some 2) none (.mv (.tmp 16))])
  (.keep [2] [] (.ret))))
def rs_r04_Next : List CRes := [.tmp 2]
def im_r04_Next : List Nat := []
theorem ok_r04_Next : FnOk Tryz.prog f_r04_Next im_r04_Next cc_r04_Next rs_r04_Next 17 := fnOk1 mixed (by kernel_rfl)
-- r04_ValidName while id=0: live [0:s, 3:i] changed [3] res []
/-- corpora/corporaref04.ValidName [string] -> [bool] -/
def cc_r04_ValidName : CC :=
  .seq (.reg [
    .op (some 2) none (.mv (.const (.bool false)))])
  (.keep [0] [] (.seq /- 1 -/ (.seq (.reg [
    .op (some 4) none (.mv (.tmp 0)),
    .op (some 5) none (.slen (.tmp 4)),
    .op (some 6) none (.cmp .lss (.tmp 5) (.const (.int .i64 1))),
    .op (some 7) none (.mv (.tmp 6)),
    .op (some 8) (some (7, false)) (.mv (.tmp 0)),
    .op (some 9) (some (7, false)) (.slen (.tmp 8)),
    .op (some 10) (some (7, false)) (.cmp .gtr (.tmp 9) (.const (.int .i64 32))),
    .op (some 11) none (.pick (.tmp 7) (.const (.bool true)) (.tmp 10)),
    .op (some 12) none (.mv (.tmp 11)),
    .op (some 13) (some (12, false)) (.mv (.tmp 0)),
    .op (some 14) (some (12, false)) (.sidx (.tmp 13) (.const (.int .i64 0))),
    .op (some 15) (some (12, false)) (.call f_r04_First [(.tmp 14)]),
    .op (some 16) (some (12, false)) (.not (.tmp 15)),
    .op (some 17) none (.pick (.tmp 12) (.const (.bool true)) (.tmp 16))])
  (.keep [0, 17] [] (.ite (.tmp 17) (.seq (.reg [
      .op (some 2) none (.mv (.const (.bool false)))])
    (.keep [2] [] (.ret)))
    (.skip))))
  (.keep [0] [] (.seq /- 4 -/ (.seq (.reg [
    .op (some 3) none (.mv (.const (.int .i64 1)))])
  (.keep [0, 3] [] (.block 0 (.loop 1 (.seq /- 6 -/ (.seq (.reg [
        .op (some 18) none (.mv (.tmp 3)),
        .op (some 19) none (.mv (.tmp 0)),
        .op (some 20) none (.slen (.tmp 19)),
        .op (some 21) none (.cmp .lss (.tmp 18) (.tmp 20))])
      (.keep [0, 3, 21] [] (.ite (.tmp 21) (.skip)
        (.exit 0))))
      (.keep [0, 3] [] (.seq /- 8 -/ (.block 1 (.seq (.reg [
          .op (some 24) none (.mv (.tmp 0)),
          .op (some 25) none (.mv (.tmp 3)),
          .op (some 26) none (.sidx (.tmp 24) (.tmp 25)),
          .op (some 27) none (.call f_r04_Next [(.tmp 26)]),
          .op (some 28) none (.not (.tmp 27))])
        (.keep [0, 3, 28] [] (.ite (.tmp 28) (.seq (.reg [
            .op (some 2) none (.mv (.const (.bool false)))])
          (.keep [2] [] (.ret)))
          (.skip)))))
      (.keep [0, 3] [] (.reg [
        .op (some 22) none (.mv (.tmp 3)),
        .op (some 23) none (.arith .add (.tmp 22) (.const (.int .i64 1))),
        .op (some 3) none (.mv (.tmp 23))])))))))))
  (.keep [] [] (.seq (.reg [
    .op (some 2) none (.mv (.const (.bool true)))])
  (.keep [2] [] (.ret))))))))
def rs_r04_ValidName : List CRes := [.tmp 2]
def im_r04_ValidName : List Nat := []
theorem ok_r04_ValidName : FnOk Tryz.prog f_r04_ValidName im_r04_ValidName cc_r04_ValidName rs_r04_ValidName 29 := fnOk1 mixed (by kernel_rfl)
-- r04_ValidValue range i=14 n=13 c=15 i2=24 id=0: live [12:] changed [] res []
-- r01_Units while id=0: live [0:s, 3:l, 8:] changed [3] res [8, 36]
-- r01_Units range i=58 n=57 c=59 i2=79 id=2: live [3:l] changed [] res [8, 36]
-- r01_Valid range i=8 n=7 c=9 i2=15 id=0: live [6:] changed [] res []
-- r05_Parse while id=0: live [0:s, 5:n, 6:l, 7:from, 8:i] changed [6, 7, 8] res [49]
-- r05_Parse while id=0: live [6:l, 9:i] changed [9] res [49]
-- r06_CompareRegions while id=0: live [2:a, 3:b, 5:i] changed [5] res []
-- r06_SortRegions range i=9 n=8 c=10 i2=45 id=0: live [3:m, 7:] changed [3] res [32]
-- r06_SortRegions while id=0: live [3:m, 5:x, 6:k, 7:, 8:, 9:] changed [6] res [5, 32]
-- r06_pairs range i=11 n=10 c=12 i2=41 id=0: live [0:l, 9:] changed [] res []
-- r06_within range i=12 n=11 c=13 i2=31 id=0: live [1:begin, 2:end, 10:] changed [] res []
-- r06_bare range i=8 n=7 c=9 i2=23 id=0: live [0:heads, 1:relations] changed [] res []
-- r06_TextAt range i=10 n=9 c=11 i2=26 id=0: live [1:pos, 8:] changed [] res []
-- r06_cyclic range i=9 n=8 c=10 i2=26 id=0: live [0:heads, 1:i, 5:at] changed [5] res []
-- r06_Attributes range i=16 n=15 c=17 i2=41 id=0: live [0:l, 14:] changed [] res []
-- r06_Attributes range i=30 n=29 c=31 i2=40 id=2: live [0:l, 4:i, 5:a, 14:, 15:, 16:, 28:] changed [] res [5]
-- r06_tokens range i=16 n=15 c=17 i2=47 id=0: live [1:c, 14:] changed [] res []
-- r06_tokens range i=30 n=29 c=31 i2=46 id=2: live [1:c, 4:i, 14:, 15:, 16:, 28:] changed [] res []
-- r06_texts range i=28 n=27 c=29 i2=95 id=0: live [1:c, 4:n, 5:end, 26:] changed [5] res []
-- r06_texts range i=43 n=42 c=44 i2=53 id=2: live [1:c, 4:n, 5:end, 6:i, 7:t, 26:, 27:, 28:, 41:] changed [] res [7]
-- r06_regions range i=17 n=16 c=18 i2=142 id=0: live [1:c, 15:] changed [] res []
-- r06_regions range i=64 n=63 c=65 i2=138 id=3: live [1:c, 4:i, 5:x, 7:deep, 15:, 16:, 17:, 62:] changed [7] res [5]
-- r06_Nodes range i=20 n=19 c=21 i2=127 id=0: live [0:l, 3:c, 6:depth, 18:] changed [] res [17]
-- r06_Nodes while id=0: live [0:l, 3:c, 6:depth, 7:i, 8:x, 9:k, 18:, 19:, 20:] changed [9] res [8, 17]
-- r06_Nodes while id=0: live [0:l, 3:c, 6:depth, 7:i, 8:x, 11:s, 18:, 19:, 20:] changed [11] res [8, 17]
-- r06_heads range i=38 n=37 c=39 i2=85 id=0: live [1:c, 4:n, 36:] changed [] res []
-- r06_sameAttributes range i=13 n=12 c=14 i2=25 id=0: live [0:a, 1:b] changed [] res []
-- r06_FindText range i=10 n=9 c=11 i2=20 id=0: live [1:name, 8:] changed [] res []
-- r06_allHeads range i=20 n=19 c=21 i2=26 id=0: live [1:c, 4:l] changed [] res [17]
-- r06_Concat range i=39 n=38 c=40 i2=49 id=0: live [2:a, 3:b, 4:, 37:] changed [] res [4, 93, 97, 100, 104, 107, 141, 144, 178, 181, 247, 249, 251, 269]
-- r06_Concat while id=0: live [2:a, 3:b, 4:, 8:n, 9:m, 10:c, 11:i] changed [11] res [4, 10, 93, 97, 100, 104, 107, 141, 144, 178, 181, 247, 249, 251, 269]
-- r06_Concat while id=0: live [2:a, 3:b, 4:, 8:n, 9:m, 10:c, 12:i] changed [12] res [4, 10, 93, 97, 100, 104, 107, 141, 144, 178, 181, 247, 249, 251, 269]
-- r06_Concat while id=0: live [2:a, 3:b, 4:, 8:n, 9:m, 10:c, 13:i] changed [13] res [4, 10, 93, 97, 100, 104, 107, 141, 144, 178, 181, 247, 249, 251, 269]
-- r06_Concat range i=256 n=255 c=257 i2=271 id=8: live [4:, 8:n, 10:c, 254:] changed [] res [4, 10, 93, 97, 100, 104, 107, 141, 144, 178, 181, 247, 249, 251, 269]
/-- corpora/corporamade.Type [int] -> [string] -/
def cc_m_Type : CC :=
  .seq (.reg [
    .op (some 2) none (.mv (.const (.string ⟨#[]⟩)))])
  (.keep [0] [] (.seq (.reg [
    .op (some 3) none (.bslice ty_string 1 [(.const (.string ⟨#[115]⟩)), (.const (.string ⟨#[110, 112]⟩)), (.const (.string ⟨#[116]⟩))]),
    .op (some 4) none (.mv (.tmp 0)),
    .op (some 5) none (.call f_m_Mod [(.tmp 4), (.const (.int .i64 3))]),
    .op (some 6) none (.iaddr 1 (.tmp 3) (.tmp 5)),
    .op (some 7) none (.load false 1 (.tmp 6)),
    .op (some 2) none (.mv (.tmp 7))])
  (.keep [2] [] (.ret))))
def rs_m_Type : List CRes := [.tmp 2]
def im_m_Type : List Nat := []
theorem ok_m_Type : FnOk Tryz.prog f_m_Type im_m_Type cc_m_Type rs_m_Type 8 := fnOk1 mixed (by kernel_rfl)
/-- (*corpora/corporamade.Tape).Next [P_corporamade_Tape, int] -> [int] -/
def cc_m_Tape_Next : CC :=
  .seq (.reg [
    .op (some 4) none (.mv (.const (.int .i64 0)))])
  (.keep [0, 1] [] (.seq /- 1 -/ (.seq (.regd [
    .op (some 5) none (.mv (.tmp 0)),
    .op (some 6) none (.nilck (.tmp 5)),
    .op (some 7) none (.faddr 1 (.tmp 6)),
    .op (some 8) none (.load false 1 (.tmp 7)),
    .op (some 9) none (.mv (.tmp 0)),
    .op (some 10) none (.nilck (.tmp 9)),
    .op (some 11) none (.faddr 0 (.tmp 10)),
    .op (some 12) none (.load false 1 (.tmp 11)),
    .op (some 13) none (.len (.tmp 12))] [
    .op (some 14) none (.cmp .geq (.tmp 8) (.tmp 13))])
  (.keep [0, 1, 14] [] (.ite (.tmp 14) (.seq (.reg [
      .op (some 4) none (.mv (.const (.int .i64 0)))])
    (.keep [4] [] (.ret)))
    (.skip))))
  (.keep [0, 1] [] (.seq (.reg [
    .op (some 15) none (.mv (.tmp 0)),
    .op (some 16) none (.nilck (.tmp 15)),
    .op (some 17) none (.faddr 1 (.tmp 16)),
    .op (some 18) none (.load false 1 (.tmp 17)),
    .op (some 19) none (.arith .add (.tmp 18) (.const (.int .i64 1))),
    .op (some 20) none (.nilck (.tmp 15)),
    .op (some 21) none (.faddr 1 (.tmp 20)),
    .op none none (.store none 1 (.tmp 21) (.tmp 19))])
  (.keep [0, 1] [] (.seq (.regd [
    .op (some 22) none (.mv (.tmp 0)),
    .op (some 23) none (.nilck (.tmp 22)),
    .op (some 24) none (.faddr 0 (.tmp 23)),
    .op (some 25) none (.load false 1 (.tmp 24)),
    .op (some 26) none (.mv (.tmp 0)),
    .op (some 27) none (.nilck (.tmp 26)),
    .op (some 28) none (.faddr 1 (.tmp 27)),
    .op (some 29) none (.load false 1 (.tmp 28)),
    .op (some 30) none (.arith .sub (.tmp 29) (.const (.int .i64 1))),
    .op (some 31) none (.iaddr 1 (.tmp 25) (.tmp 30)),
    .op (some 32) none (.load false 1 (.tmp 31)),
    .op (some 33) none (.mv (.tmp 1))] [
    .op (some 34) none (.call f_m_Mod [(.tmp 32), (.tmp 33)]),
    .op (some 4) none (.mv (.tmp 34))])
  (.keep [4] [] (.ret))))))))
def rs_m_Tape_Next : List CRes := [.tmp 4]
def im_m_Tape_Next : List Nat := []
theorem ok_m_Tape_Next : FnOk Tryz.prog f_m_Tape_Next im_m_Tape_Next cc_m_Tape_Next rs_m_Tape_Next 35 := fnOk1 mixed (by kernel_rfl)
/-- corpora/corporamade.New [L_int] -> [P_corporamade_Tape] -/
def cc_m_New : CC :=
  .seq (.reg [
    .op (some 2) none (.mv (.const (.pointer none)))])
  (.keep [0] [] (.seq /- 1 -/ (.seq (.reg [
    .op (some 3) none (.mv (.tmp 0)),
    .op (some 4) none (.len (.tmp 3)),
    .op (some 5) none (.cmp .gtr (.tmp 4) (.const (.int .i64 120)))])
  (.keep [0, 5] [] (.ite (.tmp 5) (.reg [
      .op (some 6) none (.mv (.tmp 0)),
      .op (some 7) none (.slice 1 (.tmp 6) none (some (.const (.int .i64 120)))),
      .op (some 0) none (.mv (.tmp 7))])
    (.skip))))
  (.keep [0] [] (.seq (.reg [
    .op (some 8) none (.mv (.tmp 0)),
    .op (some 9) none (.build [(.slice none 0 0), (.int .i64 0)] [(0, 1, (.tmp 8))]),
    .op (some 10) none (.box ty_corporamade_Tape false (.tmp 9)),
    .op (some 2) none (.mv (.tmp 10))])
  (.keep [2] [10] (.ret))))))
def rs_m_New : List CRes := [.tmp 2]
def im_m_New : List Nat := [999]
theorem ok_m_New : FnOk Tryz.prog f_m_New im_m_New cc_m_New rs_m_New 11 := fnOk1 mixed (by kernel_rfl)
-- m_Tape_Document while id=0: live [0:t, 6:, 7:n, 8:c, 9:i] changed [9] res [6, 8, 26, 66, 165]
-- m_Tape_Document while id=0: live [0:t, 6:, 7:n, 8:c, 11:l, 12:k] changed [11, 12] res [6, 8, 26, 66, 165]
-- m_Tape_Document range i=103 n=102 c=104 i2=159 id=4: live [0:t, 6:, 7:n, 8:c, 11:l, 12:k, 14:r, 15:crosses, 101:] changed [15] res [6, 8, 14, 26, 66, 165]
-- m_Tape_nodes while id=0: live [0:t, 1:c, 4:n, 5:at, 6:k] changed [5, 6] res [1, 61, 96]
-- m_Tape_heads while id=0: live [0:t, 1:c, 4:n, 5:order, 6:i] changed [5, 6] res [1, 27, 31, 34, 38, 40, 42]
-- m_Tape_heads range i=45 n=44 c=46 i2=92 id=2: live [0:t, 1:c, 5:order, 8:heads, 9:relations, 10:some, 43:] changed [10] res [1, 27, 31, 34, 38, 40, 42]
-- m_Tape_Corpus while id=0: live [0:t, 1:most, 4:, 5:c, 6:n] changed [6] res [4, 5]
-- m_Tape_Spans range i=15 n=14 c=16 i2=27 id=0: live [7:out, 13:] changed [7] res [26]
-- m_Tape_Matches while id=0: live [0:t, 2:labels, 5:c, 9:out, 10:n] changed [9, 10] res [90]
-- m_Tape_Matches while id=0: live [0:t, 2:labels, 5:c, 9:out, 10:n, 11:x, 13:m, 14:i] changed [14] res [11, 13, 73, 90]
end Go.Gv

namespace Go.Gv
set_option linter.unusedSimpArgs false
set_option linter.unusedVariables false
set_option maxRecDepth 100000
open Cod (enc dec)
variable {S : Nat → Spc}

abbrev s_cmp_isNaN_int : Spc := spc (a1 Int) (fun _ => True) enc fun _ y => y = false
theorem w_cmp_isNaN_int : Walk cc_cmp_isNaN_int rs_cmp_isNaN_int S (a1 Int) (fun _ => True) enc fun _ y => y = false := by
  rintro x -
  simp [cc_cmp_isNaN_int, rs_cmp_isNaN_int]

def cmpI (a b : Int) : Int := if a < b then -1 else if b < a then 1 else 0
abbrev s_cmp_Compare_int : Spc := spc (a2 Int Int) (fun _ => True) enc fun x y => y = cmpI x.1 x.2
theorem w_cmp_Compare_int (h1 : S f_cmp_isNaN_int = s_cmp_isNaN_int) : Walk cc_cmp_Compare_int rs_cmp_Compare_int S (a2 Int Int) (fun _ => True) enc fun x y => y = cmpI x.1 x.2 := by
  rintro ⟨a, b⟩ -
  simp [cc_cmp_Compare_int, rs_cmp_Compare_int, h1, cmpI]
  refine ⟨fun h1 h2 => by omega, fun h1 => ⟨fun h2 => ?_, fun h2 => ?_⟩⟩
  · rw [if_neg (by omega), if_pos h2]
  · rw [if_neg (by omega), if_neg (by omega)]

abbrev s_cmp_Or_int : Spc := spc (a1 (List Int)) (fun _ => True) enc fun x y => y = (x.find? (· ≠ 0)).getD 0
theorem w_cmp_Or_int : Walk cc_cmp_Or_int rs_cmp_Or_int S (a1 (List Int)) (fun _ => True) enc fun x y => y = (x.find? (· ≠ 0)).getD 0 := by
  rintro l -
  simp [cc_cmp_Or_int, rs_cmp_Or_int]
  intro _
  refine vc_range (X := Unit) [3, 6] [] l.length (fun k _ => (l.find? fun x => !decide (x = 0)) = (l.drop k).find? fun x => !decide (x = 0)) (fun _ => []) (fun _ => []) () (by simp) (by simp) (by omega) (by simp) (by simp) (by simp) (by simp) (by simp) ?_ ?_
  · intro k _ hk hP
    simp
    refine ⟨hk, fun x hx => ?_⟩
    rw [drop_cons_of hx] at hP
    refine ⟨fun h => ?_, fun h => ?_⟩
    · rw [hP]; simp [h]
    · rw [hP]; simp [h]
  · intro _ hP
    rw [List.drop_length] at hP
    simp [hP]

def modI (x n : Int) : Int := if n < 1 then 0 else if x.tmod n < 0 then x.tmod n + n else x.tmod n
abbrev s_m_Mod : Spc := spc (a2 Int Int) (fun x => x.2 ≤ 1000000000) enc fun x y => y = modI x.1 x.2
theorem w_m_Mod : Walk cc_m_Mod rs_m_Mod S (a2 Int Int) (fun x => x.2 ≤ 1000000000) enc fun x y => y = modI x.1 x.2 := by
  rintro ⟨a, b⟩ hl
  simp at hl
  simp [cc_m_Mod, rs_m_Mod, modI]
  refine ⟨fun h1 h2 => by omega, fun h1 => ⟨by omega, fun h2 => ⟨?_, ?_⟩, fun h2 => ?_⟩⟩
  · have := Int.lt_tmod_of_pos a (b := b) (by omega)
    simp [InR]; omega
  · rw [if_neg (by omega), if_pos h2]
  · rw [if_neg (by omega), if_neg (by omega)]
end Go.Gv
