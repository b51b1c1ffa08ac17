/- A part of the framework and of the walks: V1 Cd. -/
import Derived.Test.YtaiffcbkmgfklaaGreatDoorProg
import Derived.Test.YtaiffcbkmgfklaaGreatDoorGy12

namespace Go.Gv
set_option linter.unusedSimpArgs false
set_option linter.unusedVariables false
open Cod (enc dec)
abbrev B := ByteArray
structure I32 where
  val : Int
deriving DecidableEq
instance : Cod I32 where
  wd := 1
  enc n := .v (.int .i32 n.val)
  dec | .v (.int .i32 n) => some ⟨n⟩ | _ => none
  kn _ := rfl
  wid _ := rfl
  dec_enc _ := rfl
  le d x h := by
    split at h
    · cases h; exact .same _
    · cases h
@[simp] theorem enc_i32 (n : I32) : enc n = .v (.int .i32 n.val) := id rfl
@[simp] theorem wd_i32 : Cod.wd I32 = 1 := id rfl
@[simp] theorem dec_i32 (n : Int) : dec (X := I32) (.v (.int .i32 n)) = some ⟨n⟩ := id rfl
@[simp] theorem eta_i32 (n : I32) : I32.mk n.val = n := id rfl
structure U8 where
  val : Int
deriving DecidableEq
instance : Cod U8 where
  wd := 1
  enc n := .v (.int .u8 n.val)
  dec | .v (.int .u8 n) => some ⟨n⟩ | _ => none
  kn _ := rfl
  wid _ := rfl
  dec_enc _ := rfl
  le d x h := by
    split at h
    · cases h; exact .same _
    · cases h
@[simp] theorem enc_u8 (n : U8) : enc n = .v (.int .u8 n.val) := id rfl
@[simp] theorem wd_u8 : Cod.wd U8 = 1 := id rfl
@[simp] theorem dec_u8 (n : Int) : dec (X := U8) (.v (.int .u8 n)) = some ⟨n⟩ := id rfl
@[simp] theorem eta_u8 (n : U8) : U8.mk n.val = n := id rfl

structure Pair where
  nm : B
  vl : B
deriving DecidableEq
instance : Cod Pair where
  wd := 2
  enc s := .agg [enc s.nm, enc s.vl]
  dec | .agg [x0, x1] => (dec x0).bind fun x0 => (dec x1).bind fun x1 => some ⟨x0, x1⟩ | _ => none
  kn _ := rfl
  wid _ := rfl
  dec_enc s := by simp
  le d x h := by
    split at h
    · simp only [Option.bind_eq_some_iff] at h
      obtain ⟨x0, h0, x1, h1, h⟩ := h
      cases h
      exact LeL.agg (.cons (Cod.le _ _ h0) (.cons (Cod.le _ _ h1) .nil))
    · cases h
@[simp] theorem eta_Pair (s : Pair) : (Pair.mk s.nm s.vl) = s := id rfl
@[simp] theorem enc_Pair (s : Pair) : enc s = .agg [enc s.nm, enc s.vl] := id rfl
@[simp] theorem wd_Pair : Cod.wd Pair = 2 := id rfl
@[simp] theorem dec_Pair (x0 x1 : D) : dec (X := Pair) (.agg [x0, x1]) = ((dec x0).bind fun x0 => (dec x1).bind fun x1 => some ⟨x0, x1⟩) := id rfl

structure Attr where
  nm : B
  st : Bool
deriving DecidableEq
instance : Cod Attr where
  wd := 2
  enc s := .agg [enc s.nm, enc s.st]
  dec | .agg [x0, x1] => (dec x0).bind fun x0 => (dec x1).bind fun x1 => some ⟨x0, x1⟩ | _ => none
  kn _ := rfl
  wid _ := rfl
  dec_enc s := by simp
  le d x h := by
    split at h
    · simp only [Option.bind_eq_some_iff] at h
      obtain ⟨x0, h0, x1, h1, h⟩ := h
      cases h
      exact LeL.agg (.cons (Cod.le _ _ h0) (.cons (Cod.le _ _ h1) .nil))
    · cases h
@[simp] theorem eta_Attr (s : Attr) : (Attr.mk s.nm s.st) = s := id rfl
@[simp] theorem enc_Attr (s : Attr) : enc s = .agg [enc s.nm, enc s.st] := id rfl
@[simp] theorem wd_Attr : Cod.wd Attr = 2 := id rfl
@[simp] theorem dec_Attr (x0 x1 : D) : dec (X := Attr) (.agg [x0, x1]) = ((dec x0).bind fun x0 => (dec x1).bind fun x1 => some ⟨x0, x1⟩) := id rfl

structure Span where
  b : Int
  e : Int
deriving DecidableEq
instance : Cod Span where
  wd := 2
  enc s := .agg [enc s.b, enc s.e]
  dec | .agg [x0, x1] => (dec x0).bind fun x0 => (dec x1).bind fun x1 => some ⟨x0, x1⟩ | _ => none
  kn _ := rfl
  wid _ := rfl
  dec_enc s := by simp
  le d x h := by
    split at h
    · simp only [Option.bind_eq_some_iff] at h
      obtain ⟨x0, h0, x1, h1, h⟩ := h
      cases h
      exact LeL.agg (.cons (Cod.le _ _ h0) (.cons (Cod.le _ _ h1) .nil))
    · cases h
@[simp] theorem eta_Span (s : Span) : (Span.mk s.b s.e) = s := id rfl
@[simp] theorem enc_Span (s : Span) : enc s = .agg [enc s.b, enc s.e] := id rfl
@[simp] theorem wd_Span : Cod.wd Span = 2 := id rfl
@[simp] theorem dec_Span (x0 x1 : D) : dec (X := Span) (.agg [x0, x1]) = ((dec x0).bind fun x0 => (dec x1).bind fun x1 => some ⟨x0, x1⟩) := id rfl

structure Text where
  nm : B
  b : Int
  e : Int
  kv : List Pair
deriving DecidableEq
instance : Cod Text where
  wd := 4
  enc s := .agg [enc s.nm, enc s.b, enc s.e, enc s.kv]
  dec | .agg [x0, x1, x2, x3] => (dec x0).bind fun x0 => (dec x1).bind fun x1 => (dec x2).bind fun x2 => (dec x3).bind fun x3 => some ⟨x0, x1, x2, x3⟩ | _ => none
  kn _ := rfl
  wid _ := rfl
  dec_enc s := by simp
  le d x h := by
    split at h
    · simp only [Option.bind_eq_some_iff] at h
      obtain ⟨x0, h0, x1, h1, x2, h2, x3, h3, h⟩ := h
      cases h
      exact LeL.agg (.cons (Cod.le _ _ h0) (.cons (Cod.le _ _ h1) (.cons (Cod.le _ _ h2) (.cons (Cod.le _ _ h3) .nil))))
    · cases h
@[simp] theorem eta_Text (s : Text) : (Text.mk s.nm s.b s.e s.kv) = s := id rfl
@[simp] theorem enc_Text (s : Text) : enc s = .agg [enc s.nm, enc s.b, enc s.e, enc s.kv] := id rfl
@[simp] theorem wd_Text : Cod.wd Text = 4 := id rfl
@[simp] theorem dec_Text (x0 x1 x2 x3 : D) : dec (X := Text) (.agg [x0, x1, x2, x3]) = ((dec x0).bind fun x0 => (dec x1).bind fun x1 => (dec x2).bind fun x2 => (dec x3).bind fun x3 => some ⟨x0, x1, x2, x3⟩) := id rfl

structure Region where
  ty : B
  b : Int
  e : Int
  kv : List Pair
deriving DecidableEq
instance : Cod Region where
  wd := 4
  enc s := .agg [enc s.ty, enc s.b, enc s.e, enc s.kv]
  dec | .agg [x0, x1, x2, x3] => (dec x0).bind fun x0 => (dec x1).bind fun x1 => (dec x2).bind fun x2 => (dec x3).bind fun x3 => some ⟨x0, x1, x2, x3⟩ | _ => none
  kn _ := rfl
  wid _ := rfl
  dec_enc s := by simp
  le d x h := by
    split at h
    · simp only [Option.bind_eq_some_iff] at h
      obtain ⟨x0, h0, x1, h1, x2, h2, x3, h3, h⟩ := h
      cases h
      exact LeL.agg (.cons (Cod.le _ _ h0) (.cons (Cod.le _ _ h1) (.cons (Cod.le _ _ h2) (.cons (Cod.le _ _ h3) .nil))))
    · cases h
@[simp] theorem eta_Region (s : Region) : (Region.mk s.ty s.b s.e s.kv) = s := id rfl
@[simp] theorem enc_Region (s : Region) : enc s = .agg [enc s.ty, enc s.b, enc s.e, enc s.kv] := id rfl
@[simp] theorem wd_Region : Cod.wd Region = 4 := id rfl
@[simp] theorem dec_Region (x0 x1 x2 x3 : D) : dec (X := Region) (.agg [x0, x1, x2, x3]) = ((dec x0).bind fun x0 => (dec x1).bind fun x1 => (dec x2).bind fun x2 => (dec x3).bind fun x3 => some ⟨x0, x1, x2, x3⟩) := id rfl

structure Node where
  lb : B
  b : Int
  e : Int
  par : Int
deriving DecidableEq
instance : Cod Node where
  wd := 4
  enc s := .agg [enc s.lb, enc s.b, enc s.e, enc s.par]
  dec | .agg [x0, x1, x2, x3] => (dec x0).bind fun x0 => (dec x1).bind fun x1 => (dec x2).bind fun x2 => (dec x3).bind fun x3 => some ⟨x0, x1, x2, x3⟩ | _ => none
  kn _ := rfl
  wid _ := rfl
  dec_enc s := by simp
  le d x h := by
    split at h
    · simp only [Option.bind_eq_some_iff] at h
      obtain ⟨x0, h0, x1, h1, x2, h2, x3, h3, h⟩ := h
      cases h
      exact LeL.agg (.cons (Cod.le _ _ h0) (.cons (Cod.le _ _ h1) (.cons (Cod.le _ _ h2) (.cons (Cod.le _ _ h3) .nil))))
    · cases h
@[simp] theorem eta_Node (s : Node) : (Node.mk s.lb s.b s.e s.par) = s := id rfl
@[simp] theorem enc_Node (s : Node) : enc s = .agg [enc s.lb, enc s.b, enc s.e, enc s.par] := id rfl
@[simp] theorem wd_Node : Cod.wd Node = 4 := id rfl
@[simp] theorem dec_Node (x0 x1 x2 x3 : D) : dec (X := Node) (.agg [x0, x1, x2, x3]) = ((dec x0).bind fun x0 => (dec x1).bind fun x1 => (dec x2).bind fun x2 => (dec x3).bind fun x3 => some ⟨x0, x1, x2, x3⟩) := id rfl

structure Corpus where
  attrs : List Attr
  toks : List (List B)
  texts : List Text
  regs : List Region
  nodes : List Node
  heads : List Int
  rels : List B
deriving DecidableEq
instance : Cod Corpus where
  wd := 7
  enc s := .agg [enc s.attrs, enc s.toks, enc s.texts, enc s.regs, enc s.nodes, enc s.heads, enc s.rels]
  dec | .agg [x0, x1, x2, x3, x4, x5, x6] => (dec x0).bind fun x0 => (dec x1).bind fun x1 => (dec x2).bind fun x2 => (dec x3).bind fun x3 => (dec x4).bind fun x4 => (dec x5).bind fun x5 => (dec x6).bind fun x6 => some ⟨x0, x1, x2, x3, x4, x5, x6⟩ | _ => none
  kn _ := rfl
  wid _ := rfl
  dec_enc s := by simp
  le d x h := by
    split at h
    · simp only [Option.bind_eq_some_iff] at h
      obtain ⟨x0, h0, x1, h1, x2, h2, x3, h3, x4, h4, x5, h5, x6, h6, h⟩ := h
      cases h
      exact LeL.agg (.cons (Cod.le _ _ h0) (.cons (Cod.le _ _ h1) (.cons (Cod.le _ _ h2) (.cons (Cod.le _ _ h3) (.cons (Cod.le _ _ h4) (.cons (Cod.le _ _ h5) (.cons (Cod.le _ _ h6) .nil)))))))
    · cases h
@[simp] theorem eta_Corpus (s : Corpus) : (Corpus.mk s.attrs s.toks s.texts s.regs s.nodes s.heads s.rels) = s := id rfl
@[simp] theorem enc_Corpus (s : Corpus) : enc s = .agg [enc s.attrs, enc s.toks, enc s.texts, enc s.regs, enc s.nodes, enc s.heads, enc s.rels] := id rfl
@[simp] theorem wd_Corpus : Cod.wd Corpus = 7 := id rfl
@[simp] theorem dec_Corpus (x0 x1 x2 x3 x4 x5 x6 : D) : dec (X := Corpus) (.agg [x0, x1, x2, x3, x4, x5, x6]) = ((dec x0).bind fun x0 => (dec x1).bind fun x1 => (dec x2).bind fun x2 => (dec x3).bind fun x3 => (dec x4).bind fun x4 => (dec x5).bind fun x5 => (dec x6).bind fun x6 => some ⟨x0, x1, x2, x3, x4, x5, x6⟩) := id rfl

structure Match where
  b : Int
  e : Int
  lbs : List Int
deriving DecidableEq
instance : Cod Match where
  wd := 3
  enc s := .agg [enc s.b, enc s.e, enc s.lbs]
  dec | .agg [x0, x1, x2] => (dec x0).bind fun x0 => (dec x1).bind fun x1 => (dec x2).bind fun x2 => some ⟨x0, x1, x2⟩ | _ => none
  kn _ := rfl
  wid _ := rfl
  dec_enc s := by simp
  le d x h := by
    split at h
    · simp only [Option.bind_eq_some_iff] at h
      obtain ⟨x0, h0, x1, h1, x2, h2, h⟩ := h
      cases h
      exact LeL.agg (.cons (Cod.le _ _ h0) (.cons (Cod.le _ _ h1) (.cons (Cod.le _ _ h2) .nil)))
    · cases h
@[simp] theorem eta_Match (s : Match) : (Match.mk s.b s.e s.lbs) = s := id rfl
@[simp] theorem enc_Match (s : Match) : enc s = .agg [enc s.b, enc s.e, enc s.lbs] := id rfl
@[simp] theorem wd_Match : Cod.wd Match = 3 := id rfl
@[simp] theorem dec_Match (x0 x1 x2 : D) : dec (X := Match) (.agg [x0, x1, x2]) = ((dec x0).bind fun x0 => (dec x1).bind fun x1 => (dec x2).bind fun x2 => some ⟨x0, x1, x2⟩) := id rfl

structure Source where
  leaf : Int
  off : Int
deriving DecidableEq
instance : Cod Source where
  wd := 2
  enc s := .agg [enc s.leaf, enc s.off]
  dec | .agg [x0, x1] => (dec x0).bind fun x0 => (dec x1).bind fun x1 => some ⟨x0, x1⟩ | _ => none
  kn _ := rfl
  wid _ := rfl
  dec_enc s := by simp
  le d x h := by
    split at h
    · simp only [Option.bind_eq_some_iff] at h
      obtain ⟨x0, h0, x1, h1, h⟩ := h
      cases h
      exact LeL.agg (.cons (Cod.le _ _ h0) (.cons (Cod.le _ _ h1) .nil))
    · cases h
@[simp] theorem eta_Source (s : Source) : (Source.mk s.leaf s.off) = s := id rfl
@[simp] theorem enc_Source (s : Source) : enc s = .agg [enc s.leaf, enc s.off] := id rfl
@[simp] theorem wd_Source : Cod.wd Source = 2 := id rfl
@[simp] theorem dec_Source (x0 x1 : D) : dec (X := Source) (.agg [x0, x1]) = ((dec x0).bind fun x0 => (dec x1).bind fun x1 => some ⟨x0, x1⟩) := id rfl

structure Unit01 where
  r : I32
  pos : Int
  sz : Int
  ok : Bool
deriving DecidableEq
instance : Cod Unit01 where
  wd := 4
  enc s := .agg [enc s.r, enc s.pos, enc s.sz, enc s.ok]
  dec | .agg [x0, x1, x2, x3] => (dec x0).bind fun x0 => (dec x1).bind fun x1 => (dec x2).bind fun x2 => (dec x3).bind fun x3 => some ⟨x0, x1, x2, x3⟩ | _ => none
  kn _ := rfl
  wid _ := rfl
  dec_enc s := by simp
  le d x h := by
    split at h
    · simp only [Option.bind_eq_some_iff] at h
      obtain ⟨x0, h0, x1, h1, x2, h2, x3, h3, h⟩ := h
      cases h
      exact LeL.agg (.cons (Cod.le _ _ h0) (.cons (Cod.le _ _ h1) (.cons (Cod.le _ _ h2) (.cons (Cod.le _ _ h3) .nil))))
    · cases h
@[simp] theorem eta_Unit01 (s : Unit01) : (Unit01.mk s.r s.pos s.sz s.ok) = s := id rfl
@[simp] theorem enc_Unit01 (s : Unit01) : enc s = .agg [enc s.r, enc s.pos, enc s.sz, enc s.ok] := id rfl
@[simp] theorem wd_Unit01 : Cod.wd Unit01 = 4 := id rfl
@[simp] theorem dec_Unit01 (x0 x1 x2 x3 : D) : dec (X := Unit01) (.agg [x0, x1, x2, x3]) = ((dec x0).bind fun x0 => (dec x1).bind fun x1 => (dec x2).bind fun x2 => (dec x3).bind fun x3 => some ⟨x0, x1, x2, x3⟩) := id rfl

structure Filter where
  op : Int
  neg : Bool
  reg : B
deriving DecidableEq
instance : Cod Filter where
  wd := 3
  enc s := .agg [enc s.op, enc s.neg, enc s.reg]
  dec | .agg [x0, x1, x2] => (dec x0).bind fun x0 => (dec x1).bind fun x1 => (dec x2).bind fun x2 => some ⟨x0, x1, x2⟩ | _ => none
  kn _ := rfl
  wid _ := rfl
  dec_enc s := by simp
  le d x h := by
    split at h
    · simp only [Option.bind_eq_some_iff] at h
      obtain ⟨x0, h0, x1, h1, x2, h2, h⟩ := h
      cases h
      exact LeL.agg (.cons (Cod.le _ _ h0) (.cons (Cod.le _ _ h1) (.cons (Cod.le _ _ h2) .nil)))
    · cases h
@[simp] theorem eta_Filter (s : Filter) : (Filter.mk s.op s.neg s.reg) = s := id rfl
@[simp] theorem enc_Filter (s : Filter) : enc s = .agg [enc s.op, enc s.neg, enc s.reg] := id rfl
@[simp] theorem wd_Filter : Cod.wd Filter = 3 := id rfl
@[simp] theorem dec_Filter (x0 x1 x2 : D) : dec (X := Filter) (.agg [x0, x1, x2]) = ((dec x0).bind fun x0 => (dec x1).bind fun x1 => (dec x2).bind fun x2 => some ⟨x0, x1, x2⟩) := id rfl

end Go.Gv

namespace Go.Gv
open Go.Proofs
def f_law23_QueryLeaves : Nat := 7
def f_m_New : Nat := 9
def f_m_Tape_Next : Nat := 10
def f_query_Parse : Nat := 11
def f_law23_known : Nat := 14
def f_m_Tape_Query : Nat := 16
def f_m_Mod : Nat := 17
def f_query_Format : Nat := 18
def f_query_Leaves : Nat := 19
def f_r23_Leaves : Nat := 20
def f_r23_SamePattern : Nat := 21
def f_r22_Texts : Nat := 22
def f_query_Labels : Nat := 23
def f_m_Tape_Pattern : Nat := 24
def f_query_Size : Nat := 26
def f_query_reader_query : Nat := 28
def f_r23_shapes : Nat := 41
def f_r23_leaves : Nat := 43
def f_m_Bound : Nat := 47
def f_m_bind : Nat := 48
def f_m_Tape_Constraint : Nat := 49
def f_m_Tape_Filter : Nat := 50
def f_query_Shape : Nat := 51
def f_slices_ContainsFunc_Filter : Nat := 52
def f_query_kind : Nat := 53
def f_query_Sound : Nat := 54
def f_slices_ContainsFunc_Pattern : Nat := 55
def f_query_leaves : Nat := 56
def f_query_Format_1 : Nat := 57
def f_condition_Shape : Nat := 58
def f_query_writer_pattern : Nat := 59
def f_strings_Builder_WriteString : Nat := 60
def f_query_writer_glob : Nat := 61
def f_query_filterWords : Nat := 62
def f_query_strategyWords : Nat := 63
def f_strings_Builder_String : Nat := 64
def f_query_right : Nat := 65
def f_r23_IsPattern : Nat := 66
def f_r22_Same : Nat := 67
def f_query_labels : Nat := 68
def f_m_Tape_Cond : Nat := 69
def f_m_Type : Nat := 70
def f_query_size : Nat := 72
def f_query_reader_next : Nat := 73
def f_query_reader_alt : Nat := 74
def f_query_reader_take : Nat := 75
def f_query_reader_gor : Nat := 76
def f_query_reader_sign : Nat := 77
def f_query_reader_word : Nat := 78
def f_slices_Index_string : Nat := 79
def f_query_reader_wrong : Nat := 80
def f_query_reader_name : Nat := 81
def f_r23_shape : Nat := 88
def f_m_replace : Nat := 99
def f_query_shallow : Nat := 100
def f_query_every : Nat := 101
def f_query_node : Nat := 102
def f_slices_IndexFunc_Filter : Nat := 103
def f_query_none : Nat := 104
def f_query_measure : Nat := 105
def f_query_atoms : Nat := 106
def f_query_atom : Nat := 107
def f_slices_IndexFunc_Pattern : Nat := 108
def f_query_clone : Nat := 109
def f_condition_measure : Nat := 110
def f_condition_walk : Nat := 111
def f_condition_Shape_1 : Nat := 112
def f_condition_shape : Nat := 113
def f_query_writer_token : Nat := 114
def f_query_writer_in : Nat := 115
def f_query_writer_pattern_1 : Nat := 116
def f_query_suffix : Nat := 117
def f_query_writer_pattern_2 : Nat := 118
def f_query_writer_value : Nat := 120
def f_query_named : Nat := 124
def f_query_ranged : Nat := 125
def f_r23_names : Nat := 126
def f_r23_numbers : Nat := 127
def f_slices_Contains_string : Nat := 128
def f_m_Tape_inner : Nat := 129
def f_query_lex : Nat := 130
def f_query_reader_seq : Nat := 131
def f_query_patterns : Nat := 132
def f_query_reader_text : Nat := 135
def f_query_shallow_1 : Nat := 140
def f_query_every_1 : Nat := 141
def f_query_zero : Nat := 142
def f_query_copied : Nat := 145
def f_query_writer_cond : Nat := 146
def f_query_writer_str : Nat := 149
def f_markup_ValidName : Nat := 151
def f_r04_ValidName : Nat := 152
def f_query_run : Nat := 153
def f_query_lex_1 : Nat := 154
def f_query_letter : Nat := 155
def f_query_lex_2 : Nat := 156
def f_query_digit : Nat := 157
def f_query_quoted : Nat := 158
def f_strings_HasPrefix : Nat := 159
def f_strings_IndexByte : Nat := 160
def f_query_reader_rep : Nat := 161
def f_query_reader_begins : Nat := 162
def f_query_writer_cond_1 : Nat := 171
def f_query_writer_cond_2 : Nat := 172
def f_strings_ReplaceAll : Nat := 174
def f_markup_begins : Nat := 175
def f_markup_goesOn : Nat := 176
def f_r04_First : Nat := 177
def f_r04_Next : Nat := 178
def f_internal_stringslite_HasPrefix : Nat := 179
def f_internal_stringslite_IndexByte : Nat := 180
def f_query_reader_item : Nat := 181
def f_query_reader_number : Nat := 182
def f_query_reader_must : Nat := 183
def f_query_reader_peek : Nat := 184
def f_strings_Replace : Nat := 189
def f_query_reader_token : Nat := 191
def f_query_reader_fold : Nat := 194
def f_strings_Count : Nat := 200
def f_strings_Builder_Grow : Nat := 201
def f_strings_Index : Nat := 202
def f_unicode_utf8_DecodeRuneInString : Nat := 203
def f_query_reader_or : Nat := 204
def f_query_reader_and : Nat := 223
def f_query_conds : Nat := 224
def f_query_reader_not : Nat := 233
def f_query_reader_atom : Nat := 236
def ty_int : Nat := 3
def ty_uint8 : Nat := 5
def ty_string : Nat := 9
def ty_Cond : Nat := 29
def ty_Pattern : Nat := 32
def ty_Constraint : Nat := 35
def ty_Query : Nat := 38
def ty_corporamade_Tape : Nat := 61
def ty_query_lexeme : Nat := 67
def ty_Filter : Nat := 83
def ty_func_Pattern_bool : Nat := 99
def ty_P_query_writer : Nat := 103
def ty_strings_Builder : Nat := 106
def ty_query_writer : Nat := 108
def ty__2_int : Nat := 119
theorem mixed : Tryz.prog.follows .mixedOrders = true := by kernel_rfl
end Go.Gv
