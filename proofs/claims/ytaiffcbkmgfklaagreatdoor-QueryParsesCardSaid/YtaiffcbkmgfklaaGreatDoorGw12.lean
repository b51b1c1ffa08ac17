/- A part of the framework and of the walks: Cd C4 V2 L1 V3 V4 V5 V11 Cc W1 T14 T15 T16 T17 W10. -/
import Derived.Test.YtaiffcbkmgfklaaGreatDoorProg
import Derived.Test.YtaiffcbkmgfklaaGreatDoorGw11
set_option linter.unusedSimpArgs false
set_option linter.unusedVariables false
set_option maxRecDepth 100000

namespace Go.Gv
open Go.Proofs
/-- Short words for the texts of functions. -/
abbrev oA (d s : Nat) : CI := .op (some d) none (.mv (.tmp s))
abbrev oB (d : Nat) (c : COp) : CI := .op (some d) none c
abbrev oC (d w s : Nat) : CI := .op (some d) none (.load false w (.tmp s))
abbrev oD (d w s : Nat) : CI := .op (some d) none (.load true w (.tmp s))
abbrev oE (d n s : Nat) : CI := .op (some d) none (.faddr n (.tmp s))
abbrev oF (w a b : Nat) : CI := .op none none (.store none w (.tmp a) (.tmp b))
abbrev oG (d s : Nat) : CI := .op (some d) none (.nilck (.tmp s))
abbrev oH (d g : Nat) (c : COp) : CI := .op (some d) (some (g, true)) c
abbrev oI (d g : Nat) (c : COp) : CI := .op (some d) (some (g, false)) c
abbrev oT (n : Nat) : Operand := .tmp n
abbrev oK (v : Value) : Operand := .const v
abbrev oN (n : Int) : Operand := .const (.int .i64 n)
abbrev oS (b : ByteArray) : Operand := .const (.string b)
abbrev oi : Value := .int .i64 0
abbrev oe : Value := .string ⟨#[]⟩
abbrev ob : Value := .bool false
abbrev on : Value := .slice none 0 0
abbrev oZ (d f : Nat) (l : List Operand) : CI := .op (some d) none (.call f l)
abbrev oX (l : List CI) (a b : List Nat) (x : CC) : CC := .seq (.reg l) (.keep a b x)
def f_law23_QueryParses : Nat := 3
def f_m_New : Nat := 9
def f_m_Tape_Next : Nat := 10
def f_query_Parse : Nat := 11
def f_r23_Parse : Nat := 12
def f_r23_Same : Nat := 13
def f_law23_known : Nat := 14
def f_m_Mod : Nat := 17
def f_query_Format : Nat := 18
def f_r23_SamePattern : Nat := 21
def f_r22_Texts : Nat := 22
def f_query_Size : Nat := 26
def f_query_reader_query : Nat := 28
def f_r23_scan : Nat := 29
def f_r23_parser_alt : Nat := 30
def f_r23_parser_eat : Nat := 31
def f_r23_parser_gor : Nat := 32
def f_r23_parser_word : Nat := 33
def f_r23_filters : Nat := 34
def f_r23_parser_wrong : Nat := 35
def f_r23_parser_want : Nat := 36
def f_r23_parser_is : Nat := 37
def f_r23_strategies : Nat := 38
def f_r23_parser_now : Nat := 39
def f_r23_sameGlob : Nat := 40
def f_query_Shape : Nat := 51
def f_slices_ContainsFunc_Filter : Nat := 52
def f_query_kind : Nat := 53
def f_query_Sound : Nat := 54
def f_slices_ContainsFunc_Pattern : Nat := 55
def f_query_leaves : Nat := 56
def f_query_Format_1 : Nat := 57
def f_condition_Shape : Nat := 58
def f_query_writer_pattern : Nat := 59
def f_strings_Builder_WriteString : Nat := 60
def f_query_writer_glob : Nat := 61
def f_query_filterWords : Nat := 62
def f_query_strategyWords : Nat := 63
def f_strings_Builder_String : Nat := 64
def f_query_right : Nat := 65
def f_r22_Same : Nat := 67
def f_query_size : Nat := 72
def f_query_reader_next : Nat := 73
def f_query_reader_alt : Nat := 74
def f_query_reader_take : Nat := 75
def f_query_reader_gor : Nat := 76
def f_query_reader_sign : Nat := 77
def f_query_reader_word : Nat := 78
def f_slices_Index_string : Nat := 79
def f_query_reader_wrong : Nat := 80
def f_query_reader_name : Nat := 81
def f_r23_isLetter : Nat := 82
def f_r23_isDigit : Nat := 83
def f_r23_signs : Nat := 84
def f_r23_parser_seq : Nat := 85
def f_r23_parser_gand : Nat := 86
def f_r23_parser_error : Nat := 87
def f_r23_Functions : Nat := 97
def f_query_shallow : Nat := 100
def f_query_every : Nat := 101
def f_query_node : Nat := 102
def f_slices_IndexFunc_Filter : Nat := 103
def f_query_none : Nat := 104
def f_query_measure : Nat := 105
def f_query_atoms : Nat := 106
def f_query_atom : Nat := 107
def f_slices_IndexFunc_Pattern : Nat := 108
def f_query_clone : Nat := 109
def f_condition_measure : Nat := 110
def f_condition_walk : Nat := 111
def f_condition_Shape_1 : Nat := 112
def f_condition_shape : Nat := 113
def f_query_writer_token : Nat := 114
def f_query_writer_in : Nat := 115
def f_query_writer_pattern_1 : Nat := 116
def f_query_suffix : Nat := 117
def f_query_writer_pattern_2 : Nat := 118
def f_query_writer_value : Nat := 120
def f_query_named : Nat := 124
def f_query_ranged : Nat := 125
def f_slices_Contains_string : Nat := 128
def f_query_lex : Nat := 130
def f_query_reader_seq : Nat := 131
def f_query_patterns : Nat := 132
def f_query_reader_gand : Nat := 133
def f_query_globs : Nat := 134
def f_query_reader_text : Nat := 135
def f_r23_parser_rep : Nat := 136
def f_r23_parser_begins : Nat := 137
def f_r23_parser_gnot : Nat := 138
def f_query_shallow_1 : Nat := 140
def f_query_every_1 : Nat := 141
def f_query_zero : Nat := 142
def f_query_copied : Nat := 145
def f_query_writer_cond : Nat := 146
def f_query_writer_str : Nat := 149
def f_query_function : Nat := 150
def f_markup_ValidName : Nat := 151
def f_query_run : Nat := 153
def f_query_lex_1 : Nat := 154
def f_query_letter : Nat := 155
def f_query_lex_2 : Nat := 156
def f_query_digit : Nat := 157
def f_query_quoted : Nat := 158
def f_strings_HasPrefix : Nat := 159
def f_strings_IndexByte : Nat := 160
def f_query_reader_rep : Nat := 161
def f_query_reader_begins : Nat := 162
def f_query_reader_gnot : Nat := 163
def f_r23_parser_item : Nat := 164
def f_r23_parser_number : Nat := 165
def f_r23_parser_next : Nat := 166
def f_r23_parser_tail : Nat := 167
def f_r23_parser_call : Nat := 168
def f_r23_parser_fold : Nat := 169
def f_query_writer_cond_1 : Nat := 171
def f_query_writer_cond_2 : Nat := 172
def f_strings_ReplaceAll : Nat := 174
def f_markup_begins : Nat := 175
def f_markup_goesOn : Nat := 176
def f_internal_stringslite_HasPrefix : Nat := 179
def f_internal_stringslite_IndexByte : Nat := 180
def f_query_reader_item : Nat := 181
def f_query_reader_number : Nat := 182
def f_query_reader_must : Nat := 183
def f_query_reader_peek : Nat := 184
def f_query_reader_gatom : Nat := 185
def f_r23_parser_or : Nat := 186
def f_r23_parser_signed : Nat := 187
def f_strings_Replace : Nat := 189
def f_query_reader_token : Nat := 191
def f_strings_TrimLeft : Nat := 192
def f_query_reader_arguments : Nat := 193
def f_query_reader_fold : Nat := 194
def f_r23_parser_and : Nat := 195
def f_strings_Count : Nat := 200
def f_strings_Builder_Grow : Nat := 201
def f_strings_Index : Nat := 202
def f_unicode_utf8_DecodeRuneInString : Nat := 203
def f_query_reader_or : Nat := 204
def f_strings_trimLeftByte : Nat := 205
def f_strings_makeASCIISet : Nat := 206
def f_strings_trimLeftASCII : Nat := 207
def f_strings_trimLeftUnicode : Nat := 208
def f_query_reader_big : Nat := 209
def f_query_reader_comma : Nat := 210
def f_query_reader_signed : Nat := 211
def f_r23_parser_not : Nat := 212
def f_query_reader_and : Nat := 223
def f_query_conds : Nat := 224
def f_query_reader_not : Nat := 233
def f_query_reader_atom : Nat := 236
def ty_int : Nat := 3
def ty_uint8 : Nat := 5
def ty_string : Nat := 9
def ty_Cond : Nat := 29
def ty_Pattern : Nat := 32
def ty_Constraint : Nat := 35
def ty_Query : Nat := 38
def ty_corporamade_Tape : Nat := 61
def ty_query_fault : Nat := 63
def ty_query_lexeme : Nat := 67
def ty_corporaref23_parser : Nat := 75
def ty_Filter : Nat := 83
def ty_corporaref23_token : Nat := 86
def ty_func_Pattern_bool : Nat := 99
def ty_P_query_writer : Nat := 103
def ty_strings_Builder : Nat := 106
def ty_query_writer : Nat := 108
def ty_strings_asciiSet : Nat := 189
theorem mixed : Tryz.prog.follows .mixedOrders = true := by kernel_rfl
end Go.Gv

namespace Go.Gv
open Go.Proofs
-- m_bind range i=16 n=15 c=17 i2=26 id=0: live [1:labels, 2:p, 4:, 5:kids, 14:] changed [5] res [2, 4, 25]
-- m_replace range i=15 n=14 c=16 i2=24 id=0: live [2:x, 4:, 13:] changed [] res [2, 4, 40]
-- m_replace range i=31 n=30 c=32 i2=41 id=2: live [1:labels, 2:x, 4:, 7:kids, 29:] changed [7] res [2, 4, 40]
-- m_Bound range i=19 n=18 c=20 i2=28 id=0: live [1:out, 2:p, 17:] changed [] res [1, 43]
-- m_Bound range i=37 n=36 c=38 i2=44 id=2: live [1:out, 35:] changed [1] res [1, 43]
-- m_Tape_Constraint while id=0: live [0:t, 6:, 11:x, 12:n] changed [12] res [6, 11, 111]
-- m_Tape_Query while id=0: live [0:t, 4:, 7:q, 8:n] changed [8] res [4, 7, 18, 49]
end Go.Gv

namespace Go.Gv
open Cod (enc dec)

structure Cond where
 op : Int
 name : B
 arg : B
 val : B
 lab : B
 fold : Bool
 kids : List Cond

mutual
def encC : Cond → D
 | .mk op n a v l f ks => .agg [enc op, enc n, enc a, enc v, enc l, enc f, .list 7 (encCs ks)]
def encCs : List Cond → List D
 | [] => []
 | k :: ks => encC k :: encCs ks
end
mutual
def decC : D → Option Cond
 | .agg [x0, x1, x2, x3, x4, x5, x6] => (dec x0).bind fun op => (dec x1).bind fun n => (dec x2).bind fun a => (dec x3).bind fun v => (dec x4).bind fun l => (dec x5).bind fun f => (decK x6).bind fun ks => some (.mk op n a v l f ks)
 | _ => none
def decK : D → Option (List Cond)
 | .list n es => if n = 7 then decCs es else none
 | .v (.slice none 0 0) => some []
 | _ => none
def decCs : List D → Option (List Cond)
 | [] => some []
 | d :: ds => (decC d).bind fun x => (decCs ds).bind fun xs => some (x :: xs)
end
theorem encCs_map : ∀ l : List Cond, encCs l = l.map encC
 | [] => rfl
 | _ :: l => by rw [encCs, encCs_map l]; rfl
theorem encC_kn : ∀ c : Cond, (encC c).kn = true
 | .mk .. => rfl
theorem encC_wid : ∀ c : Cond, (encC c).cells.length = 7
 | .mk .. => rfl
mutual
theorem decC_enc : ∀ c : Cond, decC (encC c) = some c
 | .mk op n a v l f ks => by
   have h : decK (.list 7 (encCs ks)) = some ks := by rw [decK, if_pos rfl]; exact decCs_enc ks
   simp only [encC, decC, Cod.dec_enc, Option.bind_some, h]
theorem decCs_enc : ∀ l : List Cond, decCs (encCs l) = some l
 | [] => by simp only [encCs, decCs]
 | c :: l => by simp only [encCs, decCs, decC_enc c, decCs_enc l, Option.bind_some]
end
mutual
theorem decC_le : ∀ (d : D) (c : Cond), decC d = some c → FrzTo noH d (encC c)
 | .agg [x0, x1, x2, x3, x4, x5, x6], c, h => by
   simp only [decC, Option.bind_eq_some_iff, Option.some.injEq] at h
   obtain ⟨op, h0, n, h1, a, h2, v, h3, l, h4, f, h5, ks, h6, rfl⟩ := h
   rw [encC]
   exact LeL.agg (.cons (Cod.le _ _ h0) (.cons (Cod.le _ _ h1) (.cons (Cod.le _ _ h2) (.cons (Cod.le _ _ h3) (.cons (Cod.le _ _ h4) (.cons (Cod.le _ _ h5) (.cons (decK_le x6 ks h6) .nil)))))))
theorem decK_le : ∀ (d : D) (l : List Cond), decK d = some l → FrzTo noH d (.list 7 (encCs l))
 | .list n es, l, h => by
   simp only [decK] at h
   split at h
   ·rename_i hn
    subst hn
    have hl := decCs_le es l h
    refine .list hl.1 (fun e he => ?_) hl.2
    rw [encCs_map] at he
    obtain ⟨x, hx, rfl⟩ := List.mem_map.1 he
    exact ⟨encC_kn x, encC_wid x⟩
   ·cases h
 | .v (.slice none 0 0), l, h => by
   simp only [decK, Option.some.injEq] at h
   subst h
   exact .nil _
theorem decCs_le : ∀ (es : List D) (l : List Cond), decCs es = some l → LeL es (encCs l)
 | [], l, h => by
   simp only [decCs, Option.some.injEq] at h
   subst h
   exact .nil
 | d :: ds, l, h => by
   simp only [decCs, Option.bind_eq_some_iff, Option.some.injEq] at h
   obtain ⟨x, h1, xs, h2, rfl⟩ := h
   rw [encCs]
   exact .cons (decC_le d x h1) (decCs_le ds xs h2)
end
instance : Cod Cond where
 wd := 7
 enc := encC
 dec := decC
 kn := encC_kn
 wid := encC_wid
 dec_enc := decC_enc
 le := decC_le
theorem encCs_enc (ks : List Cond) : D.list 7 (encCs ks) = enc ks := by rw [encCs_map]; rfl
theorem enc_cond (op : Int) (n a v l : B) (f : Bool) (ks : List Cond) : enc (Cond.mk op n a v l f ks) = .agg [enc op, enc n, enc a, enc v, enc l, enc f, enc ks] := by
 rw [← encCs_enc]
 show encC _ = _
 rw [encC]

structure Pat where
 op : Int
 cond : Cond
 lab : B
 reg : B
 mn : Int
 mx : Int
 kids : List Pat

def cellsC : Cond → List D
 | .mk op n a v l f ks => [enc op, enc n, enc a, enc v, enc l, enc f, enc ks]
theorem cellsC_len : ∀ c : Cond, (cellsC c).length = 7
 | .mk .. => rfl
mutual
def encP : Pat → D
 | .mk op c l r mn mx ks => .agg (enc op :: (cellsC c ++ [enc l, enc r, enc mn, enc mx, .list 13 (encPs ks)]))
def encPs : List Pat → List D
 | [] => []
 | k :: ks => encP k :: encPs ks
end
mutual
def decP : D → Option Pat
 | .agg [x0, y0, y1, y2, y3, y4, y5, y6, x1, x2, x3, x4, x5] => (dec x0).bind fun op => (dec (D.agg [y0, y1, y2, y3, y4, y5, y6])).bind fun c => (dec x1).bind fun l => (dec x2).bind fun r => (dec x3).bind fun mn => (dec x4).bind fun mx => (decPK x5).bind fun ks => some (.mk op c l r mn mx ks)
 | _ => none
def decPK : D → Option (List Pat)
 | .list n es => if n = 13 then decPs es else none
 | .v (.slice none 0 0) => some []
 | _ => none
def decPs : List D → Option (List Pat)
 | [] => some []
 | d :: ds => (decP d).bind fun x => (decPs ds).bind fun xs => some (x :: xs)
end
theorem encPs_map : ∀ l : List Pat, encPs l = l.map encP
 | [] => rfl
 | _ :: l => by rw [encPs, encPs_map l]; rfl
theorem encP_kn : ∀ c : Pat, (encP c).kn = true
 | .mk .. => rfl
theorem encP_wid : ∀ c : Pat, (encP c).cells.length = 13
 | .mk op c l r mn mx ks => by simp [encP, D.cells, cellsC_len]
mutual
theorem decP_enc : ∀ c : Pat, decP (encP c) = some c
 | .mk op (.mk cop n a v cl f cks) l r mn mx ks => by
   have h : decPK (.list 13 (encPs ks)) = some ks := by rw [decPK, if_pos rfl]; exact decPs_enc ks
   have hc : dec (D.agg [enc cop, enc n, enc a, enc v, enc cl, enc f, enc cks]) = some (Cond.mk cop n a v cl f cks) := by rw [← enc_cond]; exact Cod.dec_enc _
   simp only [encP, cellsC, List.cons_append, List.nil_append, decP, Cod.dec_enc, Option.bind_some, h, hc]
theorem decPs_enc : ∀ l : List Pat, decPs (encPs l) = some l
 | [] => by simp only [encPs, decPs]
 | c :: l => by simp only [encPs, decPs, decP_enc c, decPs_enc l, Option.bind_some]
end
theorem dec_condL {y0 y1 y2 y3 y4 y5 y6 : D} {c : Cond} (h : dec (D.agg [y0, y1, y2, y3, y4, y5, y6]) = some c) : LeL [y0, y1, y2, y3, y4, y5, y6] (cellsC c) := by
 have h' : decC (D.agg [y0, y1, y2, y3, y4, y5, y6]) = some c := h
 simp only [decC, Option.bind_eq_some_iff, Option.some.injEq] at h'
 obtain ⟨op, h0, n, h1, a, h2, v, h3, l, h4, f, h5, ks, h6, rfl⟩ := h'
 have hk := decK_le y6 ks h6
 rw [encCs_enc] at hk
 exact .cons (Cod.le _ _ h0) (.cons (Cod.le _ _ h1) (.cons (Cod.le _ _ h2) (.cons (Cod.le _ _ h3) (.cons (Cod.le _ _ h4) (.cons (Cod.le _ _ h5) (.cons hk .nil))))))
theorem LeL.append {a b c d : List D} (h : LeL a b) (k : LeL c d) : LeL (a ++ c) (b ++ d) := by
 refine ⟨by simp [h.1, k.1], fun i x y hx hy => ?_⟩
 rw [List.getElem?_append] at hx hy
 by_cases hi : i < a.length
 ·rw [if_pos hi] at hx
  rw [if_pos (by rw [← h.1]; exact hi)] at hy
  exact h.2 i x y hx hy
 ·rw [if_neg hi] at hx
  rw [if_neg (by rw [← h.1]; exact hi), ← h.1] at hy
  exact k.2 _ x y hx hy
mutual
theorem decP_le : ∀ (d : D) (c : Pat), decP d = some c → FrzTo noH d (encP c)
 | .agg [x0, y0, y1, y2, y3, y4, y5, y6, x1, x2, x3, x4, x5], c, h => by
   simp only [decP, Option.bind_eq_some_iff, Option.some.injEq] at h
   obtain ⟨op, h0, c, h1, l, h2, r, h3, mn, h4, mx, h5, ks, h6, rfl⟩ := h
   rw [encP]
   exact LeL.agg (.cons (Cod.le _ _ h0) ((dec_condL h1).append (.cons (Cod.le _ _ h2) (.cons (Cod.le _ _ h3) (.cons (Cod.le _ _ h4) (.cons (Cod.le _ _ h5) (.cons (decPK_le x5 ks h6) .nil)))))))
theorem decPK_le : ∀ (d : D) (l : List Pat), decPK d = some l → FrzTo noH d (.list 13 (encPs l))
 | .list n es, l, h => by
   simp only [decPK] at h
   split at h
   ·rename_i hn
    subst hn
    have hl := decPs_le es l h
    refine .list hl.1 (fun e he => ?_) hl.2
    rw [encPs_map] at he
    obtain ⟨x, hx, rfl⟩ := List.mem_map.1 he
    exact ⟨encP_kn x, encP_wid x⟩
   ·cases h
 | .v (.slice none 0 0), l, h => by
   simp only [decPK, Option.some.injEq] at h
   subst h
   exact .nil _
theorem decPs_le : ∀ (es : List D) (l : List Pat), decPs es = some l → LeL es (encPs l)
 | [], l, h => by
   simp only [decPs, Option.some.injEq] at h
   subst h
   exact .nil
 | d :: ds, l, h => by
   simp only [decPs, Option.bind_eq_some_iff, Option.some.injEq] at h
   obtain ⟨x, h1, xs, h2, rfl⟩ := h
   rw [encPs]
   exact .cons (decP_le d x h1) (decPs_le ds xs h2)
end
instance : Cod Pat where
 wd := 13
 enc := encP
 dec := decP
 kn := encP_kn
 wid := encP_wid
 dec_enc := decP_enc
 le := decP_le
theorem encPs_enc (ks : List Pat) : D.list 13 (encPs ks) = enc ks := by rw [encPs_map]; rfl
theorem enc_pat (op : Int) (c : Cond) (l r : B) (mn mx : Int) (ks : List Pat) : enc (Pat.mk op c l r mn mx ks) = .agg (enc op :: (cellsC c ++ [enc l, enc r, enc mn, enc mx, enc ks])) := by
 rw [← encPs_enc]
 show encP _ = _
 rw [encP]

theorem decCs_mapM : ∀ es : List D, decCs es = es.mapM (dec (X := Cond))
 | [] => by simp [decCs]
 | d :: es => by
   rw [decCs, List.mapM_cons, decCs_mapM es]
   rfl
theorem decK_eq : ∀ d : D, decK d = dec (X := List Cond) d := fun d => by
 unfold decK
 split
 ·rename_i n es
  show _ = if n = 7 then es.mapM (dec (X := Cond)) else none
  rw [decCs_mapM]
 ·rfl
 ·rename_i h1 h2
  show _ = (match d with
   | .list n es => if n = 7 then es.mapM (dec (X := Cond)) else none
   | .v (.slice none 0 0) => some []
   | _ => none)
  split
  ·exact absurd rfl (h1 _ _)
  ·exact absurd rfl h2
  ·rfl
theorem decPs_mapM : ∀ es : List D, decPs es = es.mapM (dec (X := Pat))
 | [] => by simp [decPs]
 | d :: es => by
   rw [decPs, List.mapM_cons, decPs_mapM es]
   rfl
theorem decPK_eq : ∀ d : D, decPK d = dec (X := List Pat) d := fun d => by
 unfold decPK
 split
 ·rename_i n es
  show _ = if n = 13 then es.mapM (dec (X := Pat)) else none
  rw [decPs_mapM]
 ·rfl
 ·rename_i h1 h2
  show _ = (match d with
   | .list n es => if n = 13 then es.mapM (dec (X := Pat)) else none
   | .v (.slice none 0 0) => some []
   | _ => none)
  split
  ·exact absurd rfl (h1 _ _)
  ·exact absurd rfl h2
  ·rfl
@[simp] theorem eta_Cond (s : Cond) : Cond.mk s.op s.name s.arg s.val s.lab s.fold s.kids = s := by cases s; rfl
@[simp] theorem enc_Cond (s : Cond) : enc s = .agg [enc s.op, enc s.name, enc s.arg, enc s.val, enc s.lab, enc s.fold, enc s.kids] := by cases s; exact enc_cond ..
@[simp] theorem wd_Cond : Cod.wd Cond = 7 := id rfl
@[simp] theorem dec_Cond (x0 x1 x2 x3 x4 x5 x6 : D) : dec (X := Cond) (.agg [x0, x1, x2, x3, x4, x5, x6]) = ((dec x0).bind fun x0 => (dec x1).bind fun x1 => (dec x2).bind fun x2 => (dec x3).bind fun x3 => (dec x4).bind fun x4 => (dec x5).bind fun x5 => (dec x6).bind fun x6 => some ⟨x0, x1, x2, x3, x4, x5, x6⟩) := by
 show decC _ = _
 simp only [decC, decK_eq]
@[simp] theorem eta_Pat (s : Pat) : Pat.mk s.op s.cond s.lab s.reg s.mn s.mx s.kids = s := by cases s; rfl
@[simp] theorem enc_Pat (s : Pat) : enc s = .agg [enc s.op, enc s.cond.op, enc s.cond.name, enc s.cond.arg, enc s.cond.val, enc s.cond.lab, enc s.cond.fold, enc s.cond.kids, enc s.lab, enc s.reg, enc s.mn, enc s.mx, enc s.kids] := by
 obtain ⟨op, ⟨a, b, c, d, e, f, g⟩, l, r, mn, mx, ks⟩ := s
 exact enc_pat ..
@[simp] theorem wd_Pat : Cod.wd Pat = 13 := id rfl
@[simp] theorem dec_Pat (x0 y0 y1 y2 y3 y4 y5 y6 x1 x2 x3 x4 x5 : D) : dec (X := Pat) (.agg [x0, y0, y1, y2, y3, y4, y5, y6, x1, x2, x3, x4, x5]) =
 ((dec x0).bind fun x0 => (dec y0).bind fun y0 => (dec y1).bind fun y1 => (dec y2).bind fun y2 => (dec y3).bind fun y3 => (dec y4).bind fun y4 => (dec y5).bind fun y5 => (dec y6).bind fun y6 =>
   (dec x1).bind fun x1 => (dec x2).bind fun x2 => (dec x3).bind fun x3 => (dec x4).bind fun x4 => (dec x5).bind fun x5 => some ⟨x0, ⟨y0, y1, y2, y3, y4, y5, y6⟩, x1, x2, x3, x4, x5⟩) := by
 show decP _ = _
 simp only [decP, decPK_eq, dec_Cond, Option.bind_assoc, Option.bind_some]
end Go.Gv

namespace Go.Gv

theorem take_snoc {α : Type} {l : List α} {k : Nat} {a : α} (h : l[k]? = some a) : l.take (k + 1) = l.take k ++ [a] := by
 rw [List.take_add_one, h]; rfl
theorem drop_cons_of {α : Type} {l : List α} {k : Nat} {a : α} (h : l[k]? = some a) : l.drop k = a :: l.drop (k + 1) := by
 obtain ⟨hk, rfl⟩ := List.getElem?_eq_some_iff.1 h
 exact List.drop_eq_getElem_cons hk
theorem mem_at {α : Type} {l : List α} {k : Nat} {a : α} (h : l[k]? = some a) : a ∈ l := List.mem_of_getElem? h
theorem lt_at {α : Type} {l : List α} {k : Nat} {a : α} (h : l[k]? = some a) : k < l.length := (List.getElem?_eq_some_iff.1 h).1
theorem at_lt {α : Type} {l : List α} {k : Nat} (h : k < l.length) : ∃ a, l[k]? = some a := ⟨l[k], List.getElem?_eq_getElem h⟩

/-! ### Strict order of spans -/
def ltS (a b : Span) : Prop := a.b < b.b ∨ a.b = b.b ∧ a.e < b.e
instance (a b : Span) : Decidable (ltS a b) := by unfold ltS; infer_instance
theorem ltS_irr (a : Span) : ¬ ltS a a := by unfold ltS; omega
theorem Span.ext' {a b : Span} (h : a.b = b.b) (k : a.e = b.e) : a = b := by cases a; cases b; simp at h k; simp [h, k]
/-- A list in strict order. -/
def SS (l : List Span) : Prop := l.Pairwise ltS
theorem SS.nil : SS [] := List.Pairwise.nil
/-- r is the list, in order, of what is in l. -/
def IsNorm (l r : List Span) : Prop := SS r ∧ ∀ x, x ∈ r ↔ x ∈ l
theorem IsNorm.nil : IsNorm [] [] := ⟨SS.nil, fun _ => Iff.rfl⟩
theorem IsNorm.congr {l l' r : List Span} (h : IsNorm l r) (hl : ∀ x, x ∈ l ↔ x ∈ l') : IsNorm l' r := ⟨h.1, fun x => (h.2 x).trans (hl x)⟩
theorem ss_len : ∀ {r l : List Span}, SS r → (∀ x ∈ r, x ∈ l) → r.length ≤ l.length
 | [], l, _, _ => Nat.zero_le _
 | x :: r, l, h, hl => by
   have h' := List.pairwise_cons.1 h
   have hx := hl x (by simp)
   have := ss_len (l := l.erase x) h'.2 fun y hy => (List.mem_erase_of_ne (fun (e : y = x) => ltS_irr x (by have := h'.1 y hy; rwa [e] at this))).2 (hl y (by simp [hy]))
   rw [List.length_erase_of_mem hx] at this
   have := List.length_pos_of_mem hx
   simp; omega
theorem IsNorm.len {l r : List Span} (h : IsNorm l r) : r.length ≤ l.length := ss_len h.1 fun x hx => (h.2 x).1 hx
theorem IsNorm.same {l l' r : List Span} (h : IsNorm l r) (hl : ∀ x, x ∈ l' ↔ x ∈ l) : IsNorm l' r := ⟨h.1, fun x => (h.2 x).trans (hl x).symm⟩

/-! ### Where something stands in a list -/
def idxI {X : Type} : List X → (X → Bool) → Int
 | [], _ => -1
 | x :: l, p => if p x then 0 else if idxI l p < 0 then -1 else idxI l p + 1
theorem idxI_none {X : Type} {p : X → Bool} : ∀ {l : List X}, (∀ y ∈ l, p y = false) → idxI l p = -1
 | [], _ => rfl
 | x :: l, h => by
   have := idxI_none (l := l) (fun y hy => h y (by simp [hy]))
   simp [idxI, h x (by simp), this]
theorem idxI_at {X : Type} {p : X → Bool} : ∀ {l : List X} {k : Nat} {x : X}, l[k]? = some x → p x = true → (∀ y ∈ l.take k, p y = false) → idxI l p = k
 | [], k, x, hx, _, _ => by simp at hx
 | z :: l, 0, x, hx, hp, _ => by
   simp at hx
   subst hx
   simp [idxI, hp]
 | z :: l, k + 1, x, hx, hp, hb => by
   have hz := hb z (by simp)
   have ih := idxI_at (l := l) (k := k) (by simpa using hx) hp (fun y hy => hb y (by simp [hy]))
   simp [idxI, hz, ih]
   omega
theorem idxI_cases {X : Type} (p : X → Bool) (l : List X) : (idxI l p = -1 ∧ ∀ y ∈ l, p y = false) ∨ ∃ k x, idxI l p = (k : Nat) ∧ l[k]? = some x ∧ p x = true ∧ ∀ y ∈ l.take k, p y = false := by
 induction l with
 | nil => exact .inl ⟨rfl, by simp⟩
 | cons z l ih =>
   by_cases hz : p z = true
   ·exact .inr ⟨0, z, by simp [idxI, hz], by simp, hz, by simp⟩
   ·have hz : p z = false := by simpa using hz
    rcases ih with ⟨h1, h2⟩ | ⟨k, x, h1, h2, h3, h4⟩
    ·refine .inl ⟨by simp [idxI, hz, h1], fun y hy => ?_⟩
     rcases List.mem_cons.1 hy with rfl | hy
     ·exact hz
     ·exact h2 y hy
    ·refine .inr ⟨k + 1, x, ?_, by simpa using h2, h3, fun y hy => ?_⟩
     ·simp [idxI, hz, h1]; omega
     ·rw [List.take_succ_cons] at hy
      rcases List.mem_cons.1 hy with rfl | hy
      ·exact hz
      ·exact h4 y hy
theorem idxI_ge {X : Type} (p : X → Bool) (l : List X) : decide (0 ≤ idxI l p) = l.any p := by
 rcases idxI_cases p l with ⟨h1, h2⟩ | ⟨k, x, h1, h2, h3, h4⟩
 ·have : l.any p = false := by simpa using h2
  rw [h1, this]; rfl
 ·have : l.any p = true := List.any_eq_true.2 ⟨x, mem_at h2, h3⟩
  rw [h1, this]; simp
theorem SS.filter {l : List Span} (h : SS l) (p : Span → Bool) : SS (l.filter p) := List.Pairwise.filter p h
theorem IsNorm.filter {l r : List Span} (h : IsNorm l r) (p : Span → Bool) : IsNorm (l.filter p) (r.filter p) := ⟨h.1.filter p, fun x => by simp [h.2 x]⟩
end Go.Gv

namespace Go.Gv

instance : Inhabited Cond := ⟨⟨0, ⟨#[]⟩, ⟨#[]⟩, ⟨#[]⟩, ⟨#[]⟩, false, []⟩⟩
instance : Inhabited Pat := ⟨⟨0, default, ⟨#[]⟩, ⟨#[]⟩, 0, 0, []⟩⟩
/-- The condition without fields. -/
def Cond0 : Cond := ⟨0, ⟨#[]⟩, ⟨#[]⟩, ⟨#[]⟩, ⟨#[]⟩, false, []⟩

mutual
def pDep : Pat → Nat | .mk _ _ _ _ _ _ ks => pDeps ks + 1
def pDeps : List Pat → Nat | [] => 0 | k :: ks => max (pDep k) (pDeps ks)
end
mutual
def cDep : Cond → Nat | .mk _ _ _ _ _ _ ks => cDeps ks + 1
def cDeps : List Cond → Nat | [] => 0 | k :: ks => max (cDep k) (cDeps ks)
end
theorem pDep_eq (p : Pat) : pDep p = pDeps p.kids + 1 := by cases p; rw [pDep]
theorem cDep_eq (p : Cond) : cDep p = cDeps p.kids + 1 := by cases p; rw [cDep]
theorem pDeps_mem {k : Pat} : ∀ {ks : List Pat}, k ∈ ks → pDep k ≤ pDeps ks
 | a :: ks, h => by
   rw [pDeps]
   rcases List.mem_cons.1 h with rfl | h
   ·omega
   ·have := pDeps_mem h; omega
theorem cDeps_mem {k : Cond} : ∀ {ks : List Cond}, k ∈ ks → cDep k ≤ cDeps ks
 | a :: ks, h => by
   rw [cDeps]
   rcases List.mem_cons.1 h with rfl | h
   ·omega
   ·have := cDeps_mem h; omega
theorem pDep_kid {p k : Pat} (h : k ∈ p.kids) : pDep k < pDep p := by have := pDeps_mem h; rw [pDep_eq p]; omega
theorem cDep_kid {p k : Cond} (h : k ∈ p.kids) : cDep k < cDep p := by have := cDeps_mem h; rw [cDep_eq p]; omega
/-- What holds of a pattern if it does so whenever it holds of its kids, holds of all. -/
theorem pat_ind {C : Pat → Prop} (h : ∀ p, (∀ k ∈ p.kids, C k) → C p) (p : Pat) : C p := by
 generalize hn : pDep p = n
 induction n using Nat.strongRecOn generalizing p with
 | _ n ih => exact h p fun k hk => ih (pDep k) (by rw [← hn]; exact pDep_kid hk) k rfl
/-! ### All nodes -/
mutual
def everyB (f : Pat → Bool) : Pat → Bool | .mk op c l r mn mx ks => f ⟨op, c, l, r, mn, mx, ks⟩ && everyBs f ks
def everyBs (f : Pat → Bool) : List Pat → Bool | [] => true | k :: ks => everyB f k && everyBs f ks
end
theorem everyBs_eq (f : Pat → Bool) : ∀ ks : List Pat, everyBs f ks = ks.all (everyB f)
 | [] => by rw [everyBs]; rfl
 | k :: ks => by rw [everyBs, everyBs_eq f ks, List.all_cons]
theorem everyB_eq (f : Pat → Bool) (p : Pat) : everyB f p = (f p && p.kids.all (everyB f)) := by cases p; rw [everyB, everyBs_eq]
mutual
def shallowB : Pat → Int → Bool | .mk _ _ _ _ _ _ ks, d => decide (d ≤ 100) && shallowBs ks (d + 1)
def shallowBs : List Pat → Int → Bool | [], _ => true | k :: ks, d => shallowB k d && shallowBs ks d
end
theorem shallowBs_eq (d : Int) : ∀ ks : List Pat, shallowBs ks d = ks.all (shallowB · d)
 | [] => by rw [shallowBs]; rfl
 | k :: ks => by rw [shallowBs, shallowBs_eq d ks, List.all_cons]
theorem shallowB_eq (p : Pat) (d : Int) : shallowB p d = (decide (d ≤ 100) && p.kids.all (shallowB · (d + 1))) := by cases p; rw [shallowB, shallowBs_eq]
theorem shallow_mono (p : Pat) : ∀ d d' : Int, d' ≤ d → shallowB p d = true → shallowB p d' = true := by
 induction p using pat_ind with | _ p ih => ?_
 intro d d' h
 rw [shallowB_eq, shallowB_eq]
 simp only [Bool.and_eq_true, decide_eq_true_eq, List.all_eq_true]
 exact fun ⟨h1, h2⟩ => ⟨by omega, fun k hk => ih k hk (d + 1) (d' + 1) (by omega) (h2 k hk)⟩

def NodeOk (p : Pat) : Prop := (p.op = 1 ∧ p.reg = ⟨#[]⟩ ∧ p.mn = 0 ∧ p.mx = 0 ∧ p.kids = []) ∨
 ((p.op = 2 ∨ p.op = 3) ∧ p.cond = Cond0 ∧ p.lab = ⟨#[]⟩ ∧ p.mn = 0 ∧ p.mx = 0 ∧ p.kids = []) ∨
 ((p.op = 4 ∨ p.op = 5) ∧ p.cond = Cond0 ∧ p.lab = ⟨#[]⟩ ∧ p.reg = ⟨#[]⟩ ∧ p.mn = 0 ∧ p.mx = 0 ∧ 2 ≤ p.kids.length) ∨
 (p.op = 6 ∧ p.cond = Cond0 ∧ p.lab = ⟨#[]⟩ ∧ p.reg = ⟨#[]⟩ ∧ p.kids.length = 1)
noncomputable def nodeB (p : Pat) : Bool := @decide (NodeOk p) (Classical.propDecidable _)
theorem nodeB_iff (p : Pat) : nodeB p = true ↔ NodeOk p := @decide_eq_true_iff (NodeOk p) (Classical.propDecidable _)
/-- The numbers of a repetition. -/
def numB (p : Pat) : Bool := decide (p.op = 6 → 0 ≤ p.mn ∧ p.mn ≤ 16 ∧ (p.mx = -1 ∨ p.mn ≤ p.mx ∧ p.mx ≤ 16))
/-- The names of a node (v: the names that are valid). -/
def nameB (v : B → Bool) (p : Pat) : Bool := decide (((p.op = 2 ∨ p.op = 3) → v p.reg = true) ∧ (p.lab ≠ ⟨#[]⟩ → v p.lab = true))
noncomputable def patB (v : B → Bool) (p : Pat) : Bool := shallowB p 1 && everyB nodeB p && everyB (nameB v) p && everyB numB p

theorem patB_kid {v : B → Bool} {p k : Pat} (h : patB v p = true) (hk : k ∈ p.kids) : patB v k = true := by
 unfold patB at *
 rw [everyB_eq, everyB_eq, everyB_eq numB, shallowB_eq] at h
 simp only [Bool.and_eq_true, List.all_eq_true] at h
 obtain ⟨⟨⟨⟨_, h1⟩, _, h2⟩, _, h3⟩, _, h4⟩ := h
 rw [h2 k hk, h3 k hk, h4 k hk, shallow_mono k _ 1 (by omega) (h1 k hk)]
 rfl
theorem patB_node {v : B → Bool} {p : Pat} (h : patB v p = true) : nodeB p = true ∧ nameB v p = true ∧ numB p = true := by
 unfold patB at *
 rw [everyB_eq, everyB_eq, everyB_eq numB] at h
 simp only [Bool.and_eq_true] at h
 exact ⟨h.1.1.2.1, h.1.2.1, h.2.1⟩

/-! ### Sizes, widths, leaves -/
def sizeN (p : Pat) (n : Int) : Int := if p.kids = [] then 1 else if p.op = 6 then (if p.mx = -1 then min (n * (p.mn + 1)) 1000 else if p.mx = 0 then n else min (n * p.mx) 1000) else n
mutual
def sizeP : Pat → Int | .mk op c l r mn mx ks => sizeN ⟨op, c, l, r, mn, mx, ks⟩ (sizePs ks 0)
def sizePs : List Pat → Int → Int | [], n => n | k :: ks, n => sizePs ks (min (n + sizeP k) 1000)
end
theorem sizeP_eq (p : Pat) : sizeP p = sizeN p (sizePs p.kids 0) := by cases p; rw [sizeP]
theorem sizePs_app (a b : List Pat) (n : Int) : sizePs (a ++ b) n = sizePs b (sizePs a n) := by
 induction a generalizing n with
 | nil => rfl
 | cons k a ih => simp only [List.cons_append, sizePs]; exact ih _

mutual
def leavesP : Pat → List Pat | .mk op c l r mn mx ks => if op = 1 then [⟨op, c, l, r, mn, mx, ks⟩] else leavesPs ks
def leavesPs : List Pat → List Pat | [] => [] | k :: ks => leavesP k ++ leavesPs ks
end
theorem leavesPs_eq : ∀ ks : List Pat, leavesPs ks = ks.flatMap leavesP
 | [] => by rw [leavesPs]; rfl
 | k :: ks => by rw [leavesPs, leavesPs_eq ks, List.flatMap_cons]
theorem leavesP_eq (p : Pat) : leavesP p = if p.op = 1 then [p] else p.kids.flatMap leavesP := by cases p; rw [leavesP, leavesPs_eq]
theorem sizePs_rng : ∀ (ks : List Pat) (n : Int), 0 ≤ n → n ≤ 1000 → (∀ k ∈ ks, 0 ≤ sizeP k) → 0 ≤ sizePs ks n ∧ sizePs ks n ≤ 1000
 | [], n, h0, h1, _ => by rw [sizePs]; exact ⟨h0, h1⟩
 | k :: ks, n, h0, h1, h => by
   rw [sizePs]
   have := h k (by simp)
   exact sizePs_rng ks _ (by omega) (by omega) fun x hx => h x (by simp [hx])
theorem sizeP_rng {v : B → Bool} (p : Pat) : patB v p = true → 0 ≤ sizeP p ∧ sizeP p ≤ 1000 := by
 induction p using pat_ind with | _ p ih => ?_
 intro h
 have hk := sizePs_rng p.kids 0 (by omega) (by omega) fun k hk => (ih k hk (patB_kid h hk)).1
 have hn := (patB_node h).2.2
 unfold numB at hn
 rw [decide_eq_true_eq] at hn
 rw [sizeP_eq]
 generalize sizePs p.kids 0 = n at hk
 unfold sizeN
 split
 ·omega
 ·split
  ·rename_i h6
   have hn := hn h6
   split
   ·have : 0 ≤ n * (p.mn + 1) := Int.mul_nonneg hk.1 (by omega)
    omega
   ·split
    ·exact hk
    ·have : 0 ≤ n * p.mx := Int.mul_nonneg hk.1 (by omega)
     omega
  ·exact hk
end Go.Gv

namespace Go.Gv

/-! ### Generated patterns -/
def b_s : B := ⟨#[115]⟩
def b_np : B := ⟨#[110, 112]⟩
def b_t : B := ⟨#[116]⟩
def b_x : B := ⟨#[120]⟩
def b_y : B := ⟨#[121]⟩
def Types : List B := [b_s, b_np, b_t]
def Reps : List (Int × Int) := [(0, 1), (0, -1), (1, -1), (2, 2), (0, 2), (1, 3), (0, 0)]
/-- A leaf of a generated pattern. -/
def WP0 (lb : List B) (p : Pat) : Prop := (p.op = 1 ∧ (p.lab = ⟨#[]⟩ ∨ p.lab ∈ lb) ∧ p.reg = ⟨#[]⟩ ∧ p.mn = 0 ∧ p.mx = 0 ∧ p.kids = []) ∨ ((p.op = 2 ∨ p.op = 3) ∧ p.cond = Cond0 ∧ p.lab = ⟨#[]⟩ ∧ p.reg ∈ Types ∧ p.mn = 0 ∧ p.mx = 0 ∧ p.kids = [])
/-- A pattern that was generated, of at most n levels above the leaves. -/
def WP (lb : List B) : Nat → Pat → Prop
 | 0, p => WP0 lb p
 | n + 1, p => WP0 lb p ∨ ((p.op = 4 ∨ p.op = 5) ∧ p.cond = Cond0 ∧ p.lab = ⟨#[]⟩ ∧ p.reg = ⟨#[]⟩ ∧ p.mn = 0 ∧ p.mx = 0 ∧ ∃ a b, p.kids = [a, b] ∧ WP lb n a ∧ WP lb n b) ∨
   (p.op = 6 ∧ p.cond = Cond0 ∧ p.lab = ⟨#[]⟩ ∧ p.reg = ⟨#[]⟩ ∧ (p.mn, p.mx) ∈ Reps ∧ ∃ a, p.kids = [a] ∧ WP lb n a)
theorem wp0 {lb : List B} {n : Nat} {p : Pat} (h : WP0 lb p) : WP lb n p := by
 cases n
 ·exact h
 ·exact .inl h
/-- The labels that a generated pattern may bind. -/
def LabOk (lb : List B) : Prop := ∀ l ∈ lb, l = b_x ∨ l = b_y
theorem wp_cases {lb : List B} {n : Nat} {p : Pat} (h : WP lb n p) : WP0 lb p ∨ ∃ m, n = m + 1 ∧ (((p.op = 4 ∨ p.op = 5) ∧ p.cond = Cond0 ∧ p.lab = ⟨#[]⟩ ∧ p.reg = ⟨#[]⟩ ∧ p.mn = 0 ∧ p.mx = 0 ∧ ∃ a b, p.kids = [a, b] ∧ WP lb m a ∧ WP lb m b) ∨
 (p.op = 6 ∧ p.cond = Cond0 ∧ p.lab = ⟨#[]⟩ ∧ p.reg = ⟨#[]⟩ ∧ (p.mn, p.mx) ∈ Reps ∧ ∃ a, p.kids = [a] ∧ WP lb m a)) := by
 cases n with
 | zero => exact .inl h
 | succ m => exact h.elim .inl fun h => .inr ⟨m, rfl, h⟩
theorem wp_ind {lb : List B} {C : Nat → Pat → Prop} (h : ∀ n p, WP lb n p → (∀ k ∈ p.kids, ∃ m, n = m + 1 ∧ WP lb m k ∧ C m k) → C n p) : ∀ n p, WP lb n p → C n p := by
 intro n
 induction n with
 | zero =>
   intro p hp
   refine h 0 p hp fun k hk => ?_
   rcases hp with hp | hp
   ·rw [hp.2.2.2.2.2] at hk; simp at hk
   ·rw [hp.2.2.2.2.2.2] at hk; simp at hk
 | succ m ih =>
   intro p hp
   refine h (m + 1) p hp fun k hk => ⟨m, rfl, ?_⟩
   have : WP lb m k := by
    rcases hp with (hp | hp) | hp | hp
    ·rw [hp.2.2.2.2.2] at hk; simp at hk
    ·rw [hp.2.2.2.2.2.2] at hk; simp at hk
    ·obtain ⟨a, b, e, ha, hb⟩ := hp.2.2.2.2.2.2
     rw [e] at hk
     simp at hk
     rcases hk with rfl | rfl
     ·exact ha
     ·exact hb
    ·obtain ⟨a, e, ha⟩ := hp.2.2.2.2.2
     rw [e] at hk
     simp at hk
     subst hk
     exact ha
   exact ⟨this, ih k this⟩
theorem wp_patB {v : B → Bool} {lb : List B} (hl : LabOk lb) (hv : v b_s = true ∧ v b_np = true ∧ v b_t = true ∧ v b_x = true ∧ v b_y = true) : ∀ n p, WP lb n p → n ≤ 90 → patB v p = true := by
 have key : ∀ n p, WP lb n p → (n ≤ 90 → ∀ d : Int, d + n ≤ 100 → shallowB p d = true) ∧ everyB nodeB p = true ∧ everyB (nameB v) p = true ∧ everyB numB p = true := by
  refine wp_ind fun n p hp ih => ?_
  have hnode : nodeB p = true ∧ nameB v p = true ∧ numB p = true := by
   rw [nodeB_iff]
   unfold NodeOk nameB numB
   rw [decide_eq_true_eq, decide_eq_true_eq]
   have hr : (p.mn, p.mx) ∈ Reps → 0 ≤ p.mn ∧ p.mn ≤ 16 ∧ (p.mx = -1 ∨ p.mn ≤ p.mx ∧ p.mx ≤ 16) := by
    intro h
    simp [Reps] at h
    omega
   have ht : p.reg ∈ Types → v p.reg = true := by
    intro h
    simp [Types] at h
    rcases h with h | h | h <;> rw [h]
    ·exact hv.1
    ·exact hv.2.1
    ·exact hv.2.2.1
   rcases wp_cases hp with (⟨h1, h2, h3, h4, h5, h6⟩ | ⟨h1, h2, h3, h4, h5, h6, h7⟩) | ⟨m, _, (⟨h1, h2, h3, h4, h5, h6, a, b, h7, _⟩ | ⟨h1, h2, h3, h4, h5, a, h7, _⟩)⟩
   ·refine ⟨.inl ⟨h1, h3, h4, h5, h6⟩, ⟨fun h => by omega, fun hne => ?_⟩, fun h => by omega⟩
    rcases h2 with h2 | h2
    ·exact absurd h2 hne
    ·rcases hl _ h2 with h | h <;> rw [h]
     ·exact hv.2.2.2.1
     ·exact hv.2.2.2.2
   ·exact ⟨.inr (.inl ⟨h1, h2, h3, h5, h6, h7⟩), ⟨fun _ => ht h4, fun h => absurd h3 h⟩, fun h => by omega⟩
   ·exact ⟨.inr (.inr (.inl ⟨h1, h2, h3, h4, h5, h6, by rw [h7]; simp⟩)), ⟨fun h => by omega, fun h => absurd h3 h⟩, fun h => by omega⟩
   ·exact ⟨.inr (.inr (.inr ⟨h1, h2, h3, h4, by rw [h7]; simp⟩)), ⟨fun h => by omega, fun h => absurd h3 h⟩, fun _ => hr h5⟩
  refine ⟨fun hn d hd => ?_, ?_, ?_, ?_⟩
  ·rw [shallowB_eq, Bool.and_eq_true, decide_eq_true_eq, List.all_eq_true]
   refine ⟨by omega, fun k hk => ?_⟩
   obtain ⟨m, e, _, h, _⟩ := ih k hk
   exact h (by omega) _ (by omega)
  ·rw [everyB_eq, Bool.and_eq_true, List.all_eq_true]
   exact ⟨hnode.1, fun k hk => by obtain ⟨m, e, _, h⟩ := ih k hk; exact h.2.1⟩
  ·rw [everyB_eq, Bool.and_eq_true, List.all_eq_true]
   exact ⟨hnode.2.1, fun k hk => by obtain ⟨m, e, _, h⟩ := ih k hk; exact h.2.2.1⟩
  ·rw [everyB_eq, Bool.and_eq_true, List.all_eq_true]
   exact ⟨hnode.2.2, fun k hk => by obtain ⟨m, e, _, h⟩ := ih k hk; exact h.2.2.2⟩
 intro n p hp hn
 obtain ⟨h1, h2, h3, h4⟩ := key n p hp
 unfold patB
 rw [h1 hn 1 (by omega), h2, h3, h4]
 rfl
end Go.Gv

namespace Go.Gv
end Go.Gv

namespace Go.Gv
end Go.Gv

namespace Go.Gv
open Go.Proofs
def cc_m_Mod : CC := oX [oB 4 (.mv (oN 0))] [0,1] [] (.seq (oX [oA 5 1,oB 6 (.cmp .lss (oT 5) (oN 1))] [0,1,6] [] (.ite (oT 6) (oX [oB 4 (.mv (oN 0))] [4] [] (.ret)) (.skip))) (.keep [0,1] [] (oX [oA 7 0,oA 8 1,oB 9 (.arith .rem (oT 7) (oT 8)),oA 0 9] [0,1] [] (.seq (oX [oA 10 0,oB 11 (.cmp .lss (oT 10) (oN 0))] [0,1,11] [] (.ite (oT 11) (.reg [oA 12 0,oA 13 1,
 oB 14 (.arith .add (oT 12) (oT 13)),oA 0 14]) (.skip))) (.keep [0] [] (oX [oA 15 0,oA 4 15] [4] [] (.ret)))))))
def rs_m_Mod : List CRes := [.tmp 4]
def im_m_Mod : List Nat := []
theorem ok_m_Mod : FnOk Tryz.prog f_m_Mod im_m_Mod cc_m_Mod rs_m_Mod 16 := fnOk1 mixed (by kernel_rfl)
-- r04_ValidName while id=0: live [0:s, 3:i] changed [3] res []
def cc_m_Tape_Next : CC := oX [oB 4 (.mv (oN 0))] [0,1] [] (.seq (.seq (.regd [oA 5 0,oG 6 5,oE 7 1 6,oC 8 1 7,oA 9 0,oG 10 9,oE 11 0 10,oC 12 1 11,oB 13 (.len (oT 12))] [oB 14 (.cmp .geq (oT 8) (oT 13))]) (.keep [0,1,14] [] (.ite (oT 14) (oX [oB 4 (.mv (oN 0))] [4] [] (.ret)) (.skip)))) (.keep [0,1] [] (oX [oA 15 0,oG 16 15,oE 17 1 16,oC 18 1 17,
 oB 19 (.arith .add (oT 18) (oN 1)),oG 20 15,oE 21 1 20,oF 1 21 19] [0,1] [] (.seq (.regd [oA 22 0,oG 23 22,oE 24 0 23,oC 25 1 24,oA 26 0,oG 27 26,oE 28 1 27,oC 29 1 28,oB 30 (.arith .sub (oT 29) (oN 1)),oB 31 (.iaddr 1 (oT 25) (oT 30)),oC 32 1 31,oA 33 1] [oZ 34 f_m_Mod [oT 32,oT 33],oA 4 34]) (.keep [4] [] (.ret))))))
def rs_m_Tape_Next : List CRes := [.tmp 4]
def im_m_Tape_Next : List Nat := []
theorem ok_m_Tape_Next : FnOk Tryz.prog f_m_Tape_Next im_m_Tape_Next cc_m_Tape_Next rs_m_Tape_Next 35 := fnOk1 mixed (by kernel_rfl)
def cc_m_New : CC := oX [oB 2 (.mv (.const (.pointer none)))] [0] [] (.seq (oX [oA 3 0,oB 4 (.len (oT 3)),oB 5 (.cmp .gtr (oT 4) (oN 120))] [0,5] [] (.ite (oT 5) (.reg [oA 6 0,oB 7 (.slice 1 (oT 6) none (some (oN 120))),oA 0 7]) (.skip))) (.keep [0] [] (oX [oA 8 0,oB 9 (.build [on,oi] [(0,1,oT 8)]),oB 10 (.box ty_corporamade_Tape false (oT 9)),oA 2 10] [2] [10] (.ret))))
def rs_m_New : List CRes := [.tmp 2]
def im_m_New : List Nat := [999]
theorem ok_m_New : FnOk Tryz.prog f_m_New im_m_New cc_m_New rs_m_New 11 := fnOk1 mixed (by kernel_rfl)

end Go.Gv

namespace Go.Gv
open Cod (enc dec)
variable {S : Nat → Spc}

def modI (x n : Int) : Int := if n < 1 then 0 else if x.tmod n < 0 then x.tmod n + n else x.tmod n
abbrev s_m_Mod : Spc := spc (a2 Int Int) (fun x => x.2 ≤ 1000000000) enc fun x y => y = modI x.1 x.2
theorem w_m_Mod : Walk cc_m_Mod rs_m_Mod S (a2 Int Int) (fun x => x.2 ≤ 1000000000) enc fun x y => y = modI x.1 x.2 := by
 rintro ⟨a, b⟩ hl
 simp at hl
 simp [cc_m_Mod, rs_m_Mod, modI]
 refine ⟨fun h1 h2 => by omega, fun h1 => ⟨by omega, fun h2 => ⟨?_, ?_⟩, fun h2 => ?_⟩⟩
 ·have := Int.lt_tmod_of_pos a (b := b) (by omega)
  simp [InR]; omega
 ·rw [if_neg (by omega), if_pos h2]
 ·rw [if_neg (by omega), if_neg (by omega)]
end Go.Gv

namespace Go.Gv
open Cod (enc dec)

/-- One of two contracts. -/
def orC (s t : Spc) : Spc := .gen (fun d ds H K => s.pt d ds H K ∨ t.pt d ds H K) fun d ds H K K' hk h => h.elim (fun h => .inl (s.mono d ds H K K' hk h)) (fun h => .inr (t.mono d ds H K K' hk h))
@[simp] theorem orC_pt (s t : Spc) (d : Nat) (ds : List D) (H : HMap) (K : D → HMap → Prop) : (orC s t).pt d ds H K = (s.pt d ds H K ∨ t.pt d ds H K) := id rfl
theorem tri_or {P : Program} {f : Nat} {s t : Spc} (h1 : Tri P f s.pt) (h2 : Tri P f t.pt) : Tri P f (orC s t).pt := fun O tp w vs ds H d K a b c e g h => h.elim (fun h => h1 O tp w vs ds H d K a b c e g h) (fun h => h2 O tp w vs ds H d K a b c e g h)

section
variable {X Y : Type} [Cod Y]
def frPT (A : Arg X) (pre : X → Prop) (post : X → List Y → Prop) (el n : Nat) : PT := fun d ds H K => optX (A.dec ds) fun x => pre x ∧ ∀ v l, post x l → K (.own d v) (updH H d (some (.row v el n (l.map enc))))
theorem optX_mono {o : Option X} {k k' : X → Prop} (h : ∀ x, k x → k' x) (ho : optX o k) : optX o k' := by
 cases o with
 | none => exact ho
 | some x => exact h x ho
theorem fr_mono (A : Arg X) (pre : X → Prop) (post : X → List Y → Prop) (el n : Nat) : MonoPT (frPT A pre post el n) := fun d ds H K K' hk h => optX_mono (fun x h => ⟨h.1, fun v l hp => hk _ _ (h.2 v l hp)⟩) h
def frC (A : Arg X) (pre : X → Prop) (post : X → List Y → Prop) (el n : Nat) : Spc := .gen _ (fr_mono A pre post el n)
@[simp] theorem frC_pt (A : Arg X) (pre : X → Prop) (post : X → List Y → Prop) (el n : Nat) (d : Nat) (ds : List D) (H : HMap) (K : D → HMap → Prop) : (frC A pre post el n).pt d ds H K = optX (A.dec ds) fun x => pre x ∧ ∀ v l, post x l → K (.own d v) (updH H d (some (.row v el n (l.map enc)))) := id rfl
/-- A slice of the caller's own is given back, of whose elements q holds. -/
def FinF (el n : Nat) (q : List Y → Prop) (r : D) (H' : HMap) : Prop := ∃ j v l, r = .own j v ∧ H' j = some (.row v el n (l.map enc)) ∧ q l
theorem finF_of {el n : Nat} {q : List Y → Prop} {j : Nat} {v : Value} {H' : HMap} (l : List Y) (h : H' j = some (.row v el n (l.map enc))) (hq : q l) : FinF el n q (.own j v) H' := ⟨j, v, l, rfl, h, hq⟩
def WalkF (cc : CC) (rs : List CRes) (S : Nat → Spc) (A : Arg X) (pre : X → Prop) (post : X → List Y → Prop) (el n : Nat) : Prop :=
 ∀ x, pre x → vc S cc (retK rs fun r H' => FinF el n (post x) r H') (initS (A.view x)) noH
variable {P : Program} {S : Nat → Spc} {f : Nat} {im : List Nat} {cc : CC} {rs : List CRes} {N : Nat} {A : Arg X} {el n : Nat}

theorem tri_walkF {pre : X → Prop} {post : X → List Y → Prop} (hS : ∀ f, Tri P f (S f).pt) (h : FnOk P f im cc rs N) (hN : ∀ x, (A.view x).length ≤ N) (hw : WalkF cc rs S A pre post el n) : Tri P f (frC A pre post el n).pt := by
 obtain ⟨mix, enter, fn, code, h1, h2, h3, h4, h5⟩ := h
 refine tri_of_vc hS mix h1 h2 enter h3 h4 h5 ?_
 intro ds H d K hA
 rw [frC_pt] at hA
 cases hd : A.dec ds with
 | none => rw [hd] at hA; exact hA.elim
 | some x =>
   rw [hd] at hA
   obtain ⟨hp, hK⟩ := hA
   have hl := A.le ds x hd
   refine ⟨by rw [hl.1]; exact hN x, A.view x, noH, id, hl, fun i r h => by simp at h, fun i j r s h => by simp at h, _, hw x hp, ?_⟩
   rintro r H' ⟨j, v, l, rfl, hj, hpost⟩
   refine ⟨.own d v, noH, updH H d (some (.row v el n (l.map enc))), fun i => if i = d then some j else none, .own _ _ _, fun j q h => by simp at h, hK v l hpost, fun i s hi => ?_, fun i j' k s q hi hj' e1 e2 => ?_⟩
   ·by_cases e : i = d
    ·subst e
     simp only [updH, if_true] at hi
     cases hi
     simpa using hj
    ·simp only [updH, e, if_false] at hi ⊢
     exact ⟨hi, fun k q h => by simp at h⟩
   ·have a : i = d := by
     by_cases e : i = d
     ·exact e
     ·simp [e] at e1
    have b : j' = d := by
     by_cases e : j' = d
     ·exact e
     ·simp [e] at e2
    exact a.trans b.symm

end

/-! ### Function values -/
/-- An argument that is not read. -/
def aD {X : Type} (A : Arg X) : Arg (D × X) := ⟨fun ds => match ds with | d :: r => (A.dec r).map fun x => (d, x) | _ => none, fun x => x.1 :: A.view x.2, fun ds x h => by
 split at h
 ·simp only [Option.map_eq_some_iff] at h
  obtain ⟨y, hy, rfl⟩ := h
  exact .cons (.same _) (A.le _ _ hy)
 ·cases h⟩
def aE (X : Type) [Cod X] {Y : Type} (A : Arg Y) : Arg (X × Y) := ⟨fun ds => match ds with | d :: r => (dec d).bind fun x => (A.dec r).map fun y => (x, y) | _ => none, fun x => enc x.1 :: A.view x.2, fun ds x h => by
 split at h
 ·simp only [Option.bind_eq_some_iff, Option.map_eq_some_iff] at h
  obtain ⟨x, hx, y, hy, rfl⟩ := h
  exact .cons (Cod.le _ _ hx) (A.le _ _ hy)
 ·cases h⟩
@[simp] theorem aD_dec {X : Type} (A : Arg X) (d : D) (r : List D) : (aD A).dec (d :: r) = (A.dec r).map fun x => (d, x) := id rfl
@[simp] theorem aD_view {X : Type} (A : Arg X) (d : D) (x : X) : (aD A).view (d, x) = d :: A.view x := id rfl
@[simp] theorem aE_dec {X Y : Type} [Cod X] (A : Arg Y) (d : D) (r : List D) : (aE X A).dec (d :: r) = (dec d).bind fun x => (A.dec r).map fun y => (x, y) := id rfl
@[simp] theorem aE_view {X Y : Type} [Cod X] (A : Arg Y) (x : X) (y : Y) : (aE X A).view (x, y) = enc x :: A.view y := id rfl

/-- d is a function that gives p. -/
def FunIs {X Y : Type} [Cod X] [Cod Y] (S : Nat → Spc) (d : D) (p : X → Y) : Prop :=
 ∃ g caps pc, d = .clo g caps ∧ S g = .pure pc ∧ ∀ x : X, pc.pre (enc x :: caps) ∧ ∀ r, pc.post (enc x :: caps) r → r = enc (p x)

theorem FunIs.use' {X Y : Type} [Cod X] [Cod Y] {S : Nat → Spc} {d : D} {p : X → Y} (h : FunIs S d p) (x : X) (d' : Nat) (H : HMap) (K : D → HMap → Prop) (hk : ∀ y : Y, (∀ q, FunIs S d q → y = q x) → K (enc y) H) : callX S d d' [enc x] H K := by
 obtain ⟨g, caps, pc, rfl, h1, h2⟩ := h
 simp only [callX, h1, Spc.pt]
 refine ⟨(h2 x).1, fun r hr => ?_⟩
 have e := (h2 x).2 r hr
 rw [e]
 refine hk (p x) fun q hq => ?_
 obtain ⟨g', caps', pc', e', k1, k2⟩ := hq
 cases e'
 rw [h1] at k1
 cases k1
 exact enc_inj (e.symm.trans ((k2 x).2 r hr))
theorem FunIs.useB {X : Type} [Cod X] {S : Nat → Spc} {d : D} {p : X → Bool} (h : FunIs S d p) (x : X) {d' : Nat} {H : HMap} {K : D → HMap → Prop} (hk : ∀ y : Bool, (∀ q, FunIs S d q → y = q x) → K (.v (.bool y)) H) : callX S d d' [enc x] H K := h.use' x d' H K hk
section
variable {X Y Z : Type} [Cod Y]
end
end Go.Gv

namespace Go.Gv

def RSub (r r' : Res) : Prop := r = r' ∨ ∃ b cs cs', r = .box b cs ∧ r' = .box b cs' ∧ cs.length = cs'.length ∧ ∀ (m : Nat) (c c' : D), cs[m]? = some c → cs'[m]? = some c' → Sub c c'
theorem RSub.blk {r r' : Res} (h : RSub r r') : r'.blk = r.blk := by
 rcases h with rfl | ⟨b, cs, cs', rfl, rfl, _⟩ <;> rfl
theorem RSub.ok {tp I : Nat → Prop} {w w' : World} {r r' : Res} (h : RSub r r') (hr : ResOk (R tp I w) w' r) : ResOk (R tp I w) w' r' := by
 rcases h with rfl | ⟨b, cs, cs', rfl, rfl, hl, hc⟩
 ·exact hr
 ·obtain ⟨xs, el, h1, h2, h3⟩ := hr
  refine ⟨xs, el, h1, h2.trans hl, fun k y c hy hc' => ?_⟩
  have hk : k < cs.length := by rw [hl]; exact (List.getElem?_eq_some_iff.1 hc').1
  have h4 := h3 k y cs[k] hy (List.getElem?_eq_getElem hk)
  exact ⟨h4.1, Sub_R (hc k _ _ (List.getElem?_eq_getElem hk) hc') h4.2⟩

section
variable {S : Nat → Spc} {σ σ1 : Sg} {H H1 : HMap} {K : Ex → Sg → HMap → Prop}
theorem vc_loopW {k : Nat} {b : CC} (hw : Wk σ H σ1 H1) (h : vc S (.loop k b) K σ1 H1) : vc S (.loop k b) K σ H := by
 rw [e_loop] at h ⊢
 obtain ⟨I, ⟨x, h1, h2⟩, h3⟩ := h
 exact ⟨I, ⟨x, h1, fun E a w hs => h2 E a w (hw E a w hs)⟩, h3⟩
theorem vc_rangeW {id i n c id2 i2 : Nat} {body : CC} (hw : Wk σ H σ1 H1) (h : vc S (rangeCC id i n c id2 body i2) K σ1 H1) : vc S (rangeCC id i n c id2 body i2) K σ H := by
 unfold rangeCC at h ⊢
 rw [e_block] at h ⊢
 exact vc_loopW hw h
end
end Go.Gv

namespace Go.Gv
section
variable {X Y : Type}
variable {P : Program} {S : Nat → Spc} {f : Nat} {im : List Nat} {cc : CC} {rs : List CRes} {N : Nat}
end
end Go.Gv

namespace Go.Gv
def HWk (H H2 : HMap) : Prop := ∀ (E : Env) (tp : Nat → Prop) (w : World), StW E tp H w → StW E tp H2 w ∧ ∀ x d, R tp (Imm E.O tp H w) w x d → R tp (Imm E.O tp H2 w) w x d
theorem HWk.refl (H : HMap) : HWk H H := fun _ _ _ h => ⟨h, fun _ _ h => h⟩
theorem Wk.trans {σ σ1 σ2 : Sg} {H H1 H2 : HMap} (h : Wk σ H σ1 H1) (k : Wk σ1 H1 σ2 H2) : Wk σ H σ2 H2 := fun E a w hs => k E a w (h E a w hs)

def left (k b : Nat) (cs : List D) (ks : List Nat) (H : HMap) : HMap := fun i => if i = k then some (.box b cs) else if i ∈ ks then H i else none
section
variable {S : Nat → Spc} {σ : Sg} {H : HMap} {K : Ex → Sg → HMap → Prop}
/-- Two pieces of text, with what is known between them. -/
theorem vc_midW {X : Type} (P : X → Prop) (s : X → Sg) (h : X → HMap) {k : Nat} {a b : CC}
 (ha : vc S a (midK (fun σ' H' => ∃ x, P x ∧ Wk σ' H' (s x) (h x)) K) σ H)
 (hb : ∀ x, P x → vc S b K (s x) (h x)) : vc S (seqM k a b) K σ H := by
 unfold seqM
 rw [e_seq]
 refine vc_mono a _ _ (fun e σ' H' h => ?_) ha
 cases e with
 | norm =>
   obtain ⟨x, h1, h2⟩ := h
   rw [e_seqn, e_cut]
   exact ⟨_, _, h2, hb x h1⟩
 | ex i => exact h
 | ret => exact h
end
section
variable {P : Program} {im : List Nat} {E : Env} {S : Nat → Spc}
end
end Go.Gv

namespace Go.Gv
open Cod (enc dec)
variable {S S0 : Nat → Spc}
theorem modI_rng (x n : Int) (h : 1 ≤ n) : 0 ≤ modI x n ∧ modI x n < n := by
 unfold modI
 rw [if_neg (by omega)]
 have h1 := Int.tmod_lt_of_pos x (show 0 < n by omega)
 have h2 : -n < x.tmod n := by
  have h3 := Int.natAbs_tmod x n
  have h4 : x.natAbs % n.natAbs < n.natAbs := Nat.mod_lt _ (by omega)
  omega
 split <;> omega
def nx0 : CC := .reg [
 .op (some 4) none (.mv (.const (.int .i64 0)))]
def nxA : CC := .seq (.regd [
 .op (some 5) none (.mv (.tmp 0)),
 .op (some 6) none (.nilck (.tmp 5)),
 .op (some 7) none (.faddr 1 (.tmp 6)),
 .op (some 8) none (.load false 1 (.tmp 7)),
 .op (some 9) none (.mv (.tmp 0)),
 .op (some 10) none (.nilck (.tmp 9)),
 .op (some 11) none (.faddr 0 (.tmp 10)),
 .op (some 12) none (.load false 1 (.tmp 11)),
 .op (some 13) none (.len (.tmp 12))] [
 .op (some 14) none (.cmp .geq (.tmp 8) (.tmp 13))]) (.ite (.tmp 14) (.seq (.reg [
  .op (some 4) none (.mv (.const (.int .i64 0)))]) .ret) .skip)
def nxB : CC := .reg [
 .op (some 15) none (.mv (.tmp 0)),
 .op (some 16) none (.nilck (.tmp 15)),
 .op (some 17) none (.faddr 1 (.tmp 16)),
 .op (some 18) none (.load false 1 (.tmp 17)),
 .op (some 19) none (.arith .add (.tmp 18) (.const (.int .i64 1))),
 .op (some 20) none (.nilck (.tmp 15)),
 .op (some 21) none (.faddr 1 (.tmp 20)),
 .op none none (.store none 1 (.tmp 21) (.tmp 19))]
def nxC : CC := .seq (.regd [
 .op (some 22) none (.mv (.tmp 0)),
 .op (some 23) none (.nilck (.tmp 22)),
 .op (some 24) none (.faddr 0 (.tmp 23)),
 .op (some 25) none (.load false 1 (.tmp 24)),
 .op (some 26) none (.mv (.tmp 0)),
 .op (some 27) none (.nilck (.tmp 26)),
 .op (some 28) none (.faddr 1 (.tmp 27)),
 .op (some 29) none (.load false 1 (.tmp 28)),
 .op (some 30) none (.arith .sub (.tmp 29) (.const (.int .i64 1))),
 .op (some 31) none (.iaddr 1 (.tmp 25) (.tmp 30)),
 .op (some 32) none (.load false 1 (.tmp 31)),
 .op (some 33) none (.mv (.tmp 1))] [
 .op (some 34) none (.call f_m_Mod [(.tmp 32), (.tmp 33)]),
 .op (some 4) none (.mv (.tmp 34))]) .ret
theorem nx_strip : strip cc_m_Tape_Next = .seq nx0 (.seq nxA (.seq nxB nxC)) := rfl
theorem nx0_s : strip nx0 = nx0 := rfl
theorem nxA_s : strip nxA = nxA := rfl
theorem nxB_s : strip nxB = nxB := rfl
theorem nxC_s : strip nxC = nxC := rfl

def nxK (b : Nat) (s : Value) (i n : Int) : Ex → Sg → HMap → Prop := fun e σ H => match e with
 | .norm => σ 0 = .bptr 0 b 0 ∧ σ 1 = .v (.int .i64 n) ∧ H 0 = some (.box b [.v s, .v (.int .i64 (i + 1))]) ∧ i < slen s
 | .ret => σ 4 = .v (.int .i64 0) ∧ H 0 = some (.box b [.v s, .v (.int .i64 i)])
 | .ex _ => False
@[simp ↓] theorem nxK_n (b : Nat) (s : Value) (i n : Int) (σ : Sg) (H : HMap) : nxK b s i n .norm σ H = (σ 0 = .bptr 0 b 0 ∧ σ 1 = .v (.int .i64 n) ∧ H 0 = some (.box b [.v s, .v (.int .i64 (i + 1))]) ∧ i < slen s) := id rfl
@[simp ↓] theorem nxK_r (b : Nat) (s : Value) (i n : Int) (σ : Sg) (H : HMap) : nxK b s i n .ret σ H = (σ 4 = .v (.int .i64 0) ∧ H 0 = some (.box b [.v s, .v (.int .i64 i)])) := id rfl
theorem nx_head (b : Nat) (a : Option Addr) (len cap : Nat) (i n : Int) (h0 : 0 ≤ i) (hl : (len : Int) ≤ 9223372036854775807) : vc S (.seq nx0 (.seq nxA nxB)) (nxK b (.slice a len cap) i n) (initS [.bptr 0 b 0, .v (.int .i64 n)]) (updH noH 0 (some (.box b [.v (.slice a len cap), .v (.int .i64 i)]))) := by
 simp [nx0, nxA, nxB, slen]
 intro h
 exact ⟨by simp only [InR]; omega, h⟩
def nxR (n : Int) : Ex → Sg → HMap → Prop := fun e σ H => match e with
 | .ret => ∃ y, σ 4 = .v (.int .i64 y) ∧ (n < 1 ∧ y = 0 ∨ 1 ≤ n ∧ 0 ≤ y ∧ y < n)
 | _ => False
@[simp ↓] theorem nxR_r (n : Int) (σ : Sg) (H : HMap) : nxR n .ret σ H = (∃ y, σ 4 = .v (.int .i64 y) ∧ (n < 1 ∧ y = 0 ∨ 1 ≤ n ∧ 0 ≤ y ∧ y < n)) := id rfl
theorem nx_tail (hm : S f_m_Mod = s_m_Mod) (L : List Int) (i n : Int) (h0 : 0 ≤ i) (hi : i < L.length) (hn : n ≤ 1000000000) (hl : (L.length : Int) ≤ 9223372036854775807) : vc S nxC (nxR n) (initS [.cptr [.list 1 (L.map enc), .v (.int .i64 (i + 1))] 0, .v (.int .i64 n)]) noH := by
 obtain ⟨x, hx⟩ := at_lt (l := L) (k := i.toNat) (by omega)
 simp [nxC, hm]
 refine ⟨by simp only [InR]; omega, h0, hi, fun a _ => ⟨hn, ?_⟩⟩
 rcases Int.lt_or_le n 1 with h | h
 ·exact .inl ⟨h, by simp [modI, h]⟩
 ·exact .inr ⟨h, modI_rng a n h⟩
end Go.Gv
