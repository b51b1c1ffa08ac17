/- A part of the framework and of the walks: W76 C8. -/
import Derived.Test.YtaiffcbkmgfklaaGreatDoorGw15
import Derived.Test.YtaiffcbkmgfklaaGreatDoorGw13
import Derived.Test.YtaiffcbkmgfklaaGreatDoorGw12
set_option linter.unusedSimpArgs false
set_option linter.unusedVariables false
set_option maxRecDepth 100000

namespace Go.Gv
open Cod (enc dec)
variable {S S0 : Nat → Spc}
/-- an empty slice in a box becomes a row of its own -/
theorem wk_nilbox {σ : Sg} {H : HMap} {k j b el n : Nat} {cs cs' : List D} (hkj : j ≠ k) (hk : H k = some (.box b cs)) (hl : cs.length = cs'.length) (hc : ∀ (m : Nat) (c c' : D), cs[m]? = some c → cs'[m]? = some c' → FrzTo noH c c') :
 Wk σ H σ (updH (updH H k (some (.box b cs'))) j (some (.row (.slice none 0 0) el n []))) := by
 refine wk_all (Hf := noH) id (fun t => .same _) (fun i r h => ?_) (fun i j r s _ _ e => .inl e) (fun i r h => by simp [noH] at h)
 by_cases e : i = j
 ·subst e
  simp [updH] at h
  subst h
  exact .inr ⟨rfl, rfl⟩
 ·by_cases e2 : i = k
  ·subst e2
   simp [updH, e] at h
   subst h
   exact .inl ⟨_, hk, .inr ⟨rfl, hl, hc⟩⟩
  ·simp only [updH, e, e2, if_false] at h
   exact .inl ⟨r, h, .inl rfl⟩
def narC : Nat → Cond → Prop
 | 0, _ => False
 | n + 1, x => x.kids.length ≤ 1000000 ∧ ∀ k ∈ x.kids, narC n k
abbrev s_copied (n : Nat) : Spc := spc (a1 Cond) (narC n) (enc (X := Cond)) fun x y => y = x
theorem w_query_copied (n : Nat) (h1 : S f_query_copied = s_copied n) : Walk cc_query_copied rs_query_copied S (a1 Cond) (narC (n + 1)) (enc (X := Cond)) fun x y => y = x := by
 rintro ⟨op, name, arg, val, lab, fold, kids⟩ ⟨hlen, hk⟩
 simp only at hlen hk
 simp [cc_query_copied, rs_query_copied]
 intro b2 b3 hkl
 refine vc_rangeW (wk_nilbox (k := 3) (j := 20) (b := b3) (el := ty_Cond) (n := 7) (cs' := [.v (.int .i64 op), .v (.string name), .v (.string arg), .v (.string val), .v (.string lab), .v (.bool fold), .own 20 (.slice none 0 0)]) (by decide) (by simp; rfl) (by simp) ?_) ?_
 ·intro m c c' hc hc'
  match m with
  | 0 | 1 | 2 | 3 | 4 | 5 => simp at hc hc'; subst hc; subst hc'; exact .same _
  | 6 => simp at hc hc'; subst hc; subst hc'; exact .nilown _
  | m + 7 => simp at hc
 refine vc_range (X := Value × List Cond) [2, 9] [2] kids.length (fun k x => x.2 = kids.take k) (fun x => [(3, .bptr 3 b3 0)]) (fun x => [(3, .box b3 [.v (.int .i64 op), .v (.string name), .v (.string arg), .v (.string val), .v (.string lab), .v (.bool fold), .own 20 x.1]), (20, .row x.1 ty_Cond 7 (x.2.map enc))]) (.slice none 0 0, []) (by simp) (by simp) (by omega) (by simp) (by simp) (by simp) (by simp) (by simp) ?_ ?_
 ·rintro k ⟨v, m⟩ hkl' hm
  simp only at hm
  obtain ⟨x, hx⟩ := at_lt hkl'
  obtain ⟨_, hgx⟩ := List.getElem?_eq_some_iff.1 hx
  have hx1 := hk x (mem_at hx)
  have hml : m.length = k := by rw [hm, List.length_take]; omega
  simp [h1, hkl', hx, hgx, hx1]
  refine ⟨by omega, by omega, fun v => .inl (.inl ?_)⟩
  rw [hm, List.map_take, List.take_add_one]
  simp [hx]
 ·rintro ⟨v, m⟩ hm
  simp only at hm
  rw [List.take_length] at hm
  subst hm
  simp
  refine fin_of (Y := Cond) ⟨op, name, arg, val, lab, fold, m⟩ ?_ rfl
  simp
  refine .agg (by simp) fun i c c' h h' => ?_
  match i with
  | 0 | 1 | 2 | 3 | 4 | 5 => simp at h h'; subst h; subst h'; exact .same _
  | 6 => simp at h h'; subst h; subst h'; exact fz_o ty_Cond (by simp)
  | i + 7 => simp at h
theorem fzA {H : HMap} {l l' : List D} (h : FzL H l l') : FrzTo H (.agg l) (.agg l') := .agg h.get.1 h.get.2
abbrev s_copiedA : Spc := spc (a1 Cond) (fun x => ∃ n, narC n x) (enc (X := Cond)) fun x y => y = x
def cloneP (p : Pat) : Pat := ⟨p.op, p.cond, p.lab, ⟨#[]⟩, 0, 0, []⟩
abbrev s_clone : Spc := spc (a1 Pat) (fun p => ∃ n, narC n p.cond) (enc (X := Pat)) fun x y => y = cloneP x
theorem w_query_clone (h1 : S f_query_copied = s_copiedA) : Walk cc_query_clone rs_query_clone S (a1 Pat) (fun p => ∃ n, narC n p.cond) (enc (X := Pat)) fun x y => y = cloneP x := by
 rintro p hp
 simp [cc_query_clone, rs_query_clone, h1, hp]
 intro b
 refine fin_of (Y := Pat) (cloneP p) ?_ rfl
 unfold cloneP
 simp
 refine fzA ?_
 simp
def leavesQ (p : Pat) : List Pat := (leavesP p).map cloneP
theorem leavesQ_eq (p : Pat) : leavesQ p = if p.op = 1 then [cloneP p] else p.kids.flatMap leavesQ := by
 unfold leavesQ
 rw [leavesP_eq]
 split
 ·rfl
 ·rw [List.map_flatMap]
/-- the leaves' conditions are not too wide -/
def PLc (p : Pat) : Prop := ∀ y ∈ leavesP p, ∃ n, narC n y.cond
theorem PLc.kid {p k : Pat} (h : PLc p) (hne : ¬ p.op = 1) (hk : k ∈ p.kids) : PLc k := fun y hy => h y (by rw [leavesP_eq, if_neg hne]; exact List.mem_flatMap.2 ⟨k, hk, hy⟩)
theorem lq_app {ks : List Pat} {k : Nat} {x : Pat} (l : List Pat) (hx : ks[k]? = some x) : (l ++ (ks.take k).flatMap leavesQ) ++ leavesQ x = l ++ (ks.take (k + 1)).flatMap leavesQ := by
 rw [take_snoc hx, List.flatMap_append, List.flatMap_singleton, List.append_assoc]
def PLq (x : Pat) (l : List Pat) : Prop := l.length + (leavesP x).length ≤ 100000000 ∧ PLc x
theorem lq_len (ks : List Pat) : (ks.flatMap leavesQ).length = (ks.flatMap leavesP).length := by
 induction ks with
 | nil => rfl
 | cons k ks ih => simp only [List.flatMap_cons, List.length_append, ih]; unfold leavesQ; simp
theorem lq_pre {ks : List Pat} {k : Nat} {x : Pat} {l : List Pat} (hx : ks[k]? = some x) (h : l.length + (ks.flatMap leavesP).length ≤ 100000000) (hc : PLc x) : PLq x (l ++ (ks.take k).flatMap leavesQ) := by
 have := lv_len hx h
 unfold PLv at this
 refine ⟨?_, hc⟩
 simp only [List.length_append] at this ⊢
 rw [lq_len]
 exact this
abbrev i_leavesQ (n : Nat) : Spc := i2C (X := Pat) (Y := Pat) (fun x l => pDep x ≤ n ∧ PLq x l) (fun x l r => r = l ++ leavesQ x) ty_Pattern 13
abbrev i_leavesQA : Spc := i2C (X := Pat) (Y := Pat) (fun x l => PLq x l) (fun x l r => r = l ++ leavesQ x) ty_Pattern 13
theorem w_query_leaves (n : Nat) (h1 : S f_query_leaves = i_leavesQ n) (h2 : S f_query_clone = s_clone) : WalkI2 (X := Pat) (Y := Pat) cc_query_leaves rs_query_leaves S (fun x l => pDep x ≤ n + 1 ∧ PLq x l) (fun x l r => r = l ++ leavesQ x) ty_Pattern 13 := by
 rintro v l p ⟨hp, hl, hc⟩
 have hk : ∀ k ∈ p.kids, pDep k ≤ n := fun k hk => by have := pDep_kid hk; have : pDep p ≤ n + 1 := hp; omega
 have hl' := hl
 rw [leavesP_eq] at hl'
 simp [cc_query_leaves, rs_query_leaves, h2]
 refine ⟨fun h1 => ?_, fun hne _ => ?_⟩
 ·have hcc : ∃ n, narC n p.cond := hc p (by rw [leavesP_eq, if_pos h1]; simp)
  simp [h1] at hl'
  exact ⟨hcc, by omega, by omega, fun v => finF_of (l ++ leavesQ p) (by simp [leavesQ_eq, h1]) rfl⟩
 rw [if_neg hne] at hl'
 refine vc_range (X := Value × List Pat) [16] [] p.kids.length (fun k x => x.2 = l ++ (p.kids.take k).flatMap leavesQ) (fun x => [(1, .own 1 x.1)]) (fun x => [(1, .row x.1 ty_Pattern 13 (x.2.map enc))]) (v, l) (by simp) (by simp) (by omega) (by simp) (by simp) (by simp) (by simp) (by simp [isNilRow]) ?_ ?_
 ·rintro k ⟨v, m⟩ hkl hm
  simp only at hm
  obtain ⟨x, hx⟩ := at_lt hkl
  have hx1 := mem_at hx
  obtain ⟨_, hgx⟩ := List.getElem?_eq_some_iff.1 hx
  have q1 := lq_pre hx hl' (hc.kid hne hx1)
  rw [← hm] at q1
  have q2 := hk x hx1
  simp [h1, hkl, hx, hgx, q1, q2]
  intro v'
  refine .inl ?_
  rw [hm, lq_app _ hx]
 ·rintro ⟨v, m⟩ hm
  simp only at hm
  rw [List.take_length] at hm
  simp
  refine finF_of m (by simp) ?_
  rw [hm, leavesQ_eq, if_neg hne]
abbrev f_leavesQ : Spc := frC (Y := Pat) (aE Pat (aD a0)) (fun x => x.2.1 = nilDp ∧ PLq x.1 []) (fun x r => r = leavesQ x.1) ty_Pattern 13
theorem w_query_leavesF (h1 : S f_query_leaves = i_leavesQA) (h2 : S f_query_clone = s_clone) : WalkF (Y := Pat) cc_query_leaves rs_query_leaves S (aE Pat (aD a0)) (fun x => x.2.1 = nilDp ∧ PLq x.1 []) (fun x r => r = leavesQ x.1) ty_Pattern 13 := by
 rintro ⟨p, d, ⟨⟩⟩ ⟨hd, hl, hc⟩
 have hd : d = nilDp := hd
 subst hd
 have hl' : ([] : List Pat).length + (leavesP p).length ≤ 100000000 := hl
 rw [leavesP_eq] at hl'
 simp [cc_query_leaves, rs_query_leaves, h2]
 refine ⟨fun h1 => ⟨hc p (by rw [leavesP_eq, if_pos h1]; simp), fun v => finF_of (leavesQ p) (by simp [leavesQ_eq, h1]) rfl⟩, fun hne _ => ?_⟩
 rw [if_neg hne] at hl'
 refine vc_range (X := Value × List Pat) [16] [] p.kids.length (fun k x => x.2 = [] ++ (p.kids.take k).flatMap leavesQ) (fun x => [(1, .own 1 x.1)]) (fun x => [(1, .row x.1 ty_Pattern 13 (x.2.map enc))]) (.slice none 0 0, []) (by simp) (by simp) (by omega) (by simp) (by simp) (by simp) (by simp) (by simp [isNilRow]) ?_ ?_
 ·rintro k ⟨v, m⟩ hkl hm
  simp only at hm
  obtain ⟨x, hx⟩ := at_lt hkl
  have hx1 := mem_at hx
  obtain ⟨_, hgx⟩ := List.getElem?_eq_some_iff.1 hx
  have q1 := lq_pre hx hl' (hc.kid hne hx1)
  rw [← hm] at q1
  simp [h1, hkl, hx, hgx, q1]
  intro v'
  refine .inl ?_
  rw [hm, lq_app _ hx]
  rfl
 ·rintro ⟨v, m⟩ hm
  simp only at hm
  rw [List.take_length] at hm
  simp
  refine finF_of m (by simp) ?_
  rw [hm, leavesQ_eq, if_neg hne]
  rfl
abbrev s_leavesQ : Spc := orC f_leavesQ i_leavesQA
end Go.Gv

namespace Go.Gv
open Go.Proofs
def cc_query_letter : CC := oX [oB 2 (.mv (.const ob))] [0] [] (oX [oA 3 0,oB 4 (.cmp .geq (oT 3) (.const (.int .u8 97))),oA 5 4,oH 6 5 (.mv (oT 0)),oH 7 5 (.cmp .leq (oT 6) (.const (.int .u8 122))),oB 8 (.pick (oT 5) (oT 7) (.const ob)),oA 9 8,oI 10 9 (.mv (oT 0)),oI 11 9 (.cmp .geq (oT 10) (.const (.int .u8 65))),oI 12 9 (.mv (oT 11)),oH 13 12 (.mv (oT 0)),
 oH 14 12 (.cmp .leq (oT 13) (.const (.int .u8 90))),oI 15 9 (.pick (oT 12) (oT 14) (.const ob)),oB 16 (.pick (oT 9) (.const (.bool true)) (oT 15)),oA 17 16,oI 18 17 (.mv (oT 0)),oI 19 17 (.eql false false [.int] (oT 18) (.const (.int .u8 95))),oB 20 (.pick (oT 17) (.const (.bool true)) (oT 19)),oA 2 20] [2] [] (.ret))
def rs_query_letter : List CRes := [.tmp 2]
def im_query_letter : List Nat := []
theorem ok_query_letter : FnOk Tryz.prog f_query_letter im_query_letter cc_query_letter rs_query_letter 21 := fnOk1 mixed (by kernel_rfl)
def cc_query_digit : CC := oX [oB 2 (.mv (.const ob))] [0] [] (oX [oA 3 0,oB 4 (.cmp .geq (oT 3) (.const (.int .u8 48))),oA 5 4,oH 6 5 (.mv (oT 0)),oH 7 5 (.cmp .leq (oT 6) (.const (.int .u8 57))),oB 8 (.pick (oT 5) (oT 7) (.const ob)),oA 2 8] [2] [] (.ret))
def rs_query_digit : List CRes := [.tmp 2]
def im_query_digit : List Nat := []
theorem ok_query_digit : FnOk Tryz.prog f_query_digit im_query_digit cc_query_digit rs_query_digit 9 := fnOk1 mixed (by kernel_rfl)
def cc_query_lex_1 : CC := oX [oB 2 (.mv (.const ob))] [0] [] (oX [oA 3 0,oB 4 (.eql false false [.int] (oT 3) (.const (.int .u8 32))),oA 5 4,oI 6 5 (.mv (oT 0)),oI 7 5 (.eql false false [.int] (oT 6) (.const (.int .u8 10))),oB 8 (.pick (oT 5) (.const (.bool true)) (oT 7)),oA 2 8] [2] [] (.ret))
def rs_query_lex_1 : List CRes := [.tmp 2]
def im_query_lex_1 : List Nat := []
theorem ok_query_lex_1 : FnOk Tryz.prog f_query_lex_1 im_query_lex_1 cc_query_lex_1 rs_query_lex_1 9 := fnOk1 mixed (by kernel_rfl)
def cc_query_lex_2 : CC := oX [oB 2 (.mv (.const ob))] [0] [] (oX [oA 3 0,oZ 4 f_query_letter [oT 3],oA 5 4,oI 6 5 (.mv (oT 0)),oI 7 5 (.call f_query_digit [oT 6]),oB 8 (.pick (oT 5) (.const (.bool true)) (oT 7)),oA 9 8,oI 10 9 (.mv (oT 0)),oI 11 9 (.eql false false [.int] (oT 10) (.const (.int .u8 45))),oB 12 (.pick (oT 9) (.const (.bool true)) (oT 11)),oA 2 12] [2] [] (.ret))
def rs_query_lex_2 : List CRes := [.tmp 2]
def im_query_lex_2 : List Nat := []
theorem ok_query_lex_2 : FnOk Tryz.prog f_query_lex_2 im_query_lex_2 cc_query_lex_2 rs_query_lex_2 13 := fnOk1 mixed (by kernel_rfl)
-- query_run while id=0: live [0:s, 1:at, 2:f] changed [1] res []
def cc_query_run : CC := oX [oB 6 (.mv (oN 0))] [0,1,2] [] (.seq (.block 0 (.loop 1 (.seq (oX [oA 7 1,oA 8 0,oB 9 (.slen (oT 8)),oB 10 (.cmp .lss (oT 7) (oT 9)),oA 11 10,oH 12 11 (.mv (oT 2)),oH 13 11 (.mv (oT 0)),oH 14 11 (.mv (oT 1)),oH 15 11 (.sidx (oT 13) (oT 14)),oH 16 11 (.callv (oT 12) [oT 15]),oB 17 (.pick (oT 11) (oT 16) (.const ob))] [0,1,2,17] [] (.ite (oT 17) (.skip)
 (.exit 0))) (.keep [0,1,2] [] (.block 1 (.reg [oA 18 1,oB 19 (.arith .add (oT 18) (oN 1)),oA 1 19])))))) (.keep [1] [] (oX [oA 20 1,oA 6 20] [6] [] (.ret))))
def rs_query_run : List CRes := [.tmp 6]
def im_query_run : List Nat := []
theorem ok_query_run : FnOk Tryz.prog f_query_run im_query_run cc_query_run rs_query_run 21 := fnOk1 mixed (by kernel_rfl)
-- query_lex range i=73 n=72 c=74 i2=87 id=1: live [0:s, 1:at, 4:, 6:c, 71:] changed [] res [4]
def cc_query_lex : CC := oX [oB 4 (.alloc ty_query_lexeme [oi,oe,oi]),oB 5 (.mv (oN 0))] [0,1,4] [4] (oX [oA 13 0,oA 14 1,oZ 15 f_query_run [oT 13,oT 14,.func f_query_lex_1],oA 1 15] [0,1,4] [4] (seqM 2 (oX [oA 16 1,oA 17 0,oB 18 (.slen (oT 17)),oB 19 (.eql false false [.int] (oT 16) (oT 18))] [0,1,4,19] [4] (.ite (oT 19) (oX [oA 20 1,
 oB 21 (.build [oi,oe,oi] [(0,1,oN 0),(1,1,oS ⟨#[]⟩),(2,1,oT 20)]),oA 22 1,oF 3 4 21,oA 5 22] [4,5] [4] (.ret)) (.skip))) (.keep [0,1,4] [4] (oX [oA 23 0,oA 24 1,oB 25 (.sidx (oT 23) (oT 24)),oA 6 25] [0,1,4,6] [4] (seqM 6 (.block 0 (oX [oA 27 6,oZ 28 f_query_letter [oT 27],oA 26 28] [0,1,4,6,26] [4] (.ite (oT 26) (oX [oA 29 0,oA 30 1,
 oZ 31 f_query_run [oT 29,oT 30,.func f_query_lex_2],oA 7 31] [0,1,4,7] [4] (oX [oA 32 0,oA 33 1,oA 34 7,oB 35 (.sslice (oT 32) (some (oT 33)) (some (oT 34))),oA 36 1,oB 37 (.build [oi,oe,oi] [(0,1,oN 2),(1,1,oT 35),(2,1,oT 36)]),oA 38 7,oF 3 4 37,oA 5 38] [4,5] [4] (.ret))) (oX [oA 40 6,oZ 41 f_query_digit [oT 40],oA 39 41] [0,1,4,6,39] [4] (.ite (oT 39) (oX [oA 42 0,oA 43 1,
 oZ 44 f_query_run [oT 42,oT 43,.func f_query_digit],oA 8 44] [0,1,4,8] [4] (oX [oA 45 0,oA 46 1,oA 47 8,oB 48 (.sslice (oT 45) (some (oT 46)) (some (oT 47))),oA 49 1,oB 50 (.build [oi,oe,oi] [(0,1,oN 3),(1,1,oT 48),(2,1,oT 49)]),oA 51 8,oF 3 4 50,oA 5 51] [4,5] [4] (.ret))) (oX [oA 53 6,oB 54 (.eql false false [.int] (oT 53) (.const (.int .u8 34))),
 oA 52 54] [0,1,4,6,52] [4] (.ite (oT 52) (oX [oA 56 0,oA 57 1,oZ 58 f_query_quoted [oT 56,oT 57],oA 55 58,oB 59 (.ext (oT 55) 0),oB 60 (.ext (oT 55) 1),oA 9 59,oA 10 60] [0,1,4,9,10] [4] (.seq (oX [oA 61 10,oB 62 (.cmp .lss (oT 61) (oN 0))] [0,1,4,9,10,62] [4] (.ite (oT 62) (oX [oA 63 1,oB 64 (.build [oi,oe,oi] [(0,1,oN 1),(1,1,oS ⟨#[]⟩),(2,1,oT 63)]),oA 65 0,oB 66 (.slen (oT 65)),
 oF 3 4 64,oA 5 66] [4,5] [4] (.ret)) (.skip))) (.keep [1,4,9,10] [4] (oX [oA 67 9,oA 68 1,oB 69 (.build [oi,oe,oi] [(0,1,oN 4),(1,1,oT 67),(2,1,oT 68)]),oA 70 10,oF 3 4 69,oA 5 70] [4,5] [4] (.ret))))) (.skip)))))))) (.keep [0,1,4,6] [4] (seqM 19 (oX [oB 71 (.bslice ty_string 1 [oS ⟨#[60,47]⟩,oS ⟨#[33,61]⟩,oS ⟨#[58,58]⟩,oS ⟨#[37,99]⟩]),oB 72 (.len (oT 71)),
 oB 73 (.mv (oN 0))] [0,1,4,6,71,72,73] [4] (rangeCC 1 73 72 74 2 (oX [oB 75 (.iaddr 1 (oT 71) (oT 73)),oC 76 1 75,oA 12 76] [0,1,4,6,12,71,72,73] [4] (oX [oA 77 0,oA 78 1,oB 79 (.sslice (oT 77) (some (oT 78)) none),oA 80 12,oZ 81 f_strings_HasPrefix [oT 79,oT 80]] [0,1,4,6,12,71,72,73,81] [4] (.ite (oT 81) (oX [oA 82 12,oA 83 1,
 oB 84 (.build [oi,oe,oi] [(0,1,oN 5),(1,1,oT 82),(2,1,oT 83)]),oA 85 1,oB 86 (.arith .add (oT 85) (oN 2)),oF 3 4 84,oA 5 86] [4,5] [4] (.ret)) (.skip)))) 87)) (.keep [0,1,4,6] [4] (.seq (oX [oA 88 6,oZ 89 f_strings_IndexByte [oS ⟨#[91,93,40,41,123,125,60,62,124,38,33,61,58,46,44,63,42,43,45]⟩,oT 88],oB 90 (.cmp .geq (oT 89) (oN 0))] [0,1,4,90] [4] (.ite (oT 90) (oX [oA 91 0,oA 92 1,
 oA 93 1,oB 94 (.arith .add (oT 93) (oN 1)),oB 95 (.sslice (oT 91) (some (oT 92)) (some (oT 94))),oA 96 1,oB 97 (.build [oi,oe,oi] [(0,1,oN 5),(1,1,oT 95),(2,1,oT 96)]),oA 98 1,oB 99 (.arith .add (oT 98) (oN 1)),oF 3 4 97,oA 5 99] [4,5] [4] (.ret)) (.skip))) (.keep [1,4] [4] (oX [oA 100 1,oB 101 (.build [oi,oe,oi] [(0,1,oN 1),(1,1,oS ⟨#[]⟩),(2,1,oT 100)]),oA 102 1,oF 3 4 101,
 oA 5 102] [4,5] [4] (.ret))))))))))))
def rs_query_lex : List CRes := [.cell 4 true 3, .tmp 5]
def im_query_lex : List Nat := []
theorem ok_query_lex : FnOk Tryz.prog f_query_lex im_query_lex cc_query_lex rs_query_lex 103 := fnOk1 mixed (by kernel_rfl)
def cc_query_reader_next : CC := .regd [oA 3 0,oA 4 0,oA 5 0,oG 6 5,oE 7 0 6,oC 8 1 7,oA 9 0,oG 10 9,oE 11 1 10,oC 12 1 11,oZ 13 f_query_lex [oT 8,oT 12],oA 2 13,oB 14 (.ext (oT 2) 0),oB 15 (.ext (oT 2) 1),oG 16 3,oE 17 2 16,.frz 0 0,.op none none (.store (some 0) 3 (oT 17) (oT 14))] [oG 18 4,oE 19 1 18,.op none none (.store (some 0) 1 (oT 19) (oT 15))]
def rs_query_reader_next : List CRes := []
def im_query_reader_next : List Nat := [2019000, 2017000]
theorem ok_query_reader_next : FnOk Tryz.prog f_query_reader_next im_query_reader_next cc_query_reader_next rs_query_reader_next 20 := fnOk1 mixed (by kernel_rfl)
def cc_query_reader_peek : CC := oX [oB 2 (.alloc ty_query_lexeme [oi,oe,oi])] [0,2] [0,2] (.seq (.regd [oA 6 0,oG 7 6,oE 8 0 7,oC 9 1 8,oA 10 0,oG 11 10,oE 12 1 11,oC 13 1 12,oZ 14 f_query_lex [oT 9,oT 13],oA 5 14,oB 15 (.ext (oT 5) 0),oB 16 (.ext (oT 5) 1),oB 3 (.alloc ty_query_lexeme [oi,oe,oi]),.frz 0 0,.op none none (.store (some 3) 3 (oT 3) (oT 15))] [oA 4 16])
 (.keep [2,3] [0,2,3] (oX [oD 17 3 3,oF 3 2 17] [2] [0,2] (.ret))))
def rs_query_reader_peek : List CRes := [.cell 2 true 3]
def im_query_reader_peek : List Nat := [2003003]
theorem ok_query_reader_peek : FnOk Tryz.prog f_query_reader_peek im_query_reader_peek cc_query_reader_peek rs_query_reader_peek 18 := fnOk1 mixed (by kernel_rfl)
def cc_query_reader_sign : CC := oX [oB 4 (.mv (.const ob))] [0,1] [0] (oX [oA 5 0,oG 6 5,oE 7 2 6,oE 8 0 7,oC 9 1 8,oB 10 (.eql false false [.int] (oT 9) (oN 5)),oA 11 10,oH 12 11 (.mv (oT 0)),oH 13 11 (.nilck (oT 12)),oH 14 11 (.faddr 2 (oT 13)),oH 15 11 (.faddr 1 (oT 14)),oH 16 11 (.load false 1 (oT 15)),oH 17 11 (.mv (oT 1)),oH 18 11 (.eql false false [.str] (oT 16) (oT 17)),
 oB 19 (.pick (oT 11) (oT 18) (.const ob)),oA 4 19] [4] [0] (.ret))
def rs_query_reader_sign : List CRes := [.tmp 4]
def im_query_reader_sign : List Nat := []
theorem ok_query_reader_sign : FnOk Tryz.prog f_query_reader_sign im_query_reader_sign cc_query_reader_sign rs_query_reader_sign 20 := fnOk1 mixed (by kernel_rfl)
def cc_query_reader_take : CC := oX [oB 4 (.mv (.const ob))] [0,1] [0] (.seq (oX [oA 5 0,oA 6 1,oZ 7 f_query_reader_sign [oT 5,oT 6],oB 8 (.not (oT 7))] [0,8] [0] (.ite (oT 8) (oX [oB 4 (.mv (.const ob))] [4] [0] (.ret)) (.skip))) (.keep [0] [0] (oX [oA 9 0,oZ 10 f_query_reader_next [oT 9]] [] [0] (oX [oB 4 (.mv (.const (.bool true)))] [4] [0] (.ret)))))
def rs_query_reader_take : List CRes := [.tmp 4]
def im_query_reader_take : List Nat := []
theorem ok_query_reader_take : FnOk Tryz.prog f_query_reader_take im_query_reader_take cc_query_reader_take rs_query_reader_take 11 := fnOk1 mixed (by kernel_rfl)
def cc_query_reader_word : CC := oX [oB 4 (.mv (.const ob))] [0,1] [0] (oX [oA 5 0,oG 6 5,oE 7 2 6,oE 8 0 7,oC 9 1 8,oB 10 (.eql false false [.int] (oT 9) (oN 2)),oA 11 10,oH 12 11 (.mv (oT 1)),oH 13 11 (.mv (oT 0)),oH 14 11 (.nilck (oT 13)),oH 15 11 (.faddr 2 (oT 14)),oH 16 11 (.faddr 1 (oT 15)),oH 17 11 (.load false 1 (oT 16)),
 oH 18 11 (.call f_slices_Contains_string [oT 12,oT 17]),oB 19 (.pick (oT 11) (oT 18) (.const ob)),oA 4 19] [4] [0] (.ret))
def rs_query_reader_word : List CRes := [.tmp 4]
def im_query_reader_word : List Nat := []
theorem ok_query_reader_word : FnOk Tryz.prog f_query_reader_word im_query_reader_word cc_query_reader_word rs_query_reader_word 20 := fnOk1 mixed (by kernel_rfl)
-- query_reader_must range i=8 n=7 c=9 i2=18 id=0: live [0:r, 6:] changed [] res [0]
def cc_query_reader_must : CC := oX [oA 6 1,oB 7 (.len (oT 6)),oB 8 (.mv (oN 0))] [0,6,7,8] [0] (rangeCC 0 8 7 9 1 (oX [oB 10 (.iaddr 1 (oT 6) (oT 8)),oC 11 1 10,oA 5 11] [0,5,6,7,8] [0] (oX [oA 12 0,oA 13 5,oZ 14 f_query_reader_take [oT 12,oT 13],oB 15 (.not (oT 14))] [0,6,7,8,15] [0] (.ite (oT 15) (.reg [oA 16 0,oZ 17 f_query_reader_wrong [oT 16]]) (.skip)))) 18)
def rs_query_reader_must : List CRes := []
def im_query_reader_must : List Nat := []
theorem ok_query_reader_must : FnOk Tryz.prog f_query_reader_must im_query_reader_must cc_query_reader_must rs_query_reader_must 19 := fnOk1 mixed (by kernel_rfl)
def cc_query_reader_text : CC := oX [oB 4 (.mv (oS ⟨#[]⟩))] [0,1] [0] (.seq (oX [oA 6 0,oG 7 6,oE 8 2 7,oE 9 0 8,oC 10 1 9,oA 11 1,oB 12 (.eql true false [.int] (oT 10) (oT 11))] [0,12] [0] (.ite (oT 12) (.reg [oA 13 0,oZ 14 f_query_reader_wrong [oT 13]]) (.skip))) (.keep [0] [0] (oX [oA 15 0,oG 16 15,oE 17 2 16,oE 18 1 17,oC 19 1 18,oA 5 19] [0,5] [0] (oX [oA 20 0,
 oZ 21 f_query_reader_next [oT 20]] [5] [0] (oX [oA 22 5,oA 4 22] [4] [0] (.ret))))))
def rs_query_reader_text : List CRes := [.tmp 4]
def im_query_reader_text : List Nat := []
theorem ok_query_reader_text : FnOk Tryz.prog f_query_reader_text im_query_reader_text cc_query_reader_text rs_query_reader_text 23 := fnOk1 mixed (by kernel_rfl)
def cc_query_reader_name : CC := oX [oB 2 (.mv (oS ⟨#[]⟩))] [0] [0] (oX [oA 3 0,oZ 4 f_query_reader_text [oT 3,oN 2],oA 2 4] [2] [0] (.ret))
def rs_query_reader_name : List CRes := [.tmp 2]
def im_query_reader_name : List Nat := []
theorem ok_query_reader_name : FnOk Tryz.prog f_query_reader_name im_query_reader_name cc_query_reader_name rs_query_reader_name 5 := fnOk1 mixed (by kernel_rfl)
def cc_query_reader_comma : CC := oX [oB 2 (.mv (oS ⟨#[]⟩))] [0] [0] (oX [oA 3 0,oB 4 (.bslice ty_string 1 [oS ⟨#[44]⟩]),oZ 5 f_query_reader_must [oT 3,oT 4]] [0] [0] (oX [oA 6 0,oZ 7 f_query_reader_name [oT 6],oA 2 7] [2] [0] (.ret)))
def rs_query_reader_comma : List CRes := [.tmp 2]
def im_query_reader_comma : List Nat := []
theorem ok_query_reader_comma : FnOk Tryz.prog f_query_reader_comma im_query_reader_comma cc_query_reader_comma rs_query_reader_comma 8 := fnOk1 mixed (by kernel_rfl)
def cc_query_reader_fold : CC := oX [oB 2 (.mv (.const ob))] [0] [0] (oX [oA 3 0,oZ 4 f_query_reader_take [oT 3,oS ⟨#[37,99]⟩],oA 2 4] [2] [0] (.ret))
def rs_query_reader_fold : List CRes := [.tmp 2]
def im_query_reader_fold : List Nat := []
theorem ok_query_reader_fold : FnOk Tryz.prog f_query_reader_fold im_query_reader_fold cc_query_reader_fold rs_query_reader_fold 5 := fnOk1 mixed (by kernel_rfl)
def cc_query_patterns : CC := oX [oB 4 (.alloc ty_Pattern [oi,oi,oe,oe,oe,oe,ob,on,oe,oe,oi,oi,on])] [0,1,4] [4] (.seq (oX [oA 5 1,oB 6 (.len (oT 5)),oB 7 (.eql false false [.int] (oT 6) (oN 1))] [0,1,4,7] [4] (.ite (oT 7) (oX [oA 8 1,oB 9 (.iaddr 13 (oT 8) (oN 0)),oD 10 13 9,oF 13 4 10] [4] [4] (.ret)) (.skip))) (.keep [0,1,4] [4] (oX [oA 11 0,oA 12 1,
 oB 13 (.build [oi,oi,oe,oe,oe,oe,ob,on,oe,oe,oi,oi,on] [(0,1,oT 11),(12,1,oT 12)]),oF 13 4 13] [4] [4] (.ret))))
def rs_query_patterns : List CRes := [.cell 4 true 13]
def im_query_patterns : List Nat := []
theorem ok_query_patterns : FnOk Tryz.prog f_query_patterns im_query_patterns cc_query_patterns rs_query_patterns 14 := fnOk1 mixed (by kernel_rfl)
def cc_query_conds : CC := oX [oB 4 (.alloc ty_Cond [oi,oe,oe,oe,oe,ob,on])] [0,1,4] [4] (.seq (oX [oA 5 1,oB 6 (.len (oT 5)),oB 7 (.eql false false [.int] (oT 6) (oN 1))] [0,1,4,7] [4] (.ite (oT 7) (oX [oA 8 1,oB 9 (.iaddr 7 (oT 8) (oN 0)),oD 10 7 9,oF 7 4 10] [4] [4] (.ret)) (.skip))) (.keep [0,1,4] [4] (oX [oA 11 0,oA 12 1,
 oB 13 (.build [oi,oe,oe,oe,oe,ob,on] [(0,1,oT 11),(6,1,oT 12)]),oF 7 4 13] [4] [4] (.ret))))
def rs_query_conds : List CRes := [.cell 4 true 7]
def im_query_conds : List Nat := []
theorem ok_query_conds : FnOk Tryz.prog f_query_conds im_query_conds cc_query_conds rs_query_conds 14 := fnOk1 mixed (by kernel_rfl)
def cc_query_globs : CC := oX [oB 4 (.alloc ty_Constraint [oi,oe,oe,oe,oe,oe,ob,oi,oi,on,on])] [0,1,4] [4] (.seq (oX [oA 5 1,oB 6 (.len (oT 5)),oB 7 (.eql false false [.int] (oT 6) (oN 1))] [0,1,4,7] [4] (.ite (oT 7) (oX [oA 8 1,oB 9 (.iaddr 11 (oT 8) (oN 0)),oD 10 11 9,oF 11 4 10] [4] [4] (.ret)) (.skip))) (.keep [0,1,4] [4] (oX [oA 11 0,oA 12 1,
 oB 13 (.build [oi,oe,oe,oe,oe,oe,ob,oi,oi,on,on] [(0,1,oT 11),(10,1,oT 12)]),oF 11 4 13] [4] [4] (.ret))))
def rs_query_globs : List CRes := [.cell 4 true 11]
def im_query_globs : List Nat := []
theorem ok_query_globs : FnOk Tryz.prog f_query_globs im_query_globs cc_query_globs rs_query_globs 14 := fnOk1 mixed (by kernel_rfl)
def cc_strings_HasPrefix : CC := oX [oB 4 (.mv (.const ob))] [0,1] [] (oX [oA 5 0,oA 6 1,oZ 7 f_internal_stringslite_HasPrefix [oT 5,oT 6],oA 4 7] [4] [] (.ret))
def rs_strings_HasPrefix : List CRes := [.tmp 4]
def im_strings_HasPrefix : List Nat := []
theorem ok_strings_HasPrefix : FnOk Tryz.prog f_strings_HasPrefix im_strings_HasPrefix cc_strings_HasPrefix rs_strings_HasPrefix 8 := fnOk1 mixed (by kernel_rfl)
def cc_internal_stringslite_HasPrefix : CC := oX [oB 4 (.mv (.const ob))] [0,1] [] (oX [oA 5 0,oB 6 (.slen (oT 5)),oA 7 1,oB 8 (.slen (oT 7)),oB 9 (.cmp .geq (oT 6) (oT 8)),oA 10 9,oH 11 10 (.mv (oT 0)),oH 12 10 (.mv (oT 1)),oH 13 10 (.slen (oT 12)),oH 14 10 (.sslice (oT 11) none (some (oT 13))),oH 15 10 (.mv (oT 1)),oH 16 10 (.eql false false [.str] (oT 14) (oT 15)),
 oB 17 (.pick (oT 10) (oT 16) (.const ob)),oA 4 17] [4] [] (.ret))
def rs_internal_stringslite_HasPrefix : List CRes := [.tmp 4]
def im_internal_stringslite_HasPrefix : List Nat := []
theorem ok_internal_stringslite_HasPrefix : FnOk Tryz.prog f_internal_stringslite_HasPrefix im_internal_stringslite_HasPrefix cc_internal_stringslite_HasPrefix rs_internal_stringslite_HasPrefix 18 := fnOk1 mixed (by kernel_rfl)
def cc_strings_IndexByte : CC := oX [oB 4 (.mv (oN 0))] [0,1] [] (oX [oA 5 0,oA 6 1,oZ 7 f_internal_stringslite_IndexByte [oT 5,oT 6],oA 4 7] [4] [] (.ret))
def rs_strings_IndexByte : List CRes := [.tmp 4]
def im_strings_IndexByte : List Nat := []
theorem ok_strings_IndexByte : FnOk Tryz.prog f_strings_IndexByte im_strings_IndexByte cc_strings_IndexByte rs_strings_IndexByte 8 := fnOk1 mixed (by kernel_rfl)
-- internal_bytealg_IndexByteString: no body
def cc_slices_Contains_string : CC := oX [oB 4 (.mv (.const ob))] [0,1] [] (oX [oA 5 0,oA 6 1,oZ 7 f_slices_Index_string [oT 5,oT 6],oB 8 (.cmp .geq (oT 7) (oN 0)),oA 4 8] [4] [] (.ret))
def rs_slices_Contains_string : List CRes := [.tmp 4]
def im_slices_Contains_string : List Nat := []
theorem ok_slices_Contains_string : FnOk Tryz.prog f_slices_Contains_string im_slices_Contains_string cc_slices_Contains_string rs_slices_Contains_string 9 := fnOk1 mixed (by kernel_rfl)
-- slices_Index_string range i=8 n=7 c=9 i2=18 id=0: live [0:s, 1:v] changed [] res []
def cc_slices_Index_string : CC := oX [oB 4 (.mv (oN 0))] [0,1] [] (.seq (oX [oA 6 0,oB 7 (.len (oT 6)),oB 8 (.mv (oN 0))] [0,1,7,8] [] (rangeCC 0 8 7 9 1 (oX [oA 10 8,oA 5 10] [0,1,5,7,8] [] (oX [oA 11 1,oA 12 0,oA 13 5,oB 14 (.iaddr 1 (oT 12) (oT 13)),oC 15 1 14,oB 16 (.eql false false [.str] (oT 11) (oT 15))] [0,1,5,7,8,16] [] (.ite (oT 16) (oX [oA 17 5,oA 4 17] [4] [] (.ret))
 (.skip)))) 18)) (.keep [] [] (oX [oB 4 (.mv (oN (-1)))] [4] [] (.ret))))
def rs_slices_Index_string : List CRes := [.tmp 4]
def im_slices_Index_string : List Nat := []
theorem ok_slices_Index_string : FnOk Tryz.prog f_slices_Index_string im_slices_Index_string cc_slices_Index_string rs_slices_Index_string 19 := fnOk1 mixed (by kernel_rfl)
-- query_reader_alt while id=0: live [0:r, 1:inner, 4:, 5:l] changed [5] res [0, 4, 9, 17]
def cc_query_reader_alt : CC := oX [oB 4 (.alloc ty_Pattern [oi,oi,oe,oe,oe,oe,ob,on,oe,oe,oi,oi,on])] [0,1,4] [0,4,9,17] (oX [oA 6 0,oA 7 1,oZ 8 f_query_reader_seq [oT 6,oT 7],oB 9 (.mslice ty_Pattern 13 [oT 8]),oA 5 9] [0,1,4,5] [0,4,9,17] (.seq (.block 0 (.loop 1 (.seq (oX [oA 10 0,oZ 11 f_query_reader_take [oT 10,oS ⟨#[124]⟩]] [0,1,4,5,11] [0,4,9,17] (.ite (oT 11) (.skip) (.exit 0)))
 (.keep [0,1,4,5] [0,4,9,17] (.block 1 (.reg [oA 12 5,oA 13 0,oA 14 1,oZ 15 f_query_reader_seq [oT 13,oT 14],oB 16 (.bslice ty_Pattern 13 [oT 15]),oB 17 (.append (some 9) ty_Pattern 13 184 (oT 12) (oT 16)),oA 5 17])))))) (.keep [4,5] [0,4,9,17] (oX [oA 18 5,.frz 18 13,oZ 19 f_query_patterns [oN 5,oT 18],oF 13 4 19] [4] [0,4,9,17] (.ret)))))
def rs_query_reader_alt : List CRes := [.cell 4 true 13]
def im_query_reader_alt : List Nat := [100009, 1017009]
theorem ok_query_reader_alt : FnOk Tryz.prog f_query_reader_alt im_query_reader_alt cc_query_reader_alt rs_query_reader_alt 20 := fnOk1 mixed (by kernel_rfl)
def cc_query_reader_begins : CC := oX [oB 4 (.mv (.const ob))] [0,1] [0] (.seq (oX [oA 6 0,oG 7 6,oE 8 2 7,oE 9 0 8,oC 10 1 9] [0,1,10] [0] (.block 0 (oX [oB 12 (.eql false false [.int] (oT 10) (oN 4)),oA 11 12] [0,1,10,11] [0] (.ite (oT 11) (oX [oB 4 (.mv (.const (.bool true)))] [4] [0] (.ret)) (oX [oB 14 (.eql false false [.int] (oT 10) (oN 2)),
 oA 13 14] [0,1,13] [0] (.ite (oT 13) (oX [oA 15 0,oZ 16 f_query_reader_peek [oT 15],oB 5 (.alloc ty_query_lexeme [oi,oe,oi]),oF 3 5 16] [0,1,5] [0,5] (oX [oA 17 1,oA 18 17,oI 19 18 (.mv (oT 0)),
 oI 20 18 (.bslice ty_string 1 [oS ⟨#[119,105,116,104,105,110]⟩,oS ⟨#[99,111,110,116,97,105,110,105,110,103]⟩,oS ⟨#[111,118,101,114,108,97,112,112,105,110,103]⟩,oS ⟨#[115,116,114,97,116,101,103,121]⟩]),oI 21 18 (.call f_query_reader_word [oT 19,oT 20]),oI 22 18 (.not (oT 21)),oB 23 (.pick (oT 18) (.const (.bool true)) (oT 22)),oA 24 23,oI 25 24 (.faddr 0 (oT 5)),
 oI 26 24 (.load false 1 (oT 25)),oI 27 24 (.eql false false [.int] (oT 26) (oN 5)),oI 28 24 (.mv (oT 27)),oH 29 28 (.faddr 1 (oT 5)),oH 30 28 (.load false 1 (oT 29)),oH 31 28 (.eql false false [.str] (oT 30) (oS ⟨#[58]⟩)),oI 32 24 (.pick (oT 28) (oT 31) (.const ob)),oB 33 (.pick (oT 24) (.const (.bool true)) (oT 32)),oA 4 33] [4] [0] (.ret))) (.skip))))))) (.keep [0] [0] (oX [oA 34 0,
 oZ 35 f_query_reader_sign [oT 34,oS ⟨#[91]⟩],oA 36 35,oI 37 36 (.mv (oT 0)),oI 38 36 (.call f_query_reader_sign [oT 37,oS ⟨#[60]⟩]),oB 39 (.pick (oT 36) (.const (.bool true)) (oT 38)),oA 40 39,oI 41 40 (.mv (oT 0)),oI 42 40 (.call f_query_reader_sign [oT 41,oS ⟨#[60,47]⟩]),oB 43 (.pick (oT 40) (.const (.bool true)) (oT 42)),oA 44 43,oI 45 44 (.mv (oT 0)),
 oI 46 44 (.call f_query_reader_sign [oT 45,oS ⟨#[40]⟩]),oB 47 (.pick (oT 44) (.const (.bool true)) (oT 46)),oA 4 47] [4] [0] (.ret))))
def rs_query_reader_begins : List CRes := [.tmp 4]
def im_query_reader_begins : List Nat := []
theorem ok_query_reader_begins : FnOk Tryz.prog f_query_reader_begins im_query_reader_begins cc_query_reader_begins rs_query_reader_begins 48 := fnOk1 mixed (by kernel_rfl)
-- query_reader_seq while id=0: live [0:r, 1:inner, 4:, 5:l] changed [5] res [0, 4, 8, 16]
def cc_query_reader_seq : CC := oX [oB 4 (.alloc ty_Pattern [oi,oi,oe,oe,oe,oe,ob,on,oe,oe,oi,oi,on])] [0,1,4] [0,4,8,16] (oX [oA 6 0,oZ 7 f_query_reader_rep [oT 6],oB 8 (.mslice ty_Pattern 13 [oT 7]),oA 5 8] [0,1,4,5] [0,4,8,16] (.seq (.block 0 (.loop 1 (.seq (oX [oA 9 0,oA 10 1,oZ 11 f_query_reader_begins [oT 9,oT 10]] [0,1,4,5,11] [0,4,8,16] (.ite (oT 11) (.skip) (.exit 0)))
 (.keep [0,1,4,5] [0,4,8,16] (.block 1 (.reg [oA 12 5,oA 13 0,oZ 14 f_query_reader_rep [oT 13],oB 15 (.bslice ty_Pattern 13 [oT 14]),oB 16 (.append (some 8) ty_Pattern 13 184 (oT 12) (oT 15)),oA 5 16])))))) (.keep [4,5] [0,4,8,16] (oX [oA 17 5,.frz 17 13,oZ 18 f_query_patterns [oN 4,oT 17],oF 13 4 18] [4] [0,4,8,16] (.ret)))))
def rs_query_reader_seq : List CRes := [.cell 4 true 13]
def im_query_reader_seq : List Nat := [100008, 1016008]
theorem ok_query_reader_seq : FnOk Tryz.prog f_query_reader_seq im_query_reader_seq cc_query_reader_seq rs_query_reader_seq 19 := fnOk1 mixed (by kernel_rfl)
-- query_reader_rep while id=0: live [0:r, 2:, 3:p] changed [] res [0, 2, 3]
def cc_query_reader_rep : CC := oX [oB 2 (.alloc ty_Pattern [oi,oi,oe,oe,oe,oe,ob,on,oe,oe,oi,oi,on])] [0,2] [0,2] (oX [oA 7 0,oZ 8 f_query_reader_item [oT 7],oB 3 (.alloc ty_Pattern [oi,oi,oe,oe,oe,oe,ob,on,oe,oe,oi,oi,on]),oF 13 3 8] [0,2,3] [0,2,3] (.block 0 (.loop 1 (.block 1 (oX [oB 4 (.mv (oN 0)),oB 5 (.mv (oN (-1)))] [0,2,3,4,5] [0,2,3] (.seq (oX [oA 9 0,oG 10 9,oE 11 2 10,
 oE 12 2 11,oC 13 1 12,oA 6 13] [0,2,3,4,5,6] [0,2,3] (.block 2 (oX [oA 16 0,oZ 17 f_query_reader_take [oT 16,oS ⟨#[63]⟩],oA 15 17] [0,2,3,4,5,6,15] [0,2,3] (.ite (oT 15) (.reg [oB 5 (.mv (oN 1))]) (oX [oA 19 0,oZ 20 f_query_reader_take [oT 19,oS ⟨#[42]⟩],oA 18 20] [0,2,3,4,5,6,18] [0,2,3] (.ite (oT 18) (.skip) (oX [oA 22 0,oZ 23 f_query_reader_take [oT 22,oS ⟨#[43]⟩],
 oA 21 23] [0,2,3,5,6,21] [0,2,3] (.ite (oT 21) (.reg [oB 4 (.mv (oN 1))]) (oX [oA 25 0,oZ 26 f_query_reader_take [oT 25,oS ⟨#[123]⟩],oA 24 26] [0,2,3,6,24] [0,2,3] (.ite (oT 24) (oX [oA 27 0,oA 28 6,oZ 29 f_query_reader_number [oT 27,oN 16,oT 28],oA 4 29] [0,2,3,4,6] [0,2,3] (oX [oA 30 4,oA 5 30] [0,2,3,4,5,6] [0,2,3] (.seq (oX [oA 31 0,
 oZ 32 f_query_reader_take [oT 31,oS ⟨#[44]⟩]] [0,2,3,4,5,6,32] [0,2,3] (.ite (oT 32) (oX [oB 5 (.mv (oN (-1)))] [0,2,3,4,5,6] [0,2,3] (oX [oA 33 0,oZ 34 f_query_reader_sign [oT 33,oS ⟨#[125]⟩],oB 35 (.not (oT 34))] [0,2,3,4,5,6,35] [0,2,3] (.ite (oT 35) (oX [oA 36 0,oA 37 6,oZ 38 f_query_reader_number [oT 36,oN 16,oT 37],oA 5 38] [0,2,3,4,5,6] [0,2,3] (oX [oA 39 5,oA 40 4,
 oB 41 (.cmp .lss (oT 39) (oT 40))] [0,2,3,4,5,6,41] [0,2,3] (.ite (oT 41) (.reg [oA 42 6,oB 43 (.build [oi,oi] [(0,1,oT 42),(1,1,oN 8)]),oB 44 (.mkif ty_query_fault (oT 43)),.op none none (.call panId [oT 44])]) (.skip)))) (.skip)))) (.skip))) (.keep [0,2,3,4,5] [0,2,3] (.reg [oA 45 0,oB 46 (.bslice ty_string 1 [oS ⟨#[125]⟩]),oZ 47 f_query_reader_must [oT 45,oT 46]]))))) (oX [oD 14 13 3,
 oF 13 2 14] [2] [0,2] (.ret)))))))))))) (.keep [0,2,3,4,5] [0,2,3] (.reg [oA 48 4,oA 49 5,oD 50 13 3,oB 51 (.bslice ty_Pattern 13 [oT 50]),oB 52 (.build [oi,oi,oe,oe,oe,oe,ob,on,oe,oe,oi,oi,on] [(0,1,oN 6),(10,1,oT 48),(11,1,oT 49),(12,1,oT 51)]),oF 13 3 52]))))))))
def rs_query_reader_rep : List CRes := [.cell 2 true 13]
def im_query_reader_rep : List Nat := [300000]
theorem ok_query_reader_rep : FnOk Tryz.prog f_query_reader_rep im_query_reader_rep cc_query_reader_rep rs_query_reader_rep 53 := fnOk1 mixed (by kernel_rfl)
def cc_query_reader_item : CC := oX [oB 2 (.alloc ty_Pattern [oi,oi,oe,oe,oe,oe,ob,on,oe,oe,oi,oi,on])] [0,2] [0,2] (.seq (.block 0 (oX [oA 8 0,oZ 9 f_query_reader_take [oT 8,oS ⟨#[60]⟩],oA 7 9] [0,2,7] [0,2] (.ite (oT 7) (oX [oA 10 0,oZ 11 f_query_reader_name [oT 10],oB 12 (.build [oi,oi,oe,oe,oe,oe,ob,on,oe,oe,oi,oi,on] [(0,1,oN 2),(9,1,oT 11)]),
 oB 3 (.alloc ty_Pattern [oi,oi,oe,oe,oe,oe,ob,on,oe,oe,oi,oi,on]),oF 13 3 12] [0,2,3] [0,2,3] (oX [oA 13 0,oB 14 (.bslice ty_string 1 [oS ⟨#[62]⟩]),oZ 15 f_query_reader_must [oT 13,oT 14]] [2,3] [0,2,3] (oX [oD 16 13 3,oF 13 2 16] [2] [0,2] (.ret)))) (oX [oA 18 0,oZ 19 f_query_reader_take [oT 18,oS ⟨#[60,47]⟩],oA 17 19] [0,2,17] [0,2] (.ite (oT 17) (oX [oA 20 0,
 oZ 21 f_query_reader_name [oT 20],oB 22 (.build [oi,oi,oe,oe,oe,oe,ob,on,oe,oe,oi,oi,on] [(0,1,oN 3),(9,1,oT 21)]),oB 4 (.alloc ty_Pattern [oi,oi,oe,oe,oe,oe,ob,on,oe,oe,oi,oi,on]),oF 13 4 22] [0,2,4] [0,2,4] (oX [oA 23 0,oB 24 (.bslice ty_string 1 [oS ⟨#[62]⟩]),oZ 25 f_query_reader_must [oT 23,oT 24]] [2,4] [0,2,4] (oX [oD 26 13 4,oF 13 2 26] [2] [0,2] (.ret)))) (oX [oA 28 0,
 oZ 29 f_query_reader_take [oT 28,oS ⟨#[40]⟩],oA 27 29] [0,2,27] [0,2] (.ite (oT 27) (oX [oA 30 0,oZ 31 f_query_reader_alt [oT 30,.const (.bool true)],oB 5 (.alloc ty_Pattern [oi,oi,oe,oe,oe,oe,ob,on,oe,oe,oi,oi,on]),oF 13 5 31] [0,2,5] [0,2,5] (oX [oA 32 0,oB 33 (.bslice ty_string 1 [oS ⟨#[41]⟩]),oZ 34 f_query_reader_must [oT 32,oT 33]] [2,5] [0,2,5] (oX [oD 35 13 5,
 oF 13 2 35] [2] [0,2] (.ret)))) (oX [oA 37 0,oG 38 37,oE 39 2 38,oE 40 0 39,oC 41 1 40,oB 42 (.eql false false [.int] (oT 41) (oN 2)),oA 36 42] [0,2,36] [0,2] (.ite (oT 36) (oX [oA 43 0,oZ 44 f_query_reader_name [oT 43],oA 6 44] [0,2,6] [0,2] (oX [oA 45 0,oB 46 (.bslice ty_string 1 [oS ⟨#[58]⟩]),oZ 47 f_query_reader_must [oT 45,oT 46]] [0,2,6] [0,2] (oX [oA 48 0,oA 49 6,
 oZ 50 f_query_reader_token [oT 48,oT 49],oF 13 2 50] [2] [0,2] (.ret)))) (.skip)))))))))) (.keep [0,2] [0,2] (oX [oA 51 0,oZ 52 f_query_reader_token [oT 51,oS ⟨#[]⟩],oF 13 2 52] [2] [0,2] (.ret))))
def rs_query_reader_item : List CRes := [.cell 2 true 13]
def im_query_reader_item : List Nat := []
theorem ok_query_reader_item : FnOk Tryz.prog f_query_reader_item im_query_reader_item cc_query_reader_item rs_query_reader_item 53 := fnOk1 mixed (by kernel_rfl)
def cc_query_reader_token : CC := oX [oB 4 (.alloc ty_Pattern [oi,oi,oe,oe,oe,oe,ob,on,oe,oe,oi,oi,on])] [0,1,4] [0,4] (oX [oA 6 1,oB 7 (.build [oi,oi,oe,oe,oe,oe,ob,on,oe,oe,oi,oi,on] [(0,1,oN 1),(8,1,oT 6)]),oB 5 (.alloc ty_Pattern [oi,oi,oe,oe,oe,oe,ob,on,oe,oe,oi,oi,on]),oF 13 5 7] [0,4,5] [0,4,5] (.seq (oX [oA 8 0,
 oZ 9 f_query_reader_take [oT 8,oS ⟨#[91]⟩]] [0,4,5,9] [0,4,5] (.ite (oT 9) (oX [oE 10 1 5,oE 11 0 10,.op none none (.store none 1 (oT 11) (oN 1))] [0,4,5] [0,4,5] (.seq (oX [oA 12 0,oZ 13 f_query_reader_sign [oT 12,oS ⟨#[93]⟩],oB 14 (.not (oT 13))] [0,4,5,14] [0,4,5] (.ite (oT 14) (.reg [oA 15 0,oZ 16 f_query_reader_or [oT 15],oE 17 1 5,oF 7 17 16]) (.skip)))
 (.keep [0,4,5] [0,4,5] (oX [oA 18 0,oB 19 (.bslice ty_string 1 [oS ⟨#[93]⟩]),oZ 20 f_query_reader_must [oT 18,oT 19]] [4,5] [0,4,5] (oX [oD 21 13 5,oF 13 4 21] [4] [0,4] (.ret)))))) (.skip))) (.keep [0,4,5] [0,4,5] (oX [oA 22 0,oZ 23 f_query_reader_text [oT 22,oN 4],oB 24 (.build [oi,oe,oe,oe,oe,ob,on] [(0,1,oN 2),(3,1,oT 23)]),oE 25 1 5,oF 7 25 24] [0,4,5] [0,4,5] (oX [oA 26 0,
 oZ 27 f_query_reader_fold [oT 26],oE 28 1 5,oE 29 5 28,oF 1 29 27] [4,5] [0,4,5] (oX [oD 30 13 5,oF 13 4 30] [4] [0,4] (.ret)))))))
def rs_query_reader_token : List CRes := [.cell 4 true 13]
def im_query_reader_token : List Nat := []
theorem ok_query_reader_token : FnOk Tryz.prog f_query_reader_token im_query_reader_token cc_query_reader_token rs_query_reader_token 31 := fnOk1 mixed (by kernel_rfl)
-- query_reader_or while id=0: live [0:r, 2:, 3:l] changed [3] res [0, 2, 6, 13]
def cc_query_reader_or : CC := oX [oB 2 (.alloc ty_Cond [oi,oe,oe,oe,oe,ob,on])] [0,2] [0,2,6,13] (oX [oA 4 0,oZ 5 f_query_reader_and [oT 4],oB 6 (.mslice ty_Cond 7 [oT 5]),oA 3 6] [0,2,3] [0,2,6,13] (.seq (.block 0 (.loop 1 (.seq (oX [oA 7 0,oZ 8 f_query_reader_take [oT 7,oS ⟨#[124]⟩]] [0,2,3,8] [0,2,6,13] (.ite (oT 8) (.skip) (.exit 0))) (.keep [0,2,3] [0,2,6,13] (.block 1 (.reg [oA 9 3,
 oA 10 0,oZ 11 f_query_reader_and [oT 10],oB 12 (.bslice ty_Cond 7 [oT 11]),oB 13 (.append (some 6) ty_Cond 7 104 (oT 9) (oT 12)),oA 3 13])))))) (.keep [2,3] [0,2,6,13] (oX [oA 14 3,.frz 14 7,oZ 15 f_query_conds [oN 8,oT 14],oF 7 2 15] [2] [0,2,6,13] (.ret)))))
def rs_query_reader_or : List CRes := [.cell 2 true 7]
def im_query_reader_or : List Nat := [100006, 1013006]
theorem ok_query_reader_or : FnOk Tryz.prog f_query_reader_or im_query_reader_or cc_query_reader_or rs_query_reader_or 16 := fnOk1 mixed (by kernel_rfl)
-- query_reader_and while id=0: live [0:r, 2:, 3:l] changed [3] res [0, 2, 6, 13]
def cc_query_reader_and : CC := oX [oB 2 (.alloc ty_Cond [oi,oe,oe,oe,oe,ob,on])] [0,2] [0,2,6,13] (oX [oA 4 0,oZ 5 f_query_reader_not [oT 4],oB 6 (.mslice ty_Cond 7 [oT 5]),oA 3 6] [0,2,3] [0,2,6,13] (.seq (.block 0 (.loop 1 (.seq (oX [oA 7 0,oZ 8 f_query_reader_take [oT 7,oS ⟨#[38]⟩]] [0,2,3,8] [0,2,6,13] (.ite (oT 8) (.skip) (.exit 0))) (.keep [0,2,3] [0,2,6,13] (.block 1 (.reg [oA 9 3,
 oA 10 0,oZ 11 f_query_reader_not [oT 10],oB 12 (.bslice ty_Cond 7 [oT 11]),oB 13 (.append (some 6) ty_Cond 7 104 (oT 9) (oT 12)),oA 3 13])))))) (.keep [2,3] [0,2,6,13] (oX [oA 14 3,.frz 14 7,oZ 15 f_query_conds [oN 7,oT 14],oF 7 2 15] [2] [0,2,6,13] (.ret)))))
def rs_query_reader_and : List CRes := [.cell 2 true 7]
def im_query_reader_and : List Nat := [100006, 1013006]
theorem ok_query_reader_and : FnOk Tryz.prog f_query_reader_and im_query_reader_and cc_query_reader_and rs_query_reader_and 16 := fnOk1 mixed (by kernel_rfl)
def cc_query_reader_not : CC := oX [oB 2 (.alloc ty_Cond [oi,oe,oe,oe,oe,ob,on])] [0,2] [0,2] (.seq (.block 0 (oX [oA 5 0,oZ 6 f_query_reader_take [oT 5,oS ⟨#[33]⟩],oA 4 6] [0,2,4] [0,2] (.ite (oT 4) (oX [oA 7 0,oZ 8 f_query_reader_not [oT 7],oB 9 (.bslice ty_Cond 7 [oT 8]),oB 10 (.build [oi,oe,oe,oe,oe,ob,on] [(0,1,oN 6),(6,1,oT 9)]),oF 7 2 10] [2] [0,2] (.ret)) (oX [oA 12 0,
 oZ 13 f_query_reader_take [oT 12,oS ⟨#[40]⟩],oA 11 13] [0,2,11] [0,2] (.ite (oT 11) (oX [oA 14 0,oZ 15 f_query_reader_or [oT 14],oB 3 (.alloc ty_Cond [oi,oe,oe,oe,oe,ob,on]),oF 7 3 15] [0,2,3] [0,2,3] (oX [oA 16 0,oB 17 (.bslice ty_string 1 [oS ⟨#[41]⟩]),oZ 18 f_query_reader_must [oT 16,oT 17]] [2,3] [0,2,3] (oX [oD 19 7 3,oF 7 2 19] [2] [0,2] (.ret)))) (.skip))))))
 (.keep [0,2] [0,2] (oX [oA 20 0,oZ 21 f_query_reader_atom [oT 20],oF 7 2 21] [2] [0,2] (.ret))))
def rs_query_reader_not : List CRes := [.cell 2 true 7]
def im_query_reader_not : List Nat := []
theorem ok_query_reader_not : FnOk Tryz.prog f_query_reader_not im_query_reader_not cc_query_reader_not rs_query_reader_not 22 := fnOk1 mixed (by kernel_rfl)
def cc_query_reader_atom : CC := oX [oB 2 (.alloc ty_Cond [oi,oe,oe,oe,oe,ob,on])] [0,2] [0,2] (oX [oA 8 0,oZ 9 f_query_reader_name [oT 8],oA 3 9] [0,2,3] [0,2] (.seq (oX [oA 10 3,oB 11 (.eql false false [.str] (oT 10) (oS ⟨#[105,110]⟩)),oA 12 11,oH 13 12 (.mv (oT 0)),oH 14 12 (.call f_query_reader_take [oT 13,oS ⟨#[40]⟩]),
 oB 15 (.pick (oT 12) (oT 14) (.const ob))] [0,2,3,15] [0,2] (.ite (oT 15) (oX [oA 16 0,oZ 17 f_query_reader_name [oT 16],oB 18 (.build [oi,oe,oe,oe,oe,ob,on] [(0,1,oN 5),(1,1,oT 17)]),oB 4 (.alloc ty_Cond [oi,oe,oe,oe,oe,ob,on]),oF 7 4 18] [0,2,4] [0,2,4] (.seq (oX [oA 19 0,oZ 20 f_query_reader_take [oT 19,oS ⟨#[44]⟩]] [0,2,4,20] [0,2,4] (.ite (oT 20) (oX [oA 21 0,
 oZ 22 f_query_reader_name [oT 21],oE 23 2 4,oF 1 23 22] [0,2,4] [0,2,4] (oX [oA 24 0,oB 25 (.bslice ty_string 1 [oS ⟨#[61]⟩]),oZ 26 f_query_reader_must [oT 24,oT 25]] [0,2,4] [0,2,4] (.reg [oA 27 0,oZ 28 f_query_reader_text [oT 27,oN 4],oE 29 3 4,oF 1 29 28]))) (.skip))) (.keep [0,2,4] [0,2,4] (oX [oA 30 0,oB 31 (.bslice ty_string 1 [oS ⟨#[41]⟩]),
 oZ 32 f_query_reader_must [oT 30,oT 31]] [2,4] [0,2,4] (oX [oD 33 7 4,oF 7 2 33] [2] [0,2] (.ret)))))) (.skip))) (.keep [0,2,3] [0,2] (.seq (.block 0 (oX [oA 35 0,oB 36 (.bslice ty_string 1 [oS ⟨#[99,111,110,116,97,105,110,115]⟩]),oZ 37 f_query_reader_word [oT 35,oT 36],oA 34 37] [0,2,3,34] [0,2] (.ite (oT 34) (oX [oA 38 0,oZ 39 f_query_reader_next [oT 38]] [0,2,3] [0,2] (oX [oA 40 3,
 oA 41 0,oZ 42 f_query_reader_text [oT 41,oN 4],oB 43 (.build [oi,oe,oe,oe,oe,ob,on] [(0,1,oN 3),(1,1,oT 40),(3,1,oT 42)]),oF 7 2 43] [2] [0,2] (.ret))) (oX [oA 45 0,oZ 46 f_query_reader_take [oT 45,oS ⟨#[33,61]⟩],oA 44 46] [0,2,3,44] [0,2] (.ite (oT 44) (oX [oA 47 3,oA 48 0,oZ 49 f_query_reader_text [oT 48,oN 4],oB 50 (.build [oi,oe,oe,oe,oe,ob,on] [(0,1,oN 2),(1,1,oT 47),(3,1,oT 49)]),
 oB 5 (.alloc ty_Cond [oi,oe,oe,oe,oe,ob,on]),oF 7 5 50] [0,2,5] [0,2,5] (oX [oA 51 0,oZ 52 f_query_reader_fold [oT 51],oE 53 5 5,oF 1 53 52] [2,5] [0,2,5] (oX [oD 54 7 5,oB 55 (.bslice ty_Cond 7 [oT 54]),oB 56 (.build [oi,oe,oe,oe,oe,ob,on] [(0,1,oN 6),(6,1,oT 55)]),oF 7 2 56] [2] [0,2] (.ret)))) (.skip)))))) (.keep [0,2,3] [0,2] (oX [oA 57 0,oB 58 (.bslice ty_string 1 [oS ⟨#[61]⟩]),
 oZ 59 f_query_reader_must [oT 57,oT 58]] [0,2,3] [0,2] (.seq (oX [oA 60 0,oG 61 60,oE 62 2 61,oE 63 0 62,oC 64 1 63,oB 65 (.eql false false [.int] (oT 64) (oN 2))] [0,2,3,65] [0,2] (.ite (oT 65) (oX [oA 66 3,oA 67 0,oZ 68 f_query_reader_name [oT 67],oB 69 (.build [oi,oe,oe,oe,oe,ob,on] [(0,1,oN 4),(1,1,oT 66),(4,1,oT 68)]),oB 6 (.alloc ty_Cond [oi,oe,oe,oe,oe,ob,on]),
 oF 7 6 69] [0,2,6] [0,2,6] (oX [oA 70 0,oB 71 (.bslice ty_string 1 [oS ⟨#[46]⟩]),oZ 72 f_query_reader_must [oT 70,oT 71]] [0,2,6] [0,2,6] (oX [oA 73 0,oZ 74 f_query_reader_name [oT 73],oE 75 2 6,oF 1 75 74] [2,6] [0,2,6] (oX [oD 76 7 6,oF 7 2 76] [2] [0,2] (.ret))))) (.skip))) (.keep [0,2,3] [0,2] (oX [oA 77 3,oA 78 0,oZ 79 f_query_reader_text [oT 78,oN 4],
 oB 80 (.build [oi,oe,oe,oe,oe,ob,on] [(0,1,oN 2),(1,1,oT 77),(3,1,oT 79)]),oB 7 (.alloc ty_Cond [oi,oe,oe,oe,oe,ob,on]),oF 7 7 80] [0,2,7] [0,2,7] (oX [oA 81 0,oZ 82 f_query_reader_fold [oT 81],oE 83 5 7,oF 1 83 82] [2,7] [0,2,7] (oX [oD 84 7 7,oF 7 2 84] [2] [0,2] (.ret))))))))))))
def rs_query_reader_atom : List CRes := [.cell 2 true 7]
def im_query_reader_atom : List Nat := []
theorem ok_query_reader_atom : FnOk Tryz.prog f_query_reader_atom im_query_reader_atom cc_query_reader_atom rs_query_reader_atom 85 := fnOk1 mixed (by kernel_rfl)
-- query_reader_query while id=0: live [0:r, 2:, 3:q] changed [] res [0, 2, 3, 55]
def cc_query_filterWords : CC := oX [oB 0 (.mv (.const on))] [] [] (oX [oB 1 (.bslice ty_string 1 [oS ⟨#[]⟩,oS ⟨#[119,105,116,104,105,110]⟩,oS ⟨#[99,111,110,116,97,105,110,105,110,103]⟩,oS ⟨#[111,118,101,114,108,97,112,112,105,110,103]⟩]),oA 0 1] [0] [] (.ret))
def rs_query_filterWords : List CRes := [.tmp 0]
def im_query_filterWords : List Nat := []
theorem ok_query_filterWords : FnOk Tryz.prog f_query_filterWords im_query_filterWords cc_query_filterWords rs_query_filterWords 2 := fnOk1 mixed (by kernel_rfl)
def cc_query_strategyWords : CC := oX [oB 0 (.mv (.const on))] [] [] (oX [oB 1 (.bslice ty_string 1 [oS ⟨#[101,97,99,104]⟩,oS ⟨#[115,104,111,114,116,101,115,116]⟩,oS ⟨#[108,111,110,103,101,115,116]⟩,oS ⟨#[116,114,97,100,105,116,105,111,110,97,108]⟩]),oA 0 1] [0] [] (.ret))
def rs_query_strategyWords : List CRes := [.tmp 0]
def im_query_strategyWords : List Nat := []
theorem ok_query_strategyWords : FnOk Tryz.prog f_query_strategyWords im_query_strategyWords cc_query_strategyWords rs_query_strategyWords 2 := fnOk1 mixed (by kernel_rfl)
def cc_query_reader_wrong : CC := .reg [oA 2 0,oG 3 2,oE 4 2 3,oE 5 2 4,oC 6 1 5,oB 7 (.build [oi,oi] [(0,1,oT 6),(1,1,oN 3)]),oB 8 (.mkif ty_query_fault (oT 7)),.op none none (.call panId [oT 8])]
def rs_query_reader_wrong : List CRes := []
def im_query_reader_wrong : List Nat := [300000]
theorem ok_query_reader_wrong : FnOk Tryz.prog f_query_reader_wrong im_query_reader_wrong cc_query_reader_wrong rs_query_reader_wrong 9 := fnOk1 mixed (by kernel_rfl)
-- query_reader_number while id=0: live [1:most, 2:at, 7:s, 8:n, 9:i] changed [8, 9] res [0]
def cc_query_reader_number : CC := oX [oB 6 (.mv (oN 0))] [0,1,2] [0] (oX [oA 10 0,oZ 11 f_query_reader_text [oT 10,oN 3],oA 7 11] [1,2,7] [0] (oX [oA 12 7,oZ 13 f_strings_TrimLeft [oT 12,oS ⟨#[48]⟩],oA 7 13] [1,2,7] [0] (oX [oB 8 (.mv (oN 0))] [1,2,7,8] [0] (.seq (oX [oB 9 (.mv (oN 0))] [1,2,7,8,9] [0] (.block 0 (.loop 1 (.seq (oX [oA 14 9,oA 15 7,oB 16 (.slen (oT 15)),
 oB 17 (.cmp .lss (oT 14) (oT 16)),oA 18 17,oH 19 18 (.mv (oT 8)),oH 20 18 (.mv (oT 1)),oH 21 18 (.cmp .leq (oT 19) (oT 20)),oB 22 (.pick (oT 18) (oT 21) (.const ob))] [1,2,7,8,9,22] [0] (.ite (oT 22) (.skip) (.exit 0))) (.keep [1,2,7,8,9] [0] (.seq (.block 1 (.reg [oA 25 8,oB 26 (.arith .mul (oN 10) (oT 25)),oA 27 7,oA 28 9,oB 29 (.sidx (oT 27) (oT 28)),
 oB 30 (.arith .sub (oT 29) (.const (.int .u8 48))),oB 31 (.conv .i64 (oT 30)),oB 32 (.arith .add (oT 26) (oT 31)),oA 8 32])) (.keep [1,2,7,8,9] [0] (.reg [oA 23 9,oB 24 (.arith .add (oT 23) (oN 1)),oA 9 24])))))))) (.keep [1,2,8] [0] (.seq (oX [oA 33 8,oA 34 1,oB 35 (.cmp .gtr (oT 33) (oT 34))] [2,8,35] [0] (.ite (oT 35) (.reg [oA 36 2,oB 37 (.build [oi,oi] [(0,1,oT 36),(1,1,oN 8)]),
 oB 38 (.mkif ty_query_fault (oT 37)),.op none none (.call panId [oT 38])]) (.skip))) (.keep [8] [0] (oX [oA 39 8,oA 6 39] [6] [0] (.ret)))))))))
def rs_query_reader_number : List CRes := [.tmp 6]
def im_query_reader_number : List Nat := [300000]
theorem ok_query_reader_number : FnOk Tryz.prog f_query_reader_number im_query_reader_number cc_query_reader_number rs_query_reader_number 40 := fnOk1 mixed (by kernel_rfl)
def cc_query_reader_big : CC := oX [oB 2 (.mv (oN 0))] [0] [0] (oX [oA 3 0,oA 4 0,oG 5 4,oE 6 2 5,oE 7 2 6,oC 8 1 7,oZ 9 f_query_reader_number [oT 3,oN 100000,oT 8],oA 2 9] [2] [0] (.ret))
def rs_query_reader_big : List CRes := [.tmp 2]
def im_query_reader_big : List Nat := []
theorem ok_query_reader_big : FnOk Tryz.prog f_query_reader_big im_query_reader_big cc_query_reader_big rs_query_reader_big 10 := fnOk1 mixed (by kernel_rfl)
def cc_query_reader_signed : CC := oX [oB 2 (.mv (oN 0))] [0] [0] (.seq (oX [oA 3 0,oZ 4 f_query_reader_take [oT 3,oS ⟨#[45]⟩]] [0,4] [0] (.ite (oT 4) (oX [oA 5 0,oZ 6 f_query_reader_big [oT 5],oB 7 (.neg (oT 6)),oA 2 7] [2] [0] (.ret)) (.skip))) (.keep [0] [0] (oX [oA 8 0,oZ 9 f_query_reader_big [oT 8],oA 2 9] [2] [0] (.ret))))
def rs_query_reader_signed : List CRes := [.tmp 2]
def im_query_reader_signed : List Nat := []
theorem ok_query_reader_signed : FnOk Tryz.prog f_query_reader_signed im_query_reader_signed cc_query_reader_signed rs_query_reader_signed 10 := fnOk1 mixed (by kernel_rfl)
-- query_reader_gor while id=0: live [0:r, 2:, 3:l] changed [3] res [0, 2, 6, 13]
def cc_query_reader_gor : CC := oX [oB 2 (.alloc ty_Constraint [oi,oe,oe,oe,oe,oe,ob,oi,oi,on,on])] [0,2] [0,2,6,13] (oX [oA 4 0,oZ 5 f_query_reader_gand [oT 4],oB 6 (.mslice ty_Constraint 11 [oT 5]),oA 3 6] [0,2,3] [0,2,6,13] (.seq (.block 0 (.loop 1 (.seq (oX [oA 7 0,oZ 8 f_query_reader_take [oT 7,oS ⟨#[124]⟩]] [0,2,3,8] [0,2,6,13] (.ite (oT 8) (.skip) (.exit 0)))
 (.keep [0,2,3] [0,2,6,13] (.block 1 (.reg [oA 9 3,oA 10 0,oZ 11 f_query_reader_gand [oT 10],oB 12 (.bslice ty_Constraint 11 [oT 11]),oB 13 (.append (some 6) ty_Constraint 11 160 (oT 9) (oT 12)),oA 3 13])))))) (.keep [2,3] [0,2,6,13] (oX [oA 14 3,.frz 14 11,oZ 15 f_query_globs [oN 13,oT 14],oF 11 2 15] [2] [0,2,6,13] (.ret)))))
def rs_query_reader_gor : List CRes := [.cell 2 true 11]
def im_query_reader_gor : List Nat := [100006, 1013006]
theorem ok_query_reader_gor : FnOk Tryz.prog f_query_reader_gor im_query_reader_gor cc_query_reader_gor rs_query_reader_gor 16 := fnOk1 mixed (by kernel_rfl)
-- query_reader_gand while id=0: live [0:r, 2:, 3:l] changed [3] res [0, 2, 6, 13]
def cc_query_reader_gand : CC := oX [oB 2 (.alloc ty_Constraint [oi,oe,oe,oe,oe,oe,ob,oi,oi,on,on])] [0,2] [0,2,6,13] (oX [oA 4 0,oZ 5 f_query_reader_gnot [oT 4],oB 6 (.mslice ty_Constraint 11 [oT 5]),oA 3 6] [0,2,3] [0,2,6,13] (.seq (.block 0 (.loop 1 (.seq (oX [oA 7 0,oZ 8 f_query_reader_take [oT 7,oS ⟨#[38]⟩]] [0,2,3,8] [0,2,6,13] (.ite (oT 8) (.skip) (.exit 0)))
 (.keep [0,2,3] [0,2,6,13] (.block 1 (.reg [oA 9 3,oA 10 0,oZ 11 f_query_reader_gnot [oT 10],oB 12 (.bslice ty_Constraint 11 [oT 11]),oB 13 (.append (some 6) ty_Constraint 11 160 (oT 9) (oT 12)),oA 3 13])))))) (.keep [2,3] [0,2,6,13] (oX [oA 14 3,.frz 14 11,oZ 15 f_query_globs [oN 12,oT 14],oF 11 2 15] [2] [0,2,6,13] (.ret)))))
def rs_query_reader_gand : List CRes := [.cell 2 true 11]
def im_query_reader_gand : List Nat := [100006, 1013006]
theorem ok_query_reader_gand : FnOk Tryz.prog f_query_reader_gand im_query_reader_gand cc_query_reader_gand rs_query_reader_gand 16 := fnOk1 mixed (by kernel_rfl)
def cc_query_reader_gnot : CC := oX [oB 2 (.alloc ty_Constraint [oi,oe,oe,oe,oe,oe,ob,oi,oi,on,on])] [0,2] [0,2] (.seq (.block 0 (oX [oA 5 0,oZ 6 f_query_reader_take [oT 5,oS ⟨#[33]⟩],oA 4 6] [0,2,4] [0,2] (.ite (oT 4) (oX [oA 7 0,oZ 8 f_query_reader_gnot [oT 7],oB 9 (.bslice ty_Constraint 11 [oT 8]),oB 10 (.build [oi,oe,oe,oe,oe,oe,ob,oi,oi,on,on] [(0,1,oN 11),(10,1,oT 9)]),
 oF 11 2 10] [2] [0,2] (.ret)) (oX [oA 12 0,oZ 13 f_query_reader_take [oT 12,oS ⟨#[40]⟩],oA 11 13] [0,2,11] [0,2] (.ite (oT 11) (oX [oA 14 0,oZ 15 f_query_reader_gor [oT 14],oB 3 (.alloc ty_Constraint [oi,oe,oe,oe,oe,oe,ob,oi,oi,on,on]),oF 11 3 15] [0,2,3] [0,2,3] (oX [oA 16 0,oB 17 (.bslice ty_string 1 [oS ⟨#[41]⟩]),oZ 18 f_query_reader_must [oT 16,oT 17]] [2,3] [0,2,3] (oX [
 oD 19 11 3,oF 11 2 19] [2] [0,2] (.ret)))) (.skip)))))) (.keep [0,2] [0,2] (oX [oA 20 0,oZ 21 f_query_reader_gatom [oT 20],oF 11 2 21] [2] [0,2] (.ret))))
def rs_query_reader_gnot : List CRes := [.cell 2 true 11]
def im_query_reader_gnot : List Nat := []
theorem ok_query_reader_gnot : FnOk Tryz.prog f_query_reader_gnot im_query_reader_gnot cc_query_reader_gnot rs_query_reader_gnot 22 := fnOk1 mixed (by kernel_rfl)
def cc_query_reader_gatom : CC := oX [oB 2 (.alloc ty_Constraint [oi,oe,oe,oe,oe,oe,ob,oi,oi,on,on])] [0,2] [0,2] (oX [oA 7 0,oZ 8 f_query_reader_name [oT 7],oA 3 8] [0,2,3] [0,2] (.seq (oX [oA 9 3,oZ 10 f_query_function [oT 9],oA 4 10] [0,2,3,4] [0,2] (oX [oA 11 4,oB 12 (.cmp .gtr (oT 11) (oN 0)),oA 13 12,oH 14 13 (.mv (oT 0)),oH 15 13 (.call f_query_reader_take [oT 14,oS ⟨#[40]⟩]),
 oB 16 (.pick (oT 13) (oT 15) (.const ob))] [0,2,3,4,16] [0,2] (.ite (oT 16) (oX [oA 17 0,oA 18 4,oA 19 0,oZ 20 f_query_reader_name [oT 19],oB 21 (.build [oi,oe,oe,oe,oe,oe,ob,oi,oi,on,on] [(0,1,oT 18),(1,1,oT 20)]),oZ 22 f_query_reader_arguments [oT 17,oT 21],oB 5 (.alloc ty_Constraint [oi,oe,oe,oe,oe,oe,ob,oi,oi,on,on]),oF 11 5 22] [0,2,5] [0,2,5] (oX [oA 23 0,
 oB 24 (.bslice ty_string 1 [oS ⟨#[41]⟩]),oZ 25 f_query_reader_must [oT 23,oT 24]] [2,5] [0,2,5] (oX [oD 26 11 5,oF 11 2 26] [2] [0,2] (.ret)))) (.skip)))) (.keep [0,2,3] [0,2] (oX [oA 27 0,oB 28 (.bslice ty_string 1 [oS ⟨#[46]⟩]),oZ 29 f_query_reader_must [oT 27,oT 28]] [0,2,3] [0,2] (oX [oA 30 3,oA 31 0,oZ 32 f_query_reader_name [oT 31],
 oB 33 (.build [oi,oe,oe,oe,oe,oe,ob,oi,oi,on,on] [(0,1,oN 2),(1,1,oT 30),(3,1,oT 32)]),oB 6 (.alloc ty_Constraint [oi,oe,oe,oe,oe,oe,ob,oi,oi,on,on]),oF 11 6 33] [0,2,6] [0,2,6] (oX [oA 34 0,oB 35 (.bslice ty_string 1 [oS ⟨#[61]⟩]),oZ 36 f_query_reader_must [oT 34,oT 35]] [0,2,6] [0,2,6] (.seq (oX [oA 37 0,oG 38 37,oE 39 2 38,oE 40 0 39,oC 41 1 40,
 oB 42 (.eql false false [.int] (oT 41) (oN 2))] [0,2,6,42] [0,2,6] (.ite (oT 42) (oX [oA 43 0,oZ 44 f_query_reader_name [oT 43],oE 45 0 6,.op none none (.store none 1 (oT 45) (oN 3)),oE 46 2 6,oF 1 46 44] [0,2,6] [0,2,6] (oX [oA 47 0,oB 48 (.bslice ty_string 1 [oS ⟨#[46]⟩]),oZ 49 f_query_reader_must [oT 47,oT 48]] [0,2,6] [0,2,6] (oX [oA 50 0,oZ 51 f_query_reader_name [oT 50],
 oE 52 4 6,oF 1 52 51] [2,6] [0,2,6] (oX [oD 53 11 6,oF 11 2 53] [2] [0,2] (.ret))))) (.skip))) (.keep [0,2,6] [0,2,6] (oX [oA 54 0,oZ 55 f_query_reader_text [oT 54,oN 4],oE 56 5 6,oF 1 56 55] [0,2,6] [0,2,6] (oX [oA 57 0,oZ 58 f_query_reader_fold [oT 57],oE 59 6 6,oF 1 59 58] [2,6] [0,2,6] (oX [oD 60 11 6,oF 11 2 60] [2] [0,2] (.ret))))))))))))
def rs_query_reader_gatom : List CRes := [.cell 2 true 11]
def im_query_reader_gatom : List Nat := []
theorem ok_query_reader_gatom : FnOk Tryz.prog f_query_reader_gatom im_query_reader_gatom cc_query_reader_gatom rs_query_reader_gatom 61 := fnOk1 mixed (by kernel_rfl)
-- query_reader_arguments while id=0: live [0:r, 3:g, 4:] changed [] res [0, 3, 4, 59]
def cc_query_reader_arguments : CC := oX [oB 3 (.box ty_Constraint false (oT 1)),oB 4 (.alloc ty_Constraint [oi,oe,oe,oe,oe,oe,ob,oi,oi,on,on])] [0,3,4] [0,3,4,59] (.seq (oX [oE 5 0 3,oC 6 1 5] [0,3,4,6] [0,3,4,59] (.block 0 (oX [oB 8 (.eql false false [.int] (oT 6) (oN 1)),oA 7 8] [0,3,4,6,7] [0,3,4,59] (.ite (oT 7) (oX [oD 9 11 3,oF 11 4 9] [4] [0,4,59] (.ret)) (oX [
 oB 11 (.eql false false [.int] (oT 6) (oN 10)),oA 10 11] [0,3,4,10] [0,3,4,59] (.ite (oT 10) (oX [oA 12 0,oB 13 (.bslice ty_string 1 [oS ⟨#[44]⟩]),oZ 14 f_query_reader_must [oT 12,oT 13]] [0,3,4] [0,3,4,59] (oX [oA 15 0,oZ 16 f_query_reader_big [oT 15],oE 17 7 3,oF 1 17 16] [0,3,4] [0,3,4,59] (oX [oA 18 0,oB 19 (.bslice ty_string 1 [oS ⟨#[44]⟩]),
 oZ 20 f_query_reader_must [oT 18,oT 19]] [0,3,4] [0,3,4,59] (oX [oA 21 0,oZ 22 f_query_reader_big [oT 21],oE 23 8 3,oF 1 23 22] [3,4] [0,3,4,59] (oX [oD 24 11 3,oF 11 4 24] [4] [0,4,59] (.ret)))))) (.skip))))))) (.keep [0,3,4] [0,3,4,59] (oX [oA 25 0,oZ 26 f_query_reader_comma [oT 25],oE 27 2 3,oF 1 27 26] [0,3,4] [0,3,4,59] (seqM 12 (oX [oE 28 0 3,
 oC 29 1 28] [0,3,4,29] [0,3,4,59] (.block 1 (oX [oB 31 (.eql false false [.int] (oT 29) (oN 4)),oA 30 31] [0,3,4,29,30] [0,3,4,59] (.ite (oT 30) (oX [oA 32 0,oB 33 (.bslice ty_string 1 [oS ⟨#[44]⟩]),oZ 34 f_query_reader_must [oT 32,oT 33]] [0,3,4] [0,3,4,59] (oX [oA 35 0,oZ 36 f_query_reader_signed [oT 35],oE 37 7 3,oF 1 37 36] [0,3,4] [0,3,4,59] (oX [oA 38 0,
 oB 39 (.bslice ty_string 1 [oS ⟨#[44]⟩]),oZ 40 f_query_reader_must [oT 38,oT 39]] [0,3,4] [0,3,4,59] (.reg [oA 41 0,oZ 42 f_query_reader_signed [oT 41],oE 43 8 3,oF 1 43 42])))) (.seq (oX [oB 45 (.eql false false [.int] (oT 29) (oN 5)),oA 44 45] [0,3,4,29,44] [0,3,4,59] (.ite (oT 44) (.skip) (.reg [oB 46 (.eql false false [.int] (oT 29) (oN 9)),oA 44 46])))
 (.keep [0,3,4,29,44] [0,3,4,59] (.ite (oT 44) (.reg [oA 47 0,oZ 48 f_query_reader_comma [oT 47],oE 49 3 3,oF 1 49 48]) (oX [oB 51 (.eql false false [.int] (oT 29) (oN 8)),oA 50 51] [0,3,4,50] [0,3,4,59] (.ite (oT 50) (.block 2 (.loop 1 (.seq (oX [oA 52 0,oZ 53 f_query_reader_take [oT 52,oS ⟨#[44]⟩]] [0,3,4,53] [0,3,4,59] (.ite (oT 53) (.skip) (.exit 2)))
 (.keep [0,3,4] [0,3,4,59] (.block 3 (.regd [oE 54 9 3,oC 55 1 54,oA 56 0,oB 57 (.callb 0 f_query_reader_text [oT 56,oN 4]),oB 58 (.bslice ty_string 1 [oT 57])] [oB 59 (.append (some 59) ty_string 1 16 (oT 55) (oT 58)),oE 60 9 3,.op none none (.store (some 3) 1 (oT 60) (oT 59))])))))) (.skip)))))))))) (.keep [3,4] [0,3,4,59] (oX [oD 61 11 3,oF 11 4 61] [4] [0,4,59] (.ret)))))))
def rs_query_reader_arguments : List CRes := [.cell 4 true 11]
def im_query_reader_arguments : List Nat := [3057000, 1059059, 2060003]
theorem ok_query_reader_arguments : FnOk Tryz.prog f_query_reader_arguments im_query_reader_arguments cc_query_reader_arguments rs_query_reader_arguments 62 := fnOk1 mixed (by kernel_rfl)
def cc_query_function : CC := oX [oB 2 (.mv (oN 0))] [0] [] (.seq (oX [oA 3 0] [3] [] (.block 0 (oX [oB 5 (.eql false false [.str] (oT 3) (oS ⟨#[98,111,117,110,100]⟩)),oA 4 5] [3,4] [] (.ite (oT 4) (oX [oB 2 (.mv (oN 1))] [2] [] (.ret)) (oX [oB 7 (.eql false false [.str] (oT 3) (oS ⟨#[100,105,115,116,97,110,99,101]⟩)),oA 6 7] [3,6] [] (.ite (oT 6) (oX [oB 2 (.mv (oN 4))] [2] [] (.ret))
 (oX [oB 9 (.eql false false [.str] (oT 3) (oS ⟨#[115,97,109,101]⟩)),oA 8 9] [3,8] [] (.ite (oT 8) (oX [oB 2 (.mv (oN 5))] [2] [] (.ret)) (oX [oB 11 (.eql false false [.str] (oT 3) (oS ⟨#[104,101,97,100]⟩)),oA 10 11] [3,10] [] (.ite (oT 10) (oX [oB 2 (.mv (oN 6))] [2] [] (.ret)) (oX [oB 13 (.eql false false [.str] (oT 3) (oS ⟨#[97,110,99,101,115,116,111,114]⟩)),
 oA 12 13] [3,12] [] (.ite (oT 12) (oX [oB 2 (.mv (oN 7))] [2] [] (.ret)) (oX [oB 15 (.eql false false [.str] (oT 3) (oS ⟨#[112,97,116,104]⟩)),oA 14 15] [3,14] [] (.ite (oT 14) (oX [oB 2 (.mv (oN 8))] [2] [] (.ret)) (oX [oB 17 (.eql false false [.str] (oT 3) (oS ⟨#[110,111,100,101]⟩)),oA 16 17] [3,16] [] (.ite (oT 16) (oX [oB 2 (.mv (oN 9))] [2] [] (.ret)) (oX [
 oB 19 (.eql false false [.str] (oT 3) (oS ⟨#[100,101,112,116,104]⟩)),oA 18 19] [18] [] (.ite (oT 18) (oX [oB 2 (.mv (oN 10))] [2] [] (.ret)) (.skip))))))))))))))))))) (.keep [] [] (oX [oB 2 (.mv (oN 0))] [2] [] (.ret))))
def rs_query_function : List CRes := [.tmp 2]
def im_query_function : List Nat := []
theorem ok_query_function : FnOk Tryz.prog f_query_function im_query_function cc_query_function rs_query_function 20 := fnOk1 mixed (by kernel_rfl)

end Go.Gv
