/- A part of the framework and of the walks: C9. -/
import Derived.Test.YtaiffcbkmgfklaaGreatDoorGz13

namespace Go.Gv
open Go.Proofs
-- query_quoted while id=0: live [0:s, 6:b, 7:i] changed [6, 7] res [43]
/-- corpora/query.quoted [string, int] -> [string, int] -/
def cc_query_quoted : CC :=
  .seq (.reg [
    .op (some 4) none (.mv (.const (.string ⟨#[]⟩))),
    .op (some 5) none (.mv (.const (.int .i64 0)))])
  (.keep [0, 1] [] (.seq (.reg [
    .op (some 6) none (.mv (.const (.slice none 0 0)))])
  (.keep [0, 1, 6] [43] (.seq /- 2 -/ (.seq (.reg [
    .op (some 8) none (.mv (.tmp 1)),
    .op (some 9) none (.arith .add (.tmp 8) (.const (.int .i64 1))),
    .op (some 7) none (.mv (.tmp 9))])
  (.keep [0, 6, 7] [43] (.block 0 (.loop 1 (.seq /- 4 -/ (.seq (.reg [
        .op (some 10) none (.mv (.tmp 7)),
        .op (some 11) none (.mv (.tmp 0)),
        .op (some 12) none (.slen (.tmp 11)),
        .op (some 13) none (.cmp .lss (.tmp 10) (.tmp 12))])
      (.keep [0, 6, 7, 13] [43] (.ite (.tmp 13) (.skip)
        (.exit 0))))
      (.keep [0, 6, 7] [43] (.seq /- 6 -/ (.block 1 (.seq /- 7 -/ (.seq (.reg [
          .op (some 16) none (.mv (.tmp 0)),
          .op (some 17) none (.mv (.tmp 7)),
          .op (some 18) none (.sidx (.tmp 16) (.tmp 17)),
          .op (some 19) none (.eql false false [.int] (.tmp 18) (.const (.int .u8 34)))])
        (.keep [0, 6, 7, 19] [43] (.ite (.tmp 19) (.seq /- 9 -/ (.seq (.reg [
            .op (some 20) none (.mv (.tmp 7)),
            .op (some 21) none (.arith .add (.tmp 20) (.const (.int .i64 1))),
            .op (some 22) none (.mv (.tmp 0)),
            .op (some 23) none (.slen (.tmp 22)),
            .op (some 24) none (.eql false false [.int] (.tmp 21) (.tmp 23)),
            .op (some 25) none (.mv (.tmp 24)),
            .op (some 26) (some (25, false)) (.mv (.tmp 0)),
            .op (some 27) (some (25, false)) (.mv (.tmp 7)),
            .op (some 28) (some (25, false)) (.arith .add (.tmp 27) (.const (.int .i64 1))),
            .op (some 29) (some (25, false)) (.sidx (.tmp 26) (.tmp 28)),
            .op (some 30) (some (25, false)) (.eql true false [.int] (.tmp 29) (.const (.int .u8 34))),
            .op (some 31) none (.pick (.tmp 25) (.const (.bool true)) (.tmp 30))])
          (.keep [0, 6, 7, 31] [43] (.ite (.tmp 31) (.seq (.reg [
              .op (some 32) none (.mv (.tmp 6)),
              .op (some 33) none (.bstr (.tmp 32)),
              .op (some 34) none (.mv (.tmp 7)),
              .op (some 35) none (.arith .add (.tmp 34) (.const (.int .i64 1))),
              .op (some 4) none (.mv (.tmp 33)),
              .op (some 5) none (.mv (.tmp 35))])
            (.keep [4, 5] [43] (.ret)))
            (.skip))))
          (.keep [0, 6, 7] [43] (.reg [
            .op (some 36) none (.mv (.tmp 7)),
            .op (some 37) none (.arith .add (.tmp 36) (.const (.int .i64 1))),
            .op (some 7) none (.mv (.tmp 37))])))
          (.skip))))
        (.keep [0, 6, 7] [43] (.reg [
          .op (some 38) none (.mv (.tmp 6)),
          .op (some 39) none (.mv (.tmp 0)),
          .op (some 40) none (.mv (.tmp 7)),
          .op (some 41) none (.sidx (.tmp 39) (.tmp 40)),
          .op (some 42) none (.bslice ty_uint8 1 [(.tmp 41)]),
          .op (some 43) none (.append none ty_uint8 1 1 (.tmp 38) (.tmp 42)),
          .op (some 6) none (.mv (.tmp 43))]))))
      (.keep [0, 6, 7] [43] (.reg [
        .op (some 14) none (.mv (.tmp 7)),
        .op (some 15) none (.arith .add (.tmp 14) (.const (.int .i64 1))),
        .op (some 7) none (.mv (.tmp 15))])))))))))
  (.keep [] [] (.seq (.reg [
    .op (some 4) none (.mv (.const (.string ⟨#[]⟩))),
    .op (some 5) none (.mv (.const (.int .i64 (-1))))])
  (.keep [4, 5] [43] (.ret))))))))
def rs_query_quoted : List CRes := [.tmp 4, .tmp 5]
def im_query_quoted : List Nat := []
theorem ok_query_quoted : FnOk Tryz.prog f_query_quoted im_query_quoted cc_query_quoted rs_query_quoted 44 := fnOk1 mixed (by kernel_rfl)
-- query_Format range i=56 n=55 c=57 i2=83 id=0: live [1:q, 3:w, 54:] changed [] res [36]
/-- corpora/query.Format [Query] -> [string] -/
def cc_query_Format : CC :=
  .seq (.reg [
    .op (some 1) none (.box ty_Query true (.tmp 0)),
    .op (some 2) none (.mv (.const (.string ⟨#[]⟩)))])
  (.keep [1] [36, 900] (.seq /- 1 -/ (.seq (.reg [
    .op (some 6) none (.faddr 0 (.tmp 1)),
    .op (some 7) none (.load true 13 (.tmp 6)),
    .op (some 8) none (.call f_query_Shape [(.tmp 7)]),
    .op (some 9) none (.not (.tmp 8)),
    .op (some 10) none (.mv (.tmp 9)),
    .op (some 11) (some (10, false)) (.faddr 25 (.tmp 1)),
    .op (some 12) (some (10, false)) (.load false 1 (.tmp 11)),
    .op (some 13) (some (10, false)) (.cmp .lss (.tmp 12) (.const (.int .i64 0))),
    .op (some 14) none (.pick (.tmp 10) (.const (.bool true)) (.tmp 13)),
    .op (some 15) none (.mv (.tmp 14)),
    .op (some 16) (some (15, false)) (.faddr 25 (.tmp 1)),
    .op (some 17) (some (15, false)) (.load false 1 (.tmp 16)),
    .op (some 18) (some (15, false)) (.cmp .gtr (.tmp 17) (.const (.int .i64 3))),
    .op (some 19) none (.pick (.tmp 15) (.const (.bool true)) (.tmp 18)),
    .op (some 20) none (.mv (.tmp 19)),
    .op (some 21) (some (20, false)) (.faddr 24 (.tmp 1)),
    .op (some 22) (some (20, false)) (.load false 1 (.tmp 21)),
    .op (some 23) (some (20, false)) (.call f_slices_ContainsFunc_Filter [(.tmp 22), (.func f_query_kind)]),
    .op (some 24) none (.pick (.tmp 20) (.const (.bool true)) (.tmp 23)),
    .op (some 25) none (.mv (.tmp 24)),
    .op (some 26) (some (25, false)) (.faddr 13 (.tmp 1)),
    .op (some 27) (some (25, false)) (.load true 11 (.tmp 26)),
    .op (some 28) (some (25, false)) (.call f_query_Sound [(.tmp 27)]),
    .op (some 29) (some (25, false)) (.not (.tmp 28)),
    .op (some 30) none (.pick (.tmp 25) (.const (.bool true)) (.tmp 29))])
  (.keep [1, 30] [36, 900] (.ite (.tmp 30) (.seq (.reg [
      .op (some 2) none (.mv (.const (.string ⟨#[]⟩)))])
    (.keep [2] [36, 900] (.ret)))
    (.skip))))
  (.keep [1] [36, 900] (.seq /- 4 -/ (.seq (.reg [
    .op (some 31) none (.faddr 0 (.tmp 1)),
    .op (some 32) none (.load true 13 (.tmp 31)),
    .op (some 33) none (.call f_query_leaves [(.tmp 32), (.const (.slice none 0 0))]),
    .frz 33 13,
    .op (some 34) none (.call f_slices_ContainsFunc_Pattern [(.tmp 33), (.func f_query_Format_1)])])
  (.keep [1, 34] [36, 900, 33] (.ite (.tmp 34) (.seq (.reg [
      .op (some 2) none (.mv (.const (.string ⟨#[]⟩)))])
    (.keep [2] [36, 900] (.ret)))
    (.skip))))
  (.keep [1] [36, 900] (seqM 7 (.reg [
    .op (some 35) none (.build [(.pointer none), (.slice none 0 0)] []),
    .op (some 36) none (.tbx ty_query_writer (.tmp 35)),
    .op (some 3) none (.mv (.tmp 36))])
  (.keep [1, 3] [36, 900] (.seq (.reg [
    .op (some 37) none (.mv (.tmp 3)),
    .op (some 38) none (.faddr 0 (.tmp 1)),
    .op (some 39) none (.load true 13 (.tmp 38)),
    .op (some 40) none (.call f_query_writer_pattern [(.tmp 37), (.tmp 39)])])
  (.keep [1, 3] [36, 900] (.seq /- 9 -/ (.seq (.reg [
    .op (some 41) none (.faddr 13 (.tmp 1)),
    .op (some 42) none (.faddr 0 (.tmp 41)),
    .op (some 43) none (.load false 1 (.tmp 42)),
    .op (some 44) none (.eql true false [.int] (.tmp 43) (.const (.int .i64 0)))])
  (.keep [1, 3, 44] [36, 900] (.ite (.tmp 44) (.seq (.reg [
      .op (some 45) none (.mv (.tmp 3)),
      .op (some 46) none (.nilck (.tmp 45)),
      .op (some 47) none (.faddr 0 (.tmp 46)),
      .op (some 48) none (.call f_strings_Builder_WriteString [(.tmp 47), (.const (.string ⟨#[32, 58, 58, 32]⟩))])])
    (.keep [1, 3] [36, 900] (.reg [
      .op (some 49) none (.mv (.tmp 3)),
      .op (some 50) none (.faddr 13 (.tmp 1)),
      .op (some 51) none (.load true 11 (.tmp 50)),
      .op (some 52) none (.call f_query_writer_glob [(.tmp 49), (.tmp 51)])])))
    (.skip))))
  (.keep [1, 3] [36, 900] (.seq /- 12 -/ (.seq (.reg [
    .op (some 53) none (.faddr 24 (.tmp 1)),
    .op (some 54) none (.load false 1 (.tmp 53)),
    .op (some 55) none (.len (.tmp 54)),
    .op (some 56) none (.mv (.const (.int .i64 0)))])
  (.keep [1, 3, 54, 55, 56] [36, 900] (rangeCC 0 56 55 57 1 (.seq (.reg [
      .op (some 58) none (.iaddr 3 (.tmp 54) (.tmp 56)),
      .op (some 59) none (.load true 3 (.tmp 58)),
      .op (some 5) none (.alloc ty_Filter [(.int .i64 0), (.bool false), (.string ⟨#[]⟩)]),
      .op none none (.store none 3 (.tmp 5) (.tmp 59))])
    (.keep [1, 3, 5, 54, 55, 56] [36, 900, 5] (.seq (.reg [
      .op (some 60) none (.mv (.tmp 3)),
      .op (some 61) none (.nilck (.tmp 60)),
      .op (some 62) none (.faddr 0 (.tmp 61)),
      .op (some 63) none (.call f_strings_Builder_WriteString [(.tmp 62), (.const (.string ⟨#[32]⟩))])])
    (.keep [1, 3, 5, 54, 55, 56] [36, 900, 5] (.seq /- 16 -/ (.seq (.reg [
      .op (some 64) none (.faddr 1 (.tmp 5)),
      .op (some 65) none (.load false 1 (.tmp 64))])
    (.keep [1, 3, 5, 54, 55, 56, 65] [36, 900, 5] (.ite (.tmp 65) (.reg [
        .op (some 66) none (.mv (.tmp 3)),
        .op (some 67) none (.nilck (.tmp 66)),
        .op (some 68) none (.faddr 0 (.tmp 67)),
        .op (some 69) none (.call f_strings_Builder_WriteString [(.tmp 68), (.const (.string ⟨#[33]⟩))])])
      (.skip))))
    (.keep [1, 3, 5, 54, 55, 56] [36, 900, 5] (.regd [
      .op (some 70) none (.mv (.tmp 3)),
      .op (some 71) none (.nilck (.tmp 70)),
      .op (some 72) none (.faddr 0 (.tmp 71)),
      .op (some 73) none (.call f_query_filterWords []),
      .op (some 74) none (.faddr 0 (.tmp 5)),
      .op (some 75) none (.load false 1 (.tmp 74)),
      .op (some 76) none (.iaddr 1 (.tmp 73) (.tmp 75)),
      .op (some 77) none (.load false 1 (.tmp 76)),
      .op (some 78) none (.scat (.tmp 77) (.const (.string ⟨#[32]⟩))),
      .op (some 79) none (.faddr 2 (.tmp 5)),
      .op (some 80) none (.load false 1 (.tmp 79)),
      .op (some 81) none (.scat (.tmp 78) (.tmp 80))] [
      .op (some 82) none (.call f_strings_Builder_WriteString [(.tmp 72), (.tmp 81)])]))))))) 83)))
  (.keep [1, 3] [36, 900] (.seq /- 18 -/ (.seq (.reg [
    .op (some 84) none (.faddr 25 (.tmp 1)),
    .op (some 85) none (.load false 1 (.tmp 84)),
    .op (some 86) none (.eql true false [.int] (.tmp 85) (.const (.int .i64 0)))])
  (.keep [1, 3, 86] [36, 900] (.ite (.tmp 86) (.regd [
      .op (some 87) none (.mv (.tmp 3)),
      .op (some 88) none (.nilck (.tmp 87)),
      .op (some 89) none (.faddr 0 (.tmp 88)),
      .op (some 90) none (.call f_query_strategyWords []),
      .op (some 91) none (.faddr 25 (.tmp 1)),
      .op (some 92) none (.load false 1 (.tmp 91)),
      .op (some 93) none (.iaddr 1 (.tmp 90) (.tmp 92)),
      .op (some 94) none (.load false 1 (.tmp 93)),
      .op (some 95) none (.scat (.const (.string ⟨#[32, 115, 116, 114, 97, 116, 101, 103, 121, 32]⟩)) (.tmp 94))] [
      .op (some 96) none (.call f_strings_Builder_WriteString [(.tmp 89), (.tmp 95)])])
    (.skip))))
  (.keep [3] [36, 900] (.seq (.reg [
    .op (some 97) none (.mv (.tmp 3)),
    .op (some 98) none (.nilck (.tmp 97)),
    .op (some 99) none (.faddr 0 (.tmp 98)),
    .op (some 100) none (.call f_strings_Builder_String [(.tmp 99)]),
    .op (some 2) none (.mv (.tmp 100))])
  (.keep [2] [36, 900] (.ret))))))))))))))))))
def rs_query_Format : List CRes := [.tmp 2]
def im_query_Format : List Nat := [1, 200036]
theorem ok_query_Format : FnOk Tryz.prog f_query_Format im_query_Format cc_query_Format rs_query_Format 101 := fnOk1 mixed (by kernel_rfl)
/-- corpora/query.Sound [Constraint] -> [bool] -/
def cc_query_Sound : CC :=
  .seq (.reg [
    .op (some 1) none (.box ty_Constraint true (.tmp 0)),
    .op (some 2) none (.mv (.const (.bool false)))])
  (.keep [1] [] (.seq /- 1 -/ (.seq (.reg [
    .op (some 5) none (.load true 11 (.tmp 1)),
    .op (some 6) none (.call f_query_none [(.tmp 5)])])
  (.keep [1, 6] [] (.ite (.tmp 6) (.seq (.reg [
      .op (some 2) none (.mv (.const (.bool true)))])
    (.keep [2] [] (.ret)))
    (.skip))))
  (.keep [1] [] (.seq (.reg [
    .op (some 8) none (.load true 11 (.tmp 1)),
    .op (some 9) none (.call f_query_measure [(.tmp 8), (.const (.int .i64 0)), (.const (.int .i64 1))]),
    .op (some 7) none (.mv (.tmp 9)),
    .op (some 10) none (.ext (.tmp 7) 0),
    .op (some 11) none (.ext (.tmp 7) 1),
    .op (some 3) none (.mv (.tmp 10)),
    .op (some 4) none (.mv (.tmp 11))])
  (.keep [1, 3, 4] [] (.seq (.reg [
    .op (some 12) none (.mv (.tmp 3)),
    .op (some 13) none (.cmp .leq (.tmp 12) (.const (.int .i64 60))),
    .op (some 14) none (.mv (.tmp 13)),
    .op (some 15) (some (14, true)) (.mv (.tmp 4)),
    .op (some 16) (some (14, true)) (.cmp .leq (.tmp 15) (.const (.int .i64 20))),
    .op (some 17) none (.pick (.tmp 14) (.tmp 16) (.const (.bool false))),
    .op (some 18) none (.mv (.tmp 17)),
    .op (some 19) (some (18, true)) (.load true 11 (.tmp 1)),
    .op (some 20) (some (18, true)) (.call f_query_atoms [(.tmp 19), (.func f_query_atom)]),
    .op (some 21) none (.pick (.tmp 18) (.tmp 20) (.const (.bool false))),
    .op (some 2) none (.mv (.tmp 21))])
  (.keep [2] [] (.ret))))))))
def rs_query_Sound : List CRes := [.tmp 2]
def im_query_Sound : List Nat := [1]
theorem ok_query_Sound : FnOk Tryz.prog f_query_Sound im_query_Sound cc_query_Sound rs_query_Sound 22 := fnOk1 mixed (by kernel_rfl)
/-- corpora/query.none [Constraint] -> [bool] -/
def cc_query_none : CC :=
  .seq (.reg [
    .op (some 1) none (.box ty_Constraint true (.tmp 0)),
    .op (some 2) none (.mv (.const (.bool false)))])
  (.keep [1] [] (.seq (.reg [
    .op (some 3) none (.faddr 0 (.tmp 1)),
    .op (some 4) none (.load false 1 (.tmp 3)),
    .op (some 5) none (.eql false false [.int] (.tmp 4) (.const (.int .i64 0))),
    .op (some 6) none (.mv (.tmp 5)),
    .op (some 7) (some (6, true)) (.faddr 1 (.tmp 1)),
    .op (some 8) (some (6, true)) (.load false 1 (.tmp 7)),
    .op (some 9) (some (6, true)) (.eql false false [.str] (.tmp 8) (.const (.string ⟨#[]⟩))),
    .op (some 10) none (.pick (.tmp 6) (.tmp 9) (.const (.bool false))),
    .op (some 11) none (.mv (.tmp 10)),
    .op (some 12) (some (11, true)) (.faddr 2 (.tmp 1)),
    .op (some 13) (some (11, true)) (.load false 1 (.tmp 12)),
    .op (some 14) (some (11, true)) (.eql false false [.str] (.tmp 13) (.const (.string ⟨#[]⟩))),
    .op (some 15) none (.pick (.tmp 11) (.tmp 14) (.const (.bool false))),
    .op (some 16) none (.mv (.tmp 15)),
    .op (some 17) (some (16, true)) (.faddr 3 (.tmp 1)),
    .op (some 18) (some (16, true)) (.load false 1 (.tmp 17)),
    .op (some 19) (some (16, true)) (.eql false false [.str] (.tmp 18) (.const (.string ⟨#[]⟩))),
    .op (some 20) none (.pick (.tmp 16) (.tmp 19) (.const (.bool false))),
    .op (some 21) none (.mv (.tmp 20)),
    .op (some 22) (some (21, true)) (.faddr 4 (.tmp 1)),
    .op (some 23) (some (21, true)) (.load false 1 (.tmp 22)),
    .op (some 24) (some (21, true)) (.eql false false [.str] (.tmp 23) (.const (.string ⟨#[]⟩))),
    .op (some 25) none (.pick (.tmp 21) (.tmp 24) (.const (.bool false))),
    .op (some 26) none (.mv (.tmp 25)),
    .op (some 27) (some (26, true)) (.faddr 5 (.tmp 1)),
    .op (some 28) (some (26, true)) (.load false 1 (.tmp 27)),
    .op (some 29) (some (26, true)) (.eql false false [.str] (.tmp 28) (.const (.string ⟨#[]⟩))),
    .op (some 30) none (.pick (.tmp 26) (.tmp 29) (.const (.bool false))),
    .op (some 31) none (.mv (.tmp 30)),
    .op (some 32) (some (31, true)) (.faddr 6 (.tmp 1)),
    .op (some 33) (some (31, true)) (.load false 1 (.tmp 32)),
    .op (some 34) (some (31, true)) (.not (.tmp 33)),
    .op (some 35) none (.pick (.tmp 31) (.tmp 34) (.const (.bool false))),
    .op (some 36) none (.mv (.tmp 35)),
    .op (some 37) (some (36, true)) (.faddr 7 (.tmp 1)),
    .op (some 38) (some (36, true)) (.load false 1 (.tmp 37)),
    .op (some 39) (some (36, true)) (.eql false false [.int] (.tmp 38) (.const (.int .i64 0))),
    .op (some 40) none (.pick (.tmp 36) (.tmp 39) (.const (.bool false))),
    .op (some 41) none (.mv (.tmp 40)),
    .op (some 42) (some (41, true)) (.faddr 8 (.tmp 1)),
    .op (some 43) (some (41, true)) (.load false 1 (.tmp 42)),
    .op (some 44) (some (41, true)) (.eql false false [.int] (.tmp 43) (.const (.int .i64 0))),
    .op (some 45) none (.pick (.tmp 41) (.tmp 44) (.const (.bool false))),
    .op (some 46) none (.mv (.tmp 45)),
    .op (some 47) (some (46, true)) (.faddr 9 (.tmp 1)),
    .op (some 48) (some (46, true)) (.load false 1 (.tmp 47)),
    .op (some 49) (some (46, true)) (.len (.tmp 48)),
    .op (some 50) (some (46, true)) (.eql false false [.int] (.tmp 49) (.const (.int .i64 0))),
    .op (some 51) none (.pick (.tmp 46) (.tmp 50) (.const (.bool false))),
    .op (some 52) none (.mv (.tmp 51)),
    .op (some 53) (some (52, true)) (.faddr 10 (.tmp 1)),
    .op (some 54) (some (52, true)) (.load false 1 (.tmp 53)),
    .op (some 55) (some (52, true)) (.len (.tmp 54)),
    .op (some 56) (some (52, true)) (.eql false false [.int] (.tmp 55) (.const (.int .i64 0))),
    .op (some 57) none (.pick (.tmp 52) (.tmp 56) (.const (.bool false))),
    .op (some 2) none (.mv (.tmp 57))])
  (.keep [2] [] (.ret))))
def rs_query_none : List CRes := [.tmp 2]
def im_query_none : List Nat := [1]
theorem ok_query_none : FnOk Tryz.prog f_query_none im_query_none cc_query_none rs_query_none 58 := fnOk1 mixed (by kernel_rfl)
/-- slices.ContainsFunc[[]corpora/api.Filter,corpora/api.Filter] [L_Filter, func_Filter_bool] -> [bool] -/
def cc_slices_ContainsFunc_Filter : CC :=
  .seq (.reg [
    .op (some 4) none (.mv (.const (.bool false)))])
  (.keep [0, 1] [] (.seq (.reg [
    .op (some 5) none (.mv (.tmp 0)),
    .op (some 6) none (.mv (.tmp 1)),
    .op (some 7) none (.call f_slices_IndexFunc_Filter [(.tmp 5), (.tmp 6)]),
    .op (some 8) none (.cmp .geq (.tmp 7) (.const (.int .i64 0))),
    .op (some 4) none (.mv (.tmp 8))])
  (.keep [4] [] (.ret))))
def rs_slices_ContainsFunc_Filter : List CRes := [.tmp 4]
def im_slices_ContainsFunc_Filter : List Nat := []
theorem ok_slices_ContainsFunc_Filter : FnOk Tryz.prog f_slices_ContainsFunc_Filter im_slices_ContainsFunc_Filter cc_slices_ContainsFunc_Filter rs_slices_ContainsFunc_Filter 9 := fnOk1 mixed (by kernel_rfl)
-- slices_IndexFunc_Filter range i=8 n=7 c=9 i2=18 id=0: live [0:s, 1:f] changed [] res []
/-- slices.IndexFunc[[]corpora/api.Filter,corpora/api.Filter] [L_Filter, func_Filter_bool] -> [int] -/
def cc_slices_IndexFunc_Filter : CC :=
  .seq (.reg [
    .op (some 4) none (.mv (.const (.int .i64 0)))])
  (.keep [0, 1] [] (.seq /- 1 -/ (.seq (.reg [
    .op (some 6) none (.mv (.tmp 0)),
    .op (some 7) none (.len (.tmp 6)),
    .op (some 8) none (.mv (.const (.int .i64 0)))])
  (.keep [0, 1, 7, 8] [] (rangeCC 0 8 7 9 1 (.seq (.reg [
      .op (some 10) none (.mv (.tmp 8)),
      .op (some 5) none (.mv (.tmp 10))])
    (.keep [0, 1, 5, 7, 8] [] (.seq (.reg [
      .op (some 11) none (.mv (.tmp 1)),
      .op (some 12) none (.mv (.tmp 0)),
      .op (some 13) none (.mv (.tmp 5)),
      .op (some 14) none (.iaddr 3 (.tmp 12) (.tmp 13)),
      .op (some 15) none (.load true 3 (.tmp 14)),
      .op (some 16) none (.callv (.tmp 11) [(.tmp 15)])])
    (.keep [0, 1, 5, 7, 8, 16] [] (.ite (.tmp 16) (.seq (.reg [
        .op (some 17) none (.mv (.tmp 5)),
        .op (some 4) none (.mv (.tmp 17))])
      (.keep [4] [] (.ret)))
      (.skip)))))) 18)))
  (.keep [] [] (.seq (.reg [
    .op (some 4) none (.mv (.const (.int .i64 (-1))))])
  (.keep [4] [] (.ret))))))
def rs_slices_IndexFunc_Filter : List CRes := [.tmp 4]
def im_slices_IndexFunc_Filter : List Nat := []
theorem ok_slices_IndexFunc_Filter : FnOk Tryz.prog f_slices_IndexFunc_Filter im_slices_IndexFunc_Filter cc_slices_IndexFunc_Filter rs_slices_IndexFunc_Filter 19 := fnOk1 mixed (by kernel_rfl)
-- query_leaves range i=18 n=17 c=19 i2=25 id=0: live [1:out, 16:] changed [1] res [1, 24]
/-- corpora/query.leaves [Pattern, L_Pattern] -> [L_Pattern] -/
def cc_query_leaves : CC :=
  .seq (.reg [
    .op (some 2) none (.box ty_Pattern true (.tmp 0)),
    .op (some 4) none (.mv (.const (.slice none 0 0)))])
  (.keep [1, 2] [1, 24] (.seq /- 1 -/ (.seq (.reg [
    .op (some 7) none (.faddr 0 (.tmp 2)),
    .op (some 8) none (.load false 1 (.tmp 7)),
    .op (some 9) none (.eql false false [.int] (.tmp 8) (.const (.int .i64 1)))])
  (.keep [1, 2, 9] [1, 24] (.ite (.tmp 9) (.seq (.reg [
      .op (some 10) none (.mv (.tmp 1)),
      .op (some 11) none (.load true 13 (.tmp 2)),
      .op (some 12) none (.call f_query_clone [(.tmp 11)]),
      .op (some 13) none (.bslice ty_Pattern 13 [(.tmp 12)]),
      .op (some 14) none (.append none ty_Pattern 13 184 (.tmp 10) (.tmp 13)),
      .op (some 4) none (.mv (.tmp 14))])
    (.keep [4] [1, 14, 24] (.ret)))
    (.skip))))
  (.keep [1, 2] [1, 24] (.seq /- 4 -/ (.seq (.reg [
    .op (some 15) none (.faddr 12 (.tmp 2)),
    .op (some 16) none (.load false 1 (.tmp 15)),
    .op (some 17) none (.len (.tmp 16)),
    .op (some 18) none (.mv (.const (.int .i64 0)))])
  (.keep [1, 16, 17, 18] [1, 24] (rangeCC 0 18 17 19 1 (.seq (.reg [
      .op (some 20) none (.iaddr 13 (.tmp 16) (.tmp 18)),
      .op (some 21) none (.load true 13 (.tmp 20)),
      .op (some 6) none (.alloc ty_Pattern [(.int .i64 0), (.int .i64 0), (.string ⟨#[]⟩), (.string ⟨#[]⟩), (.string ⟨#[]⟩), (.string ⟨#[]⟩), (.bool false), (.slice none 0 0), (.string ⟨#[]⟩), (.string ⟨#[]⟩), (.int .i64 0), (.int .i64 0), (.slice none 0 0)]),
      .op none none (.store none 13 (.tmp 6) (.tmp 21))])
    (.keep [1, 6, 16, 17, 18] [1, 6, 24] (.reg [
      .op (some 22) none (.load true 13 (.tmp 6)),
      .op (some 23) none (.mv (.tmp 1)),
      .op (some 24) none (.call f_query_leaves [(.tmp 22), (.tmp 23)]),
      .op (some 1) none (.mv (.tmp 24))]))) 25)))
  (.keep [1] [1, 24] (.seq (.reg [
    .op (some 26) none (.mv (.tmp 1)),
    .op (some 4) none (.mv (.tmp 26))])
  (.keep [4] [1, 14, 24] (.ret))))))))
def rs_query_leaves : List CRes := [.tmp 4]
def im_query_leaves : List Nat := [2]
theorem ok_query_leaves : FnOk Tryz.prog f_query_leaves im_query_leaves cc_query_leaves rs_query_leaves 27 := fnOk1 mixed (by kernel_rfl)
/-- corpora/query.clone [Pattern] -> [Pattern] -/
def cc_query_clone : CC :=
  .seq (.reg [
    .op (some 1) none (.box ty_Pattern true (.tmp 0)),
    .op (some 2) none (.alloc ty_Pattern [(.int .i64 0), (.int .i64 0), (.string ⟨#[]⟩), (.string ⟨#[]⟩), (.string ⟨#[]⟩), (.string ⟨#[]⟩), (.bool false), (.slice none 0 0), (.string ⟨#[]⟩), (.string ⟨#[]⟩), (.int .i64 0), (.int .i64 0), (.slice none 0 0)])])
  (.keep [1, 2] [2] (.seq (.regd [
    .op (some 3) none (.faddr 0 (.tmp 1)),
    .op (some 4) none (.load false 1 (.tmp 3)),
    .op (some 5) none (.faddr 1 (.tmp 1)),
    .op (some 6) none (.load true 7 (.tmp 5)),
    .op (some 7) none (.call f_query_copied [(.tmp 6)]),
    .op (some 8) none (.faddr 8 (.tmp 1)),
    .op (some 9) none (.load false 1 (.tmp 8))] [
    .op (some 10) none (.build [(.int .i64 0), (.int .i64 0), (.string ⟨#[]⟩), (.string ⟨#[]⟩), (.string ⟨#[]⟩), (.string ⟨#[]⟩), (.bool false), (.slice none 0 0), (.string ⟨#[]⟩), (.string ⟨#[]⟩), (.int .i64 0), (.int .i64 0), (.slice none 0 0)] [(0, 1, (.tmp 4)), (1, 7, (.tmp 7)), (8, 1, (.tmp 9))]),
    .op none none (.store (some 2) 13 (.tmp 2) (.tmp 10))])
  (.keep [2] [2] (.ret))))
def rs_query_clone : List CRes := [.cell 2 true 13]
def im_query_clone : List Nat := [1, 2002002]
theorem ok_query_clone : FnOk Tryz.prog f_query_clone im_query_clone cc_query_clone rs_query_clone 11 := fnOk1 mixed (by kernel_rfl)
-- query_copied range i=11 n=10 c=12 i2=22 id=0: live [2:, 3:out, 9:] changed [] res [2, 3, 20]
/-- corpora/query.copied [Cond] -> [Cond] -/
def cc_query_copied : CC :=
  .seq (.reg [
    .op (some 1) none (.box ty_Cond true (.tmp 0)),
    .op (some 2) none (.alloc ty_Cond [(.int .i64 0), (.string ⟨#[]⟩), (.string ⟨#[]⟩), (.string ⟨#[]⟩), (.string ⟨#[]⟩), (.bool false), (.slice none 0 0)])])
  (.keep [1, 2] [2, 20] (.seq (.reg [
    .op (some 6) none (.load true 7 (.tmp 1)),
    .op (some 3) none (.alloc ty_Cond [(.int .i64 0), (.string ⟨#[]⟩), (.string ⟨#[]⟩), (.string ⟨#[]⟩), (.string ⟨#[]⟩), (.bool false), (.slice none 0 0)]),
    .op none none (.store none 7 (.tmp 3) (.tmp 6))])
  (.keep [1, 2, 3] [2, 3, 20] (.seq (.reg [
    .op (some 7) none (.faddr 6 (.tmp 3)),
    .op none none (.store none 1 (.tmp 7) (.const (.slice none 0 0)))])
  (.keep [1, 2, 3] [2, 3, 20] (.seq /- 3 -/ (.seq (.reg [
    .op (some 8) none (.faddr 6 (.tmp 1)),
    .op (some 9) none (.load false 1 (.tmp 8)),
    .op (some 10) none (.len (.tmp 9)),
    .op (some 11) none (.mv (.const (.int .i64 0)))])
  (.keep [2, 3, 9, 10, 11] [2, 3, 20] (rangeCC 0 11 10 12 1 (.seq (.reg [
      .op (some 13) none (.iaddr 7 (.tmp 9) (.tmp 11)),
      .op (some 14) none (.load true 7 (.tmp 13)),
      .op (some 5) none (.alloc ty_Cond [(.int .i64 0), (.string ⟨#[]⟩), (.string ⟨#[]⟩), (.string ⟨#[]⟩), (.string ⟨#[]⟩), (.bool false), (.slice none 0 0)]),
      .op none none (.store none 7 (.tmp 5) (.tmp 14))])
    (.keep [2, 3, 5, 9, 10, 11] [2, 3, 5, 20] (.regd [
      .op (some 15) none (.faddr 6 (.tmp 3)),
      .op (some 16) none (.load false 1 (.tmp 15)),
      .op (some 17) none (.load true 7 (.tmp 5)),
      .op (some 18) none (.call f_query_copied [(.tmp 17)]),
      .op (some 19) none (.bslice ty_Cond 7 [(.tmp 18)])] [
      .op (some 20) none (.append (some 20) ty_Cond 7 104 (.tmp 16) (.tmp 19)),
      .op (some 21) none (.faddr 6 (.tmp 3)),
      .op none none (.store (some 3) 1 (.tmp 21) (.tmp 20))]))) 22)))
  (.keep [2, 3] [2, 3, 20] (.seq (.reg [
    .op (some 23) none (.load true 7 (.tmp 3)),
    .op none none (.store none 7 (.tmp 2) (.tmp 23))])
  (.keep [2] [2, 20] (.ret))))))))))
def rs_query_copied : List CRes := [.cell 2 true 7]
def im_query_copied : List Nat := [1, 2021003, 1020020]
theorem ok_query_copied : FnOk Tryz.prog f_query_copied im_query_copied cc_query_copied rs_query_copied 24 := fnOk1 mixed (by kernel_rfl)
/-- corpora/query.Format$1 [Pattern] -> [bool] -/
def cc_query_Format_1 : CC :=
  .seq (.reg [
    .op (some 1) none (.box ty_Pattern true (.tmp 0)),
    .op (some 2) none (.mv (.const (.bool false)))])
  (.keep [1] [] (.seq (.reg [
    .op (some 3) none (.faddr 1 (.tmp 1)),
    .op (some 4) none (.load true 7 (.tmp 3)),
    .op (some 5) none (.call f_condition_Shape [(.tmp 4)]),
    .op (some 6) none (.not (.tmp 5)),
    .op (some 2) none (.mv (.tmp 6))])
  (.keep [2] [] (.ret))))
def rs_query_Format_1 : List CRes := [.tmp 2]
def im_query_Format_1 : List Nat := [1]
theorem ok_query_Format_1 : FnOk Tryz.prog f_query_Format_1 im_query_Format_1 cc_query_Format_1 rs_query_Format_1 7 := fnOk1 mixed (by kernel_rfl)
/-- corpora/condition.Shape [Cond] -> [bool] -/
def cc_condition_Shape : CC :=
  .seq (.reg [
    .op (some 1) none (.box ty_Cond true (.tmp 0)),
    .op (some 2) none (.mv (.const (.bool false)))])
  (.keep [1] [] (.seq (.reg [
    .op (some 6) none (.load true 7 (.tmp 1)),
    .op (some 7) none (.call f_condition_measure [(.tmp 6), (.const (.int .i64 0)), (.const (.int .i64 1))]),
    .op (some 5) none (.mv (.tmp 7)),
    .op (some 8) none (.ext (.tmp 5) 0),
    .op (some 9) none (.ext (.tmp 5) 1),
    .op (some 3) none (.mv (.tmp 8)),
    .op (some 4) none (.mv (.tmp 9))])
  (.keep [1, 3, 4] [] (.seq (.reg [
    .op (some 10) none (.mv (.tmp 3)),
    .op (some 11) none (.cmp .leq (.tmp 10) (.const (.int .i64 60))),
    .op (some 12) none (.mv (.tmp 11)),
    .op (some 13) (some (12, true)) (.mv (.tmp 4)),
    .op (some 14) (some (12, true)) (.cmp .leq (.tmp 13) (.const (.int .i64 20))),
    .op (some 15) none (.pick (.tmp 12) (.tmp 14) (.const (.bool false))),
    .op (some 16) none (.mv (.tmp 15)),
    .op (some 17) (some (16, true)) (.load true 7 (.tmp 1)),
    .op (some 18) (some (16, true)) (.call f_condition_walk [(.tmp 17), (.func f_condition_Shape_1)]),
    .op (some 19) (some (16, true)) (.eql false false [.int] (.tmp 18) (.const (.int .i64 0))),
    .op (some 20) none (.pick (.tmp 16) (.tmp 19) (.const (.bool false))),
    .op (some 2) none (.mv (.tmp 20))])
  (.keep [2] [] (.ret))))))
def rs_condition_Shape : List CRes := [.tmp 2]
def im_condition_Shape : List Nat := [1]
theorem ok_condition_Shape : FnOk Tryz.prog f_condition_Shape im_condition_Shape cc_condition_Shape rs_condition_Shape 21 := fnOk1 mixed (by kernel_rfl)
-- condition_measure range i=19 n=18 c=20 i2=37 id=0: live [1:nodes, 2:deep, 8:deepest, 17:] changed [1, 8] res []
/-- corpora/condition.measure [Cond, int, int] -> [int, int] -/
def cc_condition_measure : CC :=
  .seq (.reg [
    .op (some 3) none (.box ty_Cond true (.tmp 0)),
    .op (some 6) none (.mv (.const (.int .i64 0))),
    .op (some 7) none (.mv (.const (.int .i64 0)))])
  (.keep [1, 2, 3] [] (.seq (.reg [
    .op (some 13) none (.mv (.tmp 1)),
    .op (some 14) none (.arith .add (.tmp 13) (.const (.int .i64 1))),
    .op (some 1) none (.mv (.tmp 14))])
  (.keep [1, 2, 3] [] (.seq (.reg [
    .op (some 15) none (.mv (.tmp 2)),
    .op (some 8) none (.mv (.tmp 15))])
  (.keep [1, 2, 3, 8] [] (.seq /- 3 -/ (.seq (.reg [
    .op (some 16) none (.faddr 6 (.tmp 3)),
    .op (some 17) none (.load false 1 (.tmp 16)),
    .op (some 18) none (.len (.tmp 17)),
    .op (some 19) none (.mv (.const (.int .i64 0)))])
  (.keep [1, 2, 8, 17, 18, 19] [] (rangeCC 0 19 18 20 1 (.seq (.reg [
      .op (some 21) none (.iaddr 7 (.tmp 17) (.tmp 19)),
      .op (some 22) none (.load true 7 (.tmp 21)),
      .op (some 10) none (.alloc ty_Cond [(.int .i64 0), (.string ⟨#[]⟩), (.string ⟨#[]⟩), (.string ⟨#[]⟩), (.string ⟨#[]⟩), (.bool false), (.slice none 0 0)]),
      .op none none (.store none 7 (.tmp 10) (.tmp 22))])
    (.keep [1, 2, 8, 10, 17, 18, 19] [10] (.seq /- 6 -/ (.seq (.reg [
      .op (some 23) none (.mv (.tmp 1)),
      .op (some 24) none (.cmp .gtr (.tmp 23) (.const (.int .i64 60)))])
    (.keep [1, 2, 8, 10, 17, 18, 19, 24] [10] (.ite (.tmp 24) (.exit 0)
      (.skip))))
    (.keep [1, 2, 8, 10, 17, 18, 19] [10] (.seq (.reg [
      .op (some 26) none (.load true 7 (.tmp 10)),
      .op (some 27) none (.mv (.tmp 1)),
      .op (some 28) none (.mv (.tmp 2)),
      .op (some 29) none (.arith .add (.tmp 28) (.const (.int .i64 1))),
      .op (some 30) none (.call f_condition_measure [(.tmp 26), (.tmp 27), (.tmp 29)]),
      .op (some 25) none (.mv (.tmp 30)),
      .op (some 31) none (.ext (.tmp 25) 0),
      .op (some 32) none (.ext (.tmp 25) 1),
      .op (some 11) none (.mv (.tmp 31)),
      .op (some 12) none (.mv (.tmp 32))])
    (.keep [2, 8, 11, 12, 17, 18, 19] [] (.reg [
      .op (some 33) none (.mv (.tmp 11)),
      .op (some 34) none (.mv (.tmp 8)),
      .op (some 35) none (.mv (.tmp 12)),
      .op (some 36) none (.mm true [(.tmp 34), (.tmp 35)]),
      .op (some 1) none (.mv (.tmp 33)),
      .op (some 8) none (.mv (.tmp 36))]))))))) 37)))
  (.keep [1, 8] [] (.seq (.reg [
    .op (some 38) none (.mv (.tmp 1)),
    .op (some 39) none (.mv (.tmp 8)),
    .op (some 6) none (.mv (.tmp 38)),
    .op (some 7) none (.mv (.tmp 39))])
  (.keep [6, 7] [] (.ret))))))))))
def rs_condition_measure : List CRes := [.tmp 6, .tmp 7]
def im_condition_measure : List Nat := [3]
theorem ok_condition_measure : FnOk Tryz.prog f_condition_measure im_condition_measure cc_condition_measure rs_condition_measure 40 := fnOk1 mixed (by kernel_rfl)
-- condition_walk range i=18 n=17 c=19 i2=28 id=0: live [1:f, 16:] changed [] res []
/-- corpora/condition.walk [Cond, func_Cond_Errno] -> [Errno] -/
def cc_condition_walk : CC :=
  .seq (.reg [
    .op (some 2) none (.box ty_Cond true (.tmp 0)),
    .op (some 4) none (.mv (.const (.int .i64 0)))])
  (.keep [1, 2] [] (.seq (.seq (.reg [
    .op (some 9) none (.mv (.tmp 1)),
    .op (some 10) none (.load true 7 (.tmp 2)),
    .op (some 11) none (.callv (.tmp 9) [(.tmp 10)]),
    .op (some 5) none (.mv (.tmp 11))])
  (.keep [1, 2, 5] [] (.seq (.reg [
    .op (some 12) none (.mv (.tmp 5)),
    .op (some 13) none (.eql true false [.int] (.tmp 12) (.const (.int .i64 0)))])
  (.keep [1, 2, 5, 13] [] (.ite (.tmp 13) (.seq (.reg [
      .op (some 14) none (.mv (.tmp 5)),
      .op (some 4) none (.mv (.tmp 14))])
    (.keep [4] [] (.ret)))
    (.skip))))))
  (.keep [1, 2] [] (.seq /- 5 -/ (.seq (.reg [
    .op (some 15) none (.faddr 6 (.tmp 2)),
    .op (some 16) none (.load false 1 (.tmp 15)),
    .op (some 17) none (.len (.tmp 16)),
    .op (some 18) none (.mv (.const (.int .i64 0)))])
  (.keep [1, 16, 17, 18] [] (rangeCC 0 18 17 19 1 (.seq (.reg [
      .op (some 20) none (.iaddr 7 (.tmp 16) (.tmp 18)),
      .op (some 21) none (.load true 7 (.tmp 20)),
      .op (some 7) none (.alloc ty_Cond [(.int .i64 0), (.string ⟨#[]⟩), (.string ⟨#[]⟩), (.string ⟨#[]⟩), (.string ⟨#[]⟩), (.bool false), (.slice none 0 0)]),
      .op none none (.store none 7 (.tmp 7) (.tmp 21))])
    (.keep [1, 7, 16, 17, 18] [7] (.seq (.reg [
      .op (some 22) none (.load true 7 (.tmp 7)),
      .op (some 23) none (.mv (.tmp 1)),
      .op (some 24) none (.call f_condition_walk [(.tmp 22), (.tmp 23)]),
      .op (some 8) none (.mv (.tmp 24))])
    (.keep [1, 8, 16, 17, 18] [] (.seq (.reg [
      .op (some 25) none (.mv (.tmp 8)),
      .op (some 26) none (.eql true false [.int] (.tmp 25) (.const (.int .i64 0)))])
    (.keep [1, 8, 16, 17, 18, 26] [] (.ite (.tmp 26) (.seq (.reg [
        .op (some 27) none (.mv (.tmp 8)),
        .op (some 4) none (.mv (.tmp 27))])
      (.keep [4] [] (.ret)))
      (.skip)))))))) 28)))
  (.keep [] [] (.seq (.reg [
    .op (some 4) none (.mv (.const (.int .i64 0)))])
  (.keep [4] [] (.ret))))))))
def rs_condition_walk : List CRes := [.tmp 4]
def im_condition_walk : List Nat := [2]
theorem ok_condition_walk : FnOk Tryz.prog f_condition_walk im_condition_walk cc_condition_walk rs_condition_walk 29 := fnOk1 mixed (by kernel_rfl)
/-- corpora/condition.Shape$1 [Cond] -> [Errno] -/
def cc_condition_Shape_1 : CC :=
  .seq (.reg [
    .op (some 1) none (.box ty_Cond true (.tmp 0)),
    .op (some 2) none (.mv (.const (.int .i64 0)))])
  (.keep [1] [] (.seq /- 1 -/ (.seq (.reg [
    .op (some 3) none (.load true 7 (.tmp 1)),
    .op (some 4) none (.call f_condition_shape [(.tmp 3)]),
    .op (some 5) none (.not (.tmp 4))])
  (.keep [5] [] (.ite (.tmp 5) (.seq (.reg [
      .op (some 2) none (.mv (.const (.int .i64 1)))])
    (.keep [2] [] (.ret)))
    (.skip))))
  (.keep [] [] (.seq (.reg [
    .op (some 2) none (.mv (.const (.int .i64 0)))])
  (.keep [2] [] (.ret))))))
def rs_condition_Shape_1 : List CRes := [.tmp 2]
def im_condition_Shape_1 : List Nat := [1]
theorem ok_condition_Shape_1 : FnOk Tryz.prog f_condition_Shape_1 im_condition_Shape_1 cc_condition_Shape_1 rs_condition_Shape_1 6 := fnOk1 mixed (by kernel_rfl)
/-- corpora/condition.shape [Cond] -> [bool] -/
def cc_condition_shape : CC :=
  .seq (.reg [
    .op (some 1) none (.box ty_Cond true (.tmp 0)),
    .op (some 2) none (.mv (.const (.bool false)))])
  (.keep [1] [] (.seq (.reg [
    .op (some 3) none (.mv (.const (.int .i64 0))),
    .op (some 4) none (.mv (.const (.int .i64 0)))])
  (.keep [1, 3, 4] [] (.seq (.reg [
    .op (some 6) none (.faddr 0 (.tmp 1)),
    .op (some 7) none (.load false 1 (.tmp 6)),
    .op (some 8) none (.build [(.int .i64 0), (.string ⟨#[]⟩), (.string ⟨#[]⟩), (.string ⟨#[]⟩), (.string ⟨#[]⟩), (.bool false), (.slice none 0 0)] [(0, 1, (.tmp 7))]),
    .op (some 5) none (.alloc ty_Cond [(.int .i64 0), (.string ⟨#[]⟩), (.string ⟨#[]⟩), (.string ⟨#[]⟩), (.string ⟨#[]⟩), (.bool false), (.slice none 0 0)]),
    .op none none (.store none 7 (.tmp 5) (.tmp 8))])
  (.keep [1, 3, 4, 5] [5] (.seq /- 3 -/ (.seq (.reg [
    .op (some 9) none (.faddr 0 (.tmp 1)),
    .op (some 10) none (.load false 1 (.tmp 9))])
  (.keep [1, 3, 4, 5, 10] [5] (.block 0 (.seq /- 5 -/ (.block 8 (.seq /- 6 -/ (.block 7 (.seq /- 7 -/ (.block 6 (.seq /- 8 -/ (.block 5 (.seq /- 9 -/ (.block 4 (.seq /- 10 -/ (.block 3 (.seq /- 11 -/ (.block 2 (.seq /- 12 -/ (.block 1 (.seq (.seq /- 14 -/ (.seq (.reg [
                      .op (some 12) none (.eql false false [.int] (.tmp 10) (.const (.int .i64 1))),
                      .op (some 11) none (.mv (.tmp 12))])
                    (.keep [1, 3, 4, 5, 10, 11] [5] (.ite (.tmp 11) (.exit 1)
                      (.skip))))
                    (.keep [1, 3, 4, 5, 10] [5] (.seq /- 16 -/ (.seq (.reg [
                      .op (some 14) none (.eql false false [.int] (.tmp 10) (.const (.int .i64 2))),
                      .op (some 13) none (.mv (.tmp 14))])
                    (.keep [1, 3, 4, 5, 10, 13] [5] (.ite (.tmp 13) (.exit 2)
                      (.skip))))
                    (.keep [1, 3, 4, 5, 10] [5] (.seq /- 18 -/ (.seq (.reg [
                      .op (some 16) none (.eql false false [.int] (.tmp 10) (.const (.int .i64 3))),
                      .op (some 15) none (.mv (.tmp 16))])
                    (.keep [1, 3, 4, 5, 10, 15] [5] (.ite (.tmp 15) (.exit 3)
                      (.skip))))
                    (.keep [1, 3, 4, 5, 10] [5] (.seq /- 20 -/ (.seq (.reg [
                      .op (some 18) none (.eql false false [.int] (.tmp 10) (.const (.int .i64 4))),
                      .op (some 17) none (.mv (.tmp 18))])
                    (.keep [1, 3, 4, 5, 10, 17] [5] (.ite (.tmp 17) (.exit 4)
                      (.skip))))
                    (.keep [1, 3, 4, 5, 10] [5] (.seq /- 22 -/ (.seq (.reg [
                      .op (some 20) none (.eql false false [.int] (.tmp 10) (.const (.int .i64 5))),
                      .op (some 19) none (.mv (.tmp 20))])
                    (.keep [1, 3, 4, 5, 10, 19] [5] (.ite (.tmp 19) (.exit 5)
                      (.skip))))
                    (.keep [1, 5, 10] [5] (.seq /- 24 -/ (.seq (.reg [
                      .op (some 22) none (.eql false false [.int] (.tmp 10) (.const (.int .i64 6))),
                      .op (some 21) none (.mv (.tmp 22))])
                    (.keep [1, 5, 10, 21] [5] (.ite (.tmp 21) (.exit 6)
                      (.skip))))
                    (.keep [1, 5, 10] [5] (.seq /- 26 -/ (.seq (.reg [
                      .op (some 24) none (.eql false false [.int] (.tmp 10) (.const (.int .i64 7))),
                      .op (some 23) none (.mv (.tmp 24))])
                    (.keep [1, 5, 10, 23] [5] (.ite (.tmp 23) (.skip)
                      (.reg [
                        .op (some 25) none (.eql false false [.int] (.tmp 10) (.const (.int .i64 8))),
                        .op (some 23) none (.mv (.tmp 25))]))))
                    (.keep [1, 5, 23] [5] (.ite (.tmp 23) (.exit 7)
                      (.skip))))))))))))))))
                    (.keep [] [] (.exit 8))))
                  (.keep [1, 3, 4, 5] [5] (.exit 0))))
                (.keep [1, 3, 4, 5] [5] (.reg [
                  .op (some 26) none (.faddr 5 (.tmp 1)),
                  .op (some 27) none (.load false 1 (.tmp 26)),
                  .op (some 28) none (.faddr 5 (.tmp 5)),
                  .op none none (.store none 1 (.tmp 28) (.tmp 27))]))))
              (.keep [1, 3, 4, 5] [5] (.seq (.regd [
                .op (some 29) none (.faddr 1 (.tmp 1)),
                .op (some 30) none (.load false 1 (.tmp 29)),
                .op (some 31) none (.faddr 3 (.tmp 1)),
                .op (some 32) none (.load false 1 (.tmp 31)),
                .op (some 33) none (.faddr 1 (.tmp 5)),
                .op none none (.store (some 5) 1 (.tmp 33) (.tmp 30))] [
                .op (some 34) none (.faddr 3 (.tmp 5)),
                .op none none (.store (some 5) 1 (.tmp 34) (.tmp 32))])
              (.keep [1, 3, 4, 5] [5] (.exit 0))))))
            (.keep [1, 3, 4, 5] [5] (.seq (.regd [
              .op (some 35) none (.faddr 1 (.tmp 1)),
              .op (some 36) none (.load false 1 (.tmp 35)),
              .op (some 37) none (.faddr 4 (.tmp 1)),
              .op (some 38) none (.load false 1 (.tmp 37)),
              .op (some 39) none (.faddr 2 (.tmp 1)),
              .op (some 40) none (.load false 1 (.tmp 39)),
              .op (some 41) none (.faddr 1 (.tmp 5)),
              .op none none (.store (some 5) 1 (.tmp 41) (.tmp 36)),
              .op (some 42) none (.faddr 4 (.tmp 5)),
              .op none none (.store (some 5) 1 (.tmp 42) (.tmp 38))] [
              .op (some 43) none (.faddr 2 (.tmp 5)),
              .op none none (.store (some 5) 1 (.tmp 43) (.tmp 40))])
            (.keep [1, 3, 4, 5] [5] (.exit 0))))))
          (.keep [1, 3, 4, 5] [5] (.seq (.seq (.regd [
            .op (some 44) none (.faddr 1 (.tmp 1)),
            .op (some 45) none (.load false 1 (.tmp 44)),
            .op (some 46) none (.faddr 2 (.tmp 1)),
            .op (some 47) none (.load false 1 (.tmp 46)),
            .op (some 48) none (.faddr 3 (.tmp 1)),
            .op (some 49) none (.load false 1 (.tmp 48)),
            .op (some 50) none (.faddr 1 (.tmp 5)),
            .op none none (.store (some 5) 1 (.tmp 50) (.tmp 45)),
            .op (some 51) none (.faddr 2 (.tmp 5)),
            .op none none (.store (some 5) 1 (.tmp 51) (.tmp 47))] [
            .op (some 52) none (.faddr 3 (.tmp 5)),
            .op none none (.store (some 5) 1 (.tmp 52) (.tmp 49))])
          (.keep [1, 3, 4, 5] [5] (.seq (.reg [
            .op (some 53) none (.faddr 2 (.tmp 1)),
            .op (some 54) none (.load false 1 (.tmp 53)),
            .op (some 55) none (.eql false false [.str] (.tmp 54) (.const (.string ⟨#[]⟩))),
            .op (some 56) none (.mv (.tmp 55)),
            .op (some 57) (some (56, true)) (.faddr 3 (.tmp 1)),
            .op (some 58) (some (56, true)) (.load false 1 (.tmp 57)),
            .op (some 59) (some (56, true)) (.eql true false [.str] (.tmp 58) (.const (.string ⟨#[]⟩))),
            .op (some 60) none (.pick (.tmp 56) (.tmp 59) (.const (.bool false)))])
          (.keep [1, 3, 4, 5, 60] [5] (.ite (.tmp 60) (.seq (.reg [
              .op (some 2) none (.mv (.const (.bool false)))])
            (.keep [2] [] (.ret)))
            (.skip))))))
          (.keep [1, 3, 4, 5] [5] (.exit 0))))))
        (.keep [1, 5] [5] (.seq (.reg [
          .op (some 3) none (.mv (.const (.int .i64 1))),
          .op (some 4) none (.mv (.const (.int .i64 1)))])
        (.keep [1, 3, 4, 5] [5] (.exit 0))))))
      (.keep [1, 5] [5] (.seq (.reg [
        .op (some 3) none (.mv (.const (.int .i64 2))),
        .op (some 4) none (.mv (.const (.int .i64 60)))])
      (.keep [1, 3, 4, 5] [5] (.exit 0))))))
    (.keep [] [] (.seq (.seq (.reg [
      .op (some 2) none (.mv (.const (.bool false)))])
    (.keep [2] [] (.ret)))
    (.keep [1, 3, 4, 5] [5] (.exit 0))))))))
  (.keep [1, 3, 4, 5] [5] (.seq (.reg [
    .op (some 61) none (.faddr 6 (.tmp 1)),
    .op (some 62) none (.load false 1 (.tmp 61)),
    .op (some 63) none (.len (.tmp 62)),
    .op (some 64) none (.mv (.tmp 3)),
    .op (some 65) none (.cmp .geq (.tmp 63) (.tmp 64)),
    .op (some 66) none (.mv (.tmp 65)),
    .op (some 67) (some (66, true)) (.faddr 6 (.tmp 1)),
    .op (some 68) (some (66, true)) (.load false 1 (.tmp 67)),
    .op (some 69) (some (66, true)) (.len (.tmp 68)),
    .op (some 70) (some (66, true)) (.mv (.tmp 4)),
    .op (some 71) (some (66, true)) (.cmp .leq (.tmp 69) (.tmp 70)),
    .op (some 72) none (.pick (.tmp 66) (.tmp 71) (.const (.bool false))),
    .op (some 73) none (.mv (.tmp 72)),
    .op (some 74) (some (73, true)) (.faddr 1 (.tmp 1)),
    .op (some 75) (some (73, true)) (.load false 1 (.tmp 74)),
    .op (some 76) (some (73, true)) (.faddr 1 (.tmp 5)),
    .op (some 77) (some (73, true)) (.load false 1 (.tmp 76)),
    .op (some 78) (some (73, true)) (.eql false false [.str] (.tmp 75) (.tmp 77)),
    .op (some 79) none (.pick (.tmp 73) (.tmp 78) (.const (.bool false))),
    .op (some 80) none (.mv (.tmp 79)),
    .op (some 81) (some (80, true)) (.faddr 2 (.tmp 1)),
    .op (some 82) (some (80, true)) (.load false 1 (.tmp 81)),
    .op (some 83) (some (80, true)) (.faddr 2 (.tmp 5)),
    .op (some 84) (some (80, true)) (.load false 1 (.tmp 83)),
    .op (some 85) (some (80, true)) (.eql false false [.str] (.tmp 82) (.tmp 84)),
    .op (some 86) none (.pick (.tmp 80) (.tmp 85) (.const (.bool false))),
    .op (some 87) none (.mv (.tmp 86)),
    .op (some 88) (some (87, true)) (.faddr 3 (.tmp 1)),
    .op (some 89) (some (87, true)) (.load false 1 (.tmp 88)),
    .op (some 90) (some (87, true)) (.faddr 3 (.tmp 5)),
    .op (some 91) (some (87, true)) (.load false 1 (.tmp 90)),
    .op (some 92) (some (87, true)) (.eql false false [.str] (.tmp 89) (.tmp 91)),
    .op (some 93) none (.pick (.tmp 87) (.tmp 92) (.const (.bool false))),
    .op (some 94) none (.mv (.tmp 93)),
    .op (some 95) (some (94, true)) (.faddr 4 (.tmp 1)),
    .op (some 96) (some (94, true)) (.load false 1 (.tmp 95)),
    .op (some 97) (some (94, true)) (.faddr 4 (.tmp 5)),
    .op (some 98) (some (94, true)) (.load false 1 (.tmp 97)),
    .op (some 99) (some (94, true)) (.eql false false [.str] (.tmp 96) (.tmp 98)),
    .op (some 100) none (.pick (.tmp 94) (.tmp 99) (.const (.bool false))),
    .op (some 101) none (.mv (.tmp 100)),
    .op (some 102) (some (101, true)) (.faddr 5 (.tmp 1)),
    .op (some 103) (some (101, true)) (.load false 1 (.tmp 102)),
    .op (some 104) (some (101, true)) (.faddr 5 (.tmp 5)),
    .op (some 105) (some (101, true)) (.load false 1 (.tmp 104)),
    .op (some 106) (some (101, true)) (.eql false false [.bool] (.tmp 103) (.tmp 105)),
    .op (some 107) none (.pick (.tmp 101) (.tmp 106) (.const (.bool false))),
    .op (some 2) none (.mv (.tmp 107))])
  (.keep [2] [] (.ret))))))))))
def rs_condition_shape : List CRes := [.tmp 2]
def im_condition_shape : List Nat := [1, 2034005, 2033005, 2043005, 2042005, 2041005, 2052005, 2051005, 2050005]
theorem ok_condition_shape : FnOk Tryz.prog f_condition_shape im_condition_shape cc_condition_shape rs_condition_shape 108 := fnOk1 mixed (by kernel_rfl)
-- query_writer_pattern range i=12 n=11 c=13 i2=50 id=1: live [2:w, 3:p, 10:] changed [] res [0, 4, 6]
/-- (*corpora/query.writer).pattern [P_query_writer, Pattern] -> [] -/
def cc_query_writer_pattern : CC :=
  .seq (.reg [
    .op (some 2) none (.box ty_P_query_writer true (.tmp 0)),
    .op (some 3) none (.box ty_Pattern true (.tmp 1))])
  (.keep [2, 3] [0, 900, 4, 6] (.seq (.reg [
    .op (some 7) none (.faddr 0 (.tmp 3)),
    .op (some 8) none (.load false 1 (.tmp 7))])
  (.keep [2, 3, 8] [0, 900, 4, 6] (.block 0 (.seq (.reg [
      .op (some 52) none (.eql false false [.int] (.tmp 8) (.const (.int .i64 1))),
      .op (some 51) none (.mv (.tmp 52))])
    (.keep [2, 3, 8, 51] [0, 900, 4, 6] (.ite (.tmp 51) (.reg [
        .op (some 53) none (.load false 1 (.tmp 2)),
        .op (some 54) none (.load true 13 (.tmp 3)),
        .op (some 55) none (.call f_query_writer_token [(.tmp 53), (.tmp 54)])])
      (.seq (.reg [
        .op (some 57) none (.eql false false [.int] (.tmp 8) (.const (.int .i64 2))),
        .op (some 56) none (.mv (.tmp 57))])
      (.keep [2, 3, 8, 56] [0, 900, 4, 6] (.ite (.tmp 56) (.regd [
          .op (some 58) none (.load false 1 (.tmp 2)),
          .op (some 59) none (.nilck (.tmp 58)),
          .op (some 60) none (.faddr 0 (.tmp 59)),
          .op (some 61) none (.faddr 9 (.tmp 3)),
          .op (some 62) none (.load false 1 (.tmp 61)),
          .op (some 63) none (.scat (.const (.string ⟨#[60]⟩)) (.tmp 62)),
          .op (some 64) none (.scat (.tmp 63) (.const (.string ⟨#[62]⟩)))] [
          .op (some 65) none (.call f_strings_Builder_WriteString [(.tmp 60), (.tmp 64)])])
        (.seq (.reg [
          .op (some 67) none (.eql false false [.int] (.tmp 8) (.const (.int .i64 3))),
          .op (some 66) none (.mv (.tmp 67))])
        (.keep [2, 3, 8, 66] [0, 900, 4, 6] (.ite (.tmp 66) (.regd [
            .op (some 68) none (.load false 1 (.tmp 2)),
            .op (some 69) none (.nilck (.tmp 68)),
            .op (some 70) none (.faddr 0 (.tmp 69)),
            .op (some 71) none (.faddr 9 (.tmp 3)),
            .op (some 72) none (.load false 1 (.tmp 71)),
            .op (some 73) none (.scat (.const (.string ⟨#[60, 47]⟩)) (.tmp 72)),
            .op (some 74) none (.scat (.tmp 73) (.const (.string ⟨#[62]⟩)))] [
            .op (some 75) none (.call f_strings_Builder_WriteString [(.tmp 70), (.tmp 74)])])
          (.seq (.reg [
            .op (some 77) none (.eql false false [.int] (.tmp 8) (.const (.int .i64 6))),
            .op (some 76) none (.mv (.tmp 77))])
          (.keep [2, 3, 76] [0, 900, 4, 6] (.ite (.tmp 76) (.seq (.reg [
              .op (some 78) none (.faddr 12 (.tmp 3)),
              .op (some 79) none (.load false 1 (.tmp 78)),
              .op (some 80) none (.iaddr 13 (.tmp 79) (.const (.int .i64 0))),
              .op (some 81) none (.load true 13 (.tmp 80)),
              .op (some 4) none (.alloc ty_Pattern [(.int .i64 0), (.int .i64 0), (.string ⟨#[]⟩), (.string ⟨#[]⟩), (.string ⟨#[]⟩), (.string ⟨#[]⟩), (.bool false), (.slice none 0 0), (.string ⟨#[]⟩), (.string ⟨#[]⟩), (.int .i64 0), (.int .i64 0), (.slice none 0 0)]),
              .op none none (.store none 13 (.tmp 4) (.tmp 81)), .frz 4 0])
            (.keep [2, 3, 4] [0, 900, 4, 6] (.seq (.reg [
              .op (some 82) none (.load false 1 (.tmp 2)),
              .op (some 83) none (.faddr 0 (.tmp 4)),
              .op (some 84) none (.load false 1 (.tmp 83)),
              .op (some 85) none (.eql false false [.int] (.tmp 84) (.const (.int .i64 5))),
              .op (some 86) none (.mv (.tmp 85)),
              .op (some 87) (some (86, false)) (.faddr 0 (.tmp 4)),
              .op (some 88) (some (86, false)) (.load false 1 (.tmp 87)),
              .op (some 89) (some (86, false)) (.eql false false [.int] (.tmp 88) (.const (.int .i64 4))),
              .op (some 90) none (.pick (.tmp 86) (.const (.bool true)) (.tmp 89)),
              .op (some 91) none (.clo f_query_writer_pattern_1 [(.tmp 2), (.tmp 4)]),
              .op (some 92) none (.call f_query_writer_in [(.tmp 82), (.tmp 90), (.tmp 91)])])
            (.keep [2, 3] [0, 900, 4, 6] (.regd [
              .op (some 93) none (.load false 1 (.tmp 2)),
              .op (some 94) none (.nilck (.tmp 93)),
              .op (some 95) none (.faddr 0 (.tmp 94)),
              .op (some 96) none (.faddr 10 (.tmp 3)),
              .op (some 97) none (.load false 1 (.tmp 96)),
              .op (some 98) none (.faddr 11 (.tmp 3)),
              .op (some 99) none (.load false 1 (.tmp 98)),
              .op (some 100) none (.call f_query_suffix [(.tmp 97), (.tmp 99)])] [
              .op (some 101) none (.call f_strings_Builder_WriteString [(.tmp 95), (.tmp 100)])])))))
            (.seq (.reg [
              .op (some 9) none (.faddr 12 (.tmp 3)),
              .op (some 10) none (.load false 1 (.tmp 9)),
              .op (some 11) none (.len (.tmp 10)),
              .op (some 12) none (.mv (.const (.int .i64 0)))])
            (.keep [2, 3, 10, 11, 12] [0, 900, 4, 6] (rangeCC 1 12 11 13 2 (.seq (.reg [
                .op (some 14) none (.mv (.tmp 12)),
                .op (some 15) none (.iaddr 13 (.tmp 10) (.tmp 12)),
                .op (some 16) none (.load true 13 (.tmp 15)),
                .op (some 6) none (.alloc ty_Pattern [(.int .i64 0), (.int .i64 0), (.string ⟨#[]⟩), (.string ⟨#[]⟩), (.string ⟨#[]⟩), (.string ⟨#[]⟩), (.bool false), (.slice none 0 0), (.string ⟨#[]⟩), (.string ⟨#[]⟩), (.int .i64 0), (.int .i64 0), (.slice none 0 0)]),
                .op (some 5) none (.mv (.tmp 14)),
                .op none none (.store none 13 (.tmp 6) (.tmp 16)), .frz 6 0])
              (.keep [2, 3, 5, 6, 10, 11, 12] [0, 900, 4, 6] (.seq /- 10 -/ (.seq (.reg [
                .op (some 17) none (.mv (.tmp 5)),
                .op (some 18) none (.cmp .gtr (.tmp 17) (.const (.int .i64 0))),
                .op (some 19) none (.mv (.tmp 18)),
                .op (some 20) (some (19, true)) (.faddr 0 (.tmp 3)),
                .op (some 21) (some (19, true)) (.load false 1 (.tmp 20)),
                .op (some 22) (some (19, true)) (.eql false false [.int] (.tmp 21) (.const (.int .i64 5))),
                .op (some 23) none (.pick (.tmp 19) (.tmp 22) (.const (.bool false)))])
              (.keep [2, 3, 5, 6, 10, 11, 12, 23] [0, 900, 4, 6] (.ite (.tmp 23) (.reg [
                  .op (some 24) none (.load false 1 (.tmp 2)),
                  .op (some 25) none (.nilck (.tmp 24)),
                  .op (some 26) none (.faddr 0 (.tmp 25)),
                  .op (some 27) none (.call f_strings_Builder_WriteString [(.tmp 26), (.const (.string ⟨#[32, 124]⟩))])])
                (.skip))))
              (.keep [2, 3, 5, 6, 10, 11, 12] [0, 900, 4, 6] (.seq /- 12 -/ (.seq (.reg [
                .op (some 28) none (.mv (.tmp 5)),
                .op (some 29) none (.cmp .gtr (.tmp 28) (.const (.int .i64 0)))])
              (.keep [2, 3, 6, 10, 11, 12, 29] [0, 900, 4, 6] (.ite (.tmp 29) (.reg [
                  .op (some 30) none (.load false 1 (.tmp 2)),
                  .op (some 31) none (.nilck (.tmp 30)),
                  .op (some 32) none (.faddr 0 (.tmp 31)),
                  .op (some 33) none (.call f_strings_Builder_WriteString [(.tmp 32), (.const (.string ⟨#[32]⟩))])])
                (.skip))))
              (.keep [2, 3, 6, 10, 11, 12] [0, 900, 4, 6] (.reg [
                .op (some 34) none (.load false 1 (.tmp 2)),
                .op (some 35) none (.faddr 0 (.tmp 6)),
                .op (some 36) none (.load false 1 (.tmp 35)),
                .op (some 37) none (.eql false false [.int] (.tmp 36) (.const (.int .i64 5))),
                .op (some 38) none (.mv (.tmp 37)),
                .op (some 39) (some (38, false)) (.faddr 0 (.tmp 6)),
                .op (some 40) (some (38, false)) (.load false 1 (.tmp 39)),
                .op (some 41) (some (38, false)) (.eql false false [.int] (.tmp 40) (.const (.int .i64 4))),
                .op (some 42) (some (38, false)) (.mv (.tmp 41)),
                .op (some 43) (some (42, true)) (.faddr 0 (.tmp 3)),
                .op (some 44) (some (42, true)) (.load false 1 (.tmp 43)),
                .op (some 45) (some (42, true)) (.eql false false [.int] (.tmp 44) (.const (.int .i64 4))),
                .op (some 46) (some (38, false)) (.pick (.tmp 42) (.tmp 45) (.const (.bool false))),
                .op (some 47) none (.pick (.tmp 38) (.const (.bool true)) (.tmp 46)),
                .op (some 48) none (.clo f_query_writer_pattern_2 [(.tmp 2), (.tmp 6)]),
                .op (some 49) none (.call f_query_writer_in [(.tmp 34), (.tmp 47), (.tmp 48)])]))))))) 50)))))))))))))))))))
def rs_query_writer_pattern : List CRes := []
def im_query_writer_pattern : List Nat := [3, 2]
theorem ok_query_writer_pattern : FnOk Tryz.prog f_query_writer_pattern im_query_writer_pattern cc_query_writer_pattern rs_query_writer_pattern 102 := fnOk1 mixed (by kernel_rfl)
/-- (*corpora/query.writer).pattern$2 [] -> [] -/
def cc_query_writer_pattern_2 : CC :=
  .reg [
    .op (some 2) none (.load false 1 (.tmp 0)),
    .op (some 3) none (.load true 13 (.tmp 1)),
    .op (some 4) none (.call f_query_writer_pattern [(.tmp 2), (.tmp 3)])]
def rs_query_writer_pattern_2 : List CRes := []
def im_query_writer_pattern_2 : List Nat := []
theorem ok_query_writer_pattern_2 : FnOk Tryz.prog f_query_writer_pattern_2 im_query_writer_pattern_2 cc_query_writer_pattern_2 rs_query_writer_pattern_2 5 := fnOk1 mixed (by kernel_rfl)
/-- (*corpora/query.writer).in [P_query_writer, bool, func_] -> [] -/
def cc_query_writer_in : CC :=
  .seq /- 0 -/ (.seq (.reg [
    .op (some 6) none (.mv (.tmp 1))])
  ((.ite (.tmp 6) (.reg [
      .op (some 7) none (.mv (.tmp 0)),
      .op (some 8) none (.nilck (.tmp 7)),
      .op (some 9) none (.faddr 0 (.tmp 8)),
      .op (some 10) none (.call f_strings_Builder_WriteString [(.tmp 9), (.const (.string ⟨#[40]⟩))])])
    (.skip))))
  ((.seq (.reg [
    .op (some 11) none (.mv (.tmp 2)),
    .op (some 12) none (.callv (.tmp 11) [])])
  ((.seq (.reg [
    .op (some 13) none (.mv (.tmp 1))])
  ((.ite (.tmp 13) (.reg [
      .op (some 14) none (.mv (.tmp 0)),
      .op (some 15) none (.nilck (.tmp 14)),
      .op (some 16) none (.faddr 0 (.tmp 15)),
      .op (some 17) none (.call f_strings_Builder_WriteString [(.tmp 16), (.const (.string ⟨#[41]⟩))])])
    (.skip)))))))
def rs_query_writer_in : List CRes := []
def im_query_writer_in : List Nat := []
theorem ok_query_writer_in : FnOk Tryz.prog f_query_writer_in im_query_writer_in cc_query_writer_in rs_query_writer_in 18 := fnOk1 mixed (by kernel_rfl)
/-- (*corpora/query.writer).token [P_query_writer, Pattern] -> [] -/
def cc_query_writer_token : CC :=
  .seq (.reg [
    .op (some 3) none (.box ty_Pattern true (.tmp 1))])
  (.keep [0, 3] [0, 900] (.seq /- 1 -/ (.seq (.reg [
    .op (some 5) none (.faddr 8 (.tmp 3)),
    .op (some 6) none (.load false 1 (.tmp 5)),
    .op (some 7) none (.eql true false [.str] (.tmp 6) (.const (.string ⟨#[]⟩)))])
  (.keep [0, 3, 7] [0, 900] (.ite (.tmp 7) (.regd [
      .op (some 8) none (.mv (.tmp 0)),
      .op (some 9) none (.nilck (.tmp 8)),
      .op (some 10) none (.faddr 0 (.tmp 9)),
      .op (some 11) none (.faddr 8 (.tmp 3)),
      .op (some 12) none (.load false 1 (.tmp 11)),
      .op (some 13) none (.scat (.tmp 12) (.const (.string ⟨#[58]⟩)))] [
      .op (some 14) none (.call f_strings_Builder_WriteString [(.tmp 10), (.tmp 13)])])
    (.skip))))
  (.keep [0, 3] [0, 900] (.seq (.seq (.reg [
    .op (some 15) none (.faddr 1 (.tmp 3)),
    .op (some 16) none (.faddr 0 (.tmp 15)),
    .op (some 17) none (.load false 1 (.tmp 16)),
    .op (some 18) none (.eql false false [.int] (.tmp 17) (.const (.int .i64 1))),
    .op (some 19) none (.mv (.tmp 18)),
    .op (some 20) (some (19, false)) (.faddr 1 (.tmp 3)),
    .op (some 21) (some (19, false)) (.faddr 0 (.tmp 20)),
    .op (some 22) (some (19, false)) (.load false 1 (.tmp 21)),
    .op (some 23) (some (19, false)) (.eql false false [.int] (.tmp 22) (.const (.int .i64 2))),
    .op (some 24) (some (19, false)) (.mv (.tmp 23)),
    .op (some 25) (some (24, true)) (.faddr 1 (.tmp 3)),
    .op (some 26) (some (24, true)) (.faddr 1 (.tmp 25)),
    .op (some 27) (some (24, true)) (.load false 1 (.tmp 26)),
    .op (some 28) (some (24, true)) (.eql false false [.str] (.tmp 27) (.const (.string ⟨#[]⟩))),
    .op (some 29) (some (19, false)) (.pick (.tmp 24) (.tmp 28) (.const (.bool false))),
    .op (some 30) none (.pick (.tmp 19) (.const (.bool true)) (.tmp 29)),
    .op (some 4) none (.mv (.tmp 30))])
  (.keep [0, 3, 4] [0, 900] (.seq (.reg [
    .op (some 31) none (.mv (.tmp 4))])
  (.keep [0, 3, 31] [0, 900] (.ite (.tmp 31) (.seq (.reg [
      .op (some 32) none (.mv (.tmp 0)),
      .op (some 33) none (.faddr 1 (.tmp 3)),
      .op (some 34) none (.load true 7 (.tmp 33)),
      .op (some 35) none (.call f_query_writer_cond [(.tmp 32), (.tmp 34)])])
    (.keep [] [0, 900] (.ret)))
    (.skip))))))
  (.keep [0, 3] [0, 900] (.seq (.reg [
    .op (some 36) none (.mv (.tmp 0)),
    .op (some 37) none (.nilck (.tmp 36)),
    .op (some 38) none (.faddr 0 (.tmp 37)),
    .op (some 39) none (.call f_strings_Builder_WriteString [(.tmp 38), (.const (.string ⟨#[91]⟩))])])
  (.keep [0, 3] [0, 900] (.seq (.reg [
    .op (some 40) none (.mv (.tmp 0)),
    .op (some 41) none (.faddr 1 (.tmp 3)),
    .op (some 42) none (.load true 7 (.tmp 41)),
    .op (some 43) none (.call f_query_writer_cond [(.tmp 40), (.tmp 42)])])
  (.keep [0] [0, 900] (.reg [
    .op (some 44) none (.mv (.tmp 0)),
    .op (some 45) none (.nilck (.tmp 44)),
    .op (some 46) none (.faddr 0 (.tmp 45)),
    .op (some 47) none (.call f_strings_Builder_WriteString [(.tmp 46), (.const (.string ⟨#[93]⟩))])]))))))))))
def rs_query_writer_token : List CRes := []
def im_query_writer_token : List Nat := [3]
theorem ok_query_writer_token : FnOk Tryz.prog f_query_writer_token im_query_writer_token cc_query_writer_token rs_query_writer_token 48 := fnOk1 mixed (by kernel_rfl)
-- query_writer_cond range i=12 n=11 c=13 i2=45 id=1: live [2:w, 3:x, 10:] changed [] res [0, 4, 6]
/-- (*corpora/query.writer).cond [P_query_writer, Cond] -> [] -/
def cc_query_writer_cond : CC :=
  .seq (.reg [
    .op (some 2) none (.box ty_P_query_writer true (.tmp 0)),
    .op (some 3) none (.box ty_Cond true (.tmp 1))])
  (.keep [2, 3] [0, 900, 4, 6] (.seq (.reg [
    .op (some 7) none (.faddr 0 (.tmp 3)),
    .op (some 8) none (.load false 1 (.tmp 7))])
  (.keep [2, 3, 8] [0, 900, 4, 6] (.block 0 (.seq (.reg [
      .op (some 47) none (.eql false false [.int] (.tmp 8) (.const (.int .i64 1))),
      .op (some 46) none (.mv (.tmp 47))])
    (.keep [2, 3, 8, 46] [0, 900, 4, 6] (.ite (.tmp 46) (.reg [
        .op (some 48) none (.load false 1 (.tmp 2)),
        .op (some 49) none (.nilck (.tmp 48)),
        .op (some 50) none (.faddr 0 (.tmp 49)),
        .op (some 51) none (.call f_strings_Builder_WriteString [(.tmp 50), (.const (.string ⟨#[91, 93]⟩))])])
      (.seq (.reg [
        .op (some 53) none (.eql false false [.int] (.tmp 8) (.const (.int .i64 2))),
        .op (some 52) none (.mv (.tmp 53))])
      (.keep [2, 3, 8, 52] [0, 900, 4, 6] (.ite (.tmp 52) (.seq /- 4 -/ (.seq (.reg [
          .op (some 54) none (.faddr 1 (.tmp 3)),
          .op (some 55) none (.load false 1 (.tmp 54)),
          .op (some 56) none (.eql true false [.str] (.tmp 55) (.const (.string ⟨#[]⟩)))])
        (.keep [2, 3, 56] [0, 900, 4, 6] (.ite (.tmp 56) (.regd [
            .op (some 57) none (.load false 1 (.tmp 2)),
            .op (some 58) none (.nilck (.tmp 57)),
            .op (some 59) none (.faddr 0 (.tmp 58)),
            .op (some 60) none (.faddr 1 (.tmp 3)),
            .op (some 61) none (.load false 1 (.tmp 60)),
            .op (some 62) none (.scat (.tmp 61) (.const (.string ⟨#[61]⟩)))] [
            .op (some 63) none (.call f_strings_Builder_WriteString [(.tmp 59), (.tmp 62)])])
          (.skip))))
        (.keep [2, 3] [0, 900, 4, 6] (.reg [
          .op (some 64) none (.load false 1 (.tmp 2)),
          .op (some 65) none (.faddr 3 (.tmp 3)),
          .op (some 66) none (.load false 1 (.tmp 65)),
          .op (some 67) none (.faddr 5 (.tmp 3)),
          .op (some 68) none (.load false 1 (.tmp 67)),
          .op (some 69) none (.call f_query_writer_value [(.tmp 64), (.tmp 66), (.tmp 68)])])))
        (.seq (.reg [
          .op (some 71) none (.eql false false [.int] (.tmp 8) (.const (.int .i64 3))),
          .op (some 70) none (.mv (.tmp 71))])
        (.keep [2, 3, 8, 70] [0, 900, 4, 6] (.ite (.tmp 70) (.seq (.regd [
            .op (some 72) none (.load false 1 (.tmp 2)),
            .op (some 73) none (.nilck (.tmp 72)),
            .op (some 74) none (.faddr 0 (.tmp 73)),
            .op (some 75) none (.faddr 1 (.tmp 3)),
            .op (some 76) none (.load false 1 (.tmp 75)),
            .op (some 77) none (.scat (.tmp 76) (.const (.string ⟨#[32, 99, 111, 110, 116, 97, 105, 110, 115, 32]⟩)))] [
            .op (some 78) none (.call f_strings_Builder_WriteString [(.tmp 74), (.tmp 77)])])
          (.keep [2, 3] [0, 900, 4, 6] (.reg [
            .op (some 79) none (.load false 1 (.tmp 2)),
            .op (some 80) none (.faddr 3 (.tmp 3)),
            .op (some 81) none (.load false 1 (.tmp 80)),
            .op (some 82) none (.call f_query_writer_str [(.tmp 79), (.tmp 81)])])))
          (.seq (.reg [
            .op (some 84) none (.eql false false [.int] (.tmp 8) (.const (.int .i64 4))),
            .op (some 83) none (.mv (.tmp 84))])
          (.keep [2, 3, 8, 83] [0, 900, 4, 6] (.ite (.tmp 83) (.regd [
              .op (some 85) none (.load false 1 (.tmp 2)),
              .op (some 86) none (.nilck (.tmp 85)),
              .op (some 87) none (.faddr 0 (.tmp 86)),
              .op (some 88) none (.faddr 1 (.tmp 3)),
              .op (some 89) none (.load false 1 (.tmp 88)),
              .op (some 90) none (.scat (.tmp 89) (.const (.string ⟨#[61]⟩))),
              .op (some 91) none (.faddr 4 (.tmp 3)),
              .op (some 92) none (.load false 1 (.tmp 91)),
              .op (some 93) none (.scat (.tmp 90) (.tmp 92)),
              .op (some 94) none (.scat (.tmp 93) (.const (.string ⟨#[46]⟩))),
              .op (some 95) none (.faddr 2 (.tmp 3)),
              .op (some 96) none (.load false 1 (.tmp 95)),
              .op (some 97) none (.scat (.tmp 94) (.tmp 96))] [
              .op (some 98) none (.call f_strings_Builder_WriteString [(.tmp 87), (.tmp 97)])])
            (.seq (.reg [
              .op (some 100) none (.eql false false [.int] (.tmp 8) (.const (.int .i64 5))),
              .op (some 99) none (.mv (.tmp 100))])
            (.keep [2, 3, 8, 99] [0, 900, 4, 6] (.ite (.tmp 99) (.seq (.regd [
                .op (some 101) none (.load false 1 (.tmp 2)),
                .op (some 102) none (.nilck (.tmp 101)),
                .op (some 103) none (.faddr 0 (.tmp 102)),
                .op (some 104) none (.faddr 1 (.tmp 3)),
                .op (some 105) none (.load false 1 (.tmp 104)),
                .op (some 106) none (.scat (.const (.string ⟨#[105, 110, 40]⟩)) (.tmp 105))] [
                .op (some 107) none (.call f_strings_Builder_WriteString [(.tmp 103), (.tmp 106)])])
              (.keep [2, 3] [0, 900, 4, 6] (.seq /- 11 -/ (.seq (.reg [
                .op (some 108) none (.faddr 2 (.tmp 3)),
                .op (some 109) none (.load false 1 (.tmp 108)),
                .op (some 110) none (.eql true false [.str] (.tmp 109) (.const (.string ⟨#[]⟩)))])
              (.keep [2, 3, 110] [0, 900, 4, 6] (.ite (.tmp 110) (.seq (.regd [
                  .op (some 111) none (.load false 1 (.tmp 2)),
                  .op (some 112) none (.nilck (.tmp 111)),
                  .op (some 113) none (.faddr 0 (.tmp 112)),
                  .op (some 114) none (.faddr 2 (.tmp 3)),
                  .op (some 115) none (.load false 1 (.tmp 114)),
                  .op (some 116) none (.scat (.const (.string ⟨#[44]⟩)) (.tmp 115)),
                  .op (some 117) none (.scat (.tmp 116) (.const (.string ⟨#[61]⟩)))] [
                  .op (some 118) none (.call f_strings_Builder_WriteString [(.tmp 113), (.tmp 117)])])
                (.keep [2, 3] [0, 900, 4, 6] (.reg [
                  .op (some 119) none (.load false 1 (.tmp 2)),
                  .op (some 120) none (.faddr 3 (.tmp 3)),
                  .op (some 121) none (.load false 1 (.tmp 120)),
                  .op (some 122) none (.call f_query_writer_str [(.tmp 119), (.tmp 121)])])))
                (.skip))))
              (.keep [2] [0, 900, 4, 6] (.reg [
                .op (some 123) none (.load false 1 (.tmp 2)),
                .op (some 124) none (.nilck (.tmp 123)),
                .op (some 125) none (.faddr 0 (.tmp 124)),
                .op (some 126) none (.call f_strings_Builder_WriteString [(.tmp 125), (.const (.string ⟨#[41]⟩))])])))))
              (.seq (.reg [
                .op (some 128) none (.eql false false [.int] (.tmp 8) (.const (.int .i64 6))),
                .op (some 127) none (.mv (.tmp 128))])
              (.keep [2, 3, 127] [0, 900, 4, 6] (.ite (.tmp 127) (.seq (.reg [
                  .op (some 129) none (.faddr 6 (.tmp 3)),
                  .op (some 130) none (.load false 1 (.tmp 129)),
                  .op (some 131) none (.iaddr 7 (.tmp 130) (.const (.int .i64 0))),
                  .op (some 132) none (.load true 7 (.tmp 131)),
                  .op (some 4) none (.alloc ty_Cond [(.int .i64 0), (.string ⟨#[]⟩), (.string ⟨#[]⟩), (.string ⟨#[]⟩), (.string ⟨#[]⟩), (.bool false), (.slice none 0 0)]),
                  .op none none (.store none 7 (.tmp 4) (.tmp 132)), .frz 4 0])
                (.keep [2, 4] [0, 900, 4, 6] (.seq (.reg [
                  .op (some 133) none (.load false 1 (.tmp 2)),
                  .op (some 134) none (.nilck (.tmp 133)),
                  .op (some 135) none (.faddr 0 (.tmp 134)),
                  .op (some 136) none (.call f_strings_Builder_WriteString [(.tmp 135), (.const (.string ⟨#[33]⟩))])])
                (.keep [2, 4] [0, 900, 4, 6] (.reg [
                  .op (some 137) none (.load false 1 (.tmp 2)),
                  .op (some 138) none (.faddr 0 (.tmp 4)),
                  .op (some 139) none (.load false 1 (.tmp 138)),
                  .op (some 140) none (.eql false false [.int] (.tmp 139) (.const (.int .i64 8))),
                  .op (some 141) none (.mv (.tmp 140)),
                  .op (some 142) (some (141, false)) (.faddr 0 (.tmp 4)),
                  .op (some 143) (some (141, false)) (.load false 1 (.tmp 142)),
                  .op (some 144) (some (141, false)) (.eql false false [.int] (.tmp 143) (.const (.int .i64 7))),
                  .op (some 145) none (.pick (.tmp 141) (.const (.bool true)) (.tmp 144)),
                  .op (some 146) none (.clo f_query_writer_cond_1 [(.tmp 2), (.tmp 4)]),
                  .op (some 147) none (.call f_query_writer_in [(.tmp 137), (.tmp 145), (.tmp 146)])])))))
                (.seq (.reg [
                  .op (some 9) none (.faddr 6 (.tmp 3)),
                  .op (some 10) none (.load false 1 (.tmp 9)),
                  .op (some 11) none (.len (.tmp 10)),
                  .op (some 12) none (.mv (.const (.int .i64 0)))])
                (.keep [2, 3, 10, 11, 12] [0, 900, 4, 6] (rangeCC 1 12 11 13 2 (.seq (.reg [
                    .op (some 14) none (.mv (.tmp 12)),
                    .op (some 15) none (.iaddr 7 (.tmp 10) (.tmp 12)),
                    .op (some 16) none (.load true 7 (.tmp 15)),
                    .op (some 6) none (.alloc ty_Cond [(.int .i64 0), (.string ⟨#[]⟩), (.string ⟨#[]⟩), (.string ⟨#[]⟩), (.string ⟨#[]⟩), (.bool false), (.slice none 0 0)]),
                    .op (some 5) none (.mv (.tmp 14)),
                    .op none none (.store none 7 (.tmp 6) (.tmp 16)), .frz 6 0])
                  (.keep [2, 3, 5, 6, 10, 11, 12] [0, 900, 4, 6] (.seq /- 19 -/ (.seq (.reg [
                    .op (some 17) none (.mv (.tmp 5)),
                    .op (some 18) none (.cmp .gtr (.tmp 17) (.const (.int .i64 0)))])
                  (.keep [2, 3, 6, 10, 11, 12, 18] [0, 900, 4, 6] (.ite (.tmp 18) (.regd [
                      .op (some 19) none (.load false 1 (.tmp 2)),
                      .op (some 20) none (.nilck (.tmp 19)),
                      .op (some 21) none (.faddr 0 (.tmp 20)),
                      .op (some 22) none (.bslice ty_string 1 [(.const (.string ⟨#[32, 38, 32]⟩)), (.const (.string ⟨#[32, 124, 32]⟩))]),
                      .op (some 23) none (.faddr 0 (.tmp 3)),
                      .op (some 24) none (.load false 1 (.tmp 23)),
                      .op (some 25) none (.arith .sub (.tmp 24) (.const (.int .i64 7))),
                      .op (some 26) none (.iaddr 1 (.tmp 22) (.tmp 25)),
                      .op (some 27) none (.load false 1 (.tmp 26))] [
                      .op (some 28) none (.call f_strings_Builder_WriteString [(.tmp 21), (.tmp 27)])])
                    (.skip))))
                  (.keep [2, 3, 6, 10, 11, 12] [0, 900, 4, 6] (.reg [
                    .op (some 29) none (.load false 1 (.tmp 2)),
                    .op (some 30) none (.faddr 0 (.tmp 6)),
                    .op (some 31) none (.load false 1 (.tmp 30)),
                    .op (some 32) none (.eql false false [.int] (.tmp 31) (.const (.int .i64 8))),
                    .op (some 33) none (.mv (.tmp 32)),
                    .op (some 34) (some (33, false)) (.faddr 0 (.tmp 6)),
                    .op (some 35) (some (33, false)) (.load false 1 (.tmp 34)),
                    .op (some 36) (some (33, false)) (.eql false false [.int] (.tmp 35) (.const (.int .i64 7))),
                    .op (some 37) (some (33, false)) (.mv (.tmp 36)),
                    .op (some 38) (some (37, true)) (.faddr 0 (.tmp 3)),
                    .op (some 39) (some (37, true)) (.load false 1 (.tmp 38)),
                    .op (some 40) (some (37, true)) (.eql false false [.int] (.tmp 39) (.const (.int .i64 7))),
                    .op (some 41) (some (33, false)) (.pick (.tmp 37) (.tmp 40) (.const (.bool false))),
                    .op (some 42) none (.pick (.tmp 33) (.const (.bool true)) (.tmp 41)),
                    .op (some 43) none (.clo f_query_writer_cond_2 [(.tmp 2), (.tmp 6)]),
                    .op (some 44) none (.call f_query_writer_in [(.tmp 29), (.tmp 42), (.tmp 43)])]))))) 45)))))))))))))))))))))))))
def rs_query_writer_cond : List CRes := []
def im_query_writer_cond : List Nat := [3, 2]
theorem ok_query_writer_cond : FnOk Tryz.prog f_query_writer_cond im_query_writer_cond cc_query_writer_cond rs_query_writer_cond 148 := fnOk1 mixed (by kernel_rfl)
/-- (*corpora/query.writer).value [P_query_writer, string, bool] -> [] -/
def cc_query_writer_value : CC :=
  .seq (.reg [
    .op (some 6) none (.mv (.tmp 0)),
    .op (some 7) none (.mv (.tmp 1)),
    .op (some 8) none (.call f_query_writer_str [(.tmp 6), (.tmp 7)])])
  (.keep [0, 2] [0, 900] (.seq (.reg [
    .op (some 9) none (.mv (.tmp 2))])
  (.keep [0, 9] [0, 900] (.ite (.tmp 9) (.reg [
      .op (some 10) none (.mv (.tmp 0)),
      .op (some 11) none (.nilck (.tmp 10)),
      .op (some 12) none (.faddr 0 (.tmp 11)),
      .op (some 13) none (.call f_strings_Builder_WriteString [(.tmp 12), (.const (.string ⟨#[37, 99]⟩))])])
    (.skip)))))
def rs_query_writer_value : List CRes := []
def im_query_writer_value : List Nat := []
theorem ok_query_writer_value : FnOk Tryz.prog f_query_writer_value im_query_writer_value cc_query_writer_value rs_query_writer_value 14 := fnOk1 mixed (by kernel_rfl)
/-- (*corpora/query.writer).str [P_query_writer, string] -> [] -/
def cc_query_writer_str : CC :=
  .regd [
    .op (some 4) none (.mv (.tmp 0)),
    .op (some 5) none (.nilck (.tmp 4)),
    .op (some 6) none (.faddr 0 (.tmp 5)),
    .op (some 7) none (.mv (.tmp 1)),
    .op (some 8) none (.call f_strings_ReplaceAll [(.tmp 7), (.const (.string ⟨#[34]⟩)), (.const (.string ⟨#[34, 34]⟩))]),
    .op (some 9) none (.scat (.const (.string ⟨#[34]⟩)) (.tmp 8)),
    .op (some 10) none (.scat (.tmp 9) (.const (.string ⟨#[34]⟩)))] [
    .op (some 11) none (.call f_strings_Builder_WriteString [(.tmp 6), (.tmp 10)])]
def rs_query_writer_str : List CRes := []
def im_query_writer_str : List Nat := []
theorem ok_query_writer_str : FnOk Tryz.prog f_query_writer_str im_query_writer_str cc_query_writer_str rs_query_writer_str 12 := fnOk1 mixed (by kernel_rfl)
/-- strings.ReplaceAll [string, string, string] -> [string] -/
def cc_strings_ReplaceAll : CC :=
  .seq (.reg [
    .op (some 6) none (.mv (.const (.string ⟨#[]⟩)))])
  (.keep [0, 1, 2] [] (.seq (.reg [
    .op (some 7) none (.mv (.tmp 0)),
    .op (some 8) none (.mv (.tmp 1)),
    .op (some 9) none (.mv (.tmp 2)),
    .op (some 10) none (.call f_strings_Replace [(.tmp 7), (.tmp 8), (.tmp 9), (.const (.int .i64 (-1)))]),
    .op (some 6) none (.mv (.tmp 10))])
  (.keep [6] [] (.ret))))
def rs_strings_ReplaceAll : List CRes := [.tmp 6]
def im_strings_ReplaceAll : List Nat := []
theorem ok_strings_ReplaceAll : FnOk Tryz.prog f_strings_ReplaceAll im_strings_ReplaceAll cc_strings_ReplaceAll rs_strings_ReplaceAll 11 := fnOk1 mixed (by kernel_rfl)
-- strings_Replace range i=53 n=52 c=54 i2=73 id=0: live [0:s, 1:old, 2:new, 10:b, 11:start] changed [11] res [10]
-- strings_Replace range i=78 n=77 c=79 i2=98 id=2: live [0:s, 2:new, 10:b, 11:start] changed [11] res [10]
/-- strings.Replace [string, string, string, int] -> [string] -/
def cc_strings_Replace : CC :=
  .seq (.reg [
    .op (some 8) none (.mv (.const (.string ⟨#[]⟩)))])
  (.keep [0, 1, 2, 3] [] (.seq /- 1 -/ (.seq (.reg [
    .op (some 16) none (.mv (.tmp 1)),
    .op (some 17) none (.mv (.tmp 2)),
    .op (some 18) none (.eql false false [.str] (.tmp 16) (.tmp 17)),
    .op (some 19) none (.mv (.tmp 18)),
    .op (some 20) (some (19, false)) (.mv (.tmp 3)),
    .op (some 21) (some (19, false)) (.eql false false [.int] (.tmp 20) (.const (.int .i64 0))),
    .op (some 22) none (.pick (.tmp 19) (.const (.bool true)) (.tmp 21))])
  (.keep [0, 1, 2, 3, 22] [] (.ite (.tmp 22) (.seq (.reg [
      .op (some 23) none (.mv (.tmp 0)),
      .op (some 8) none (.mv (.tmp 23))])
    (.keep [8] [10] (.ret)))
    (.skip))))
  (.keep [0, 1, 2, 3] [] (.seq (.seq (.reg [
    .op (some 24) none (.mv (.tmp 0)),
    .op (some 25) none (.mv (.tmp 1)),
    .op (some 26) none (.call f_strings_Count [(.tmp 24), (.tmp 25)]),
    .op (some 9) none (.mv (.tmp 26))])
  (.keep [0, 1, 2, 3, 9] [] (.seq (.reg [
    .op (some 27) none (.mv (.tmp 9)),
    .op (some 28) none (.eql false false [.int] (.tmp 27) (.const (.int .i64 0)))])
  (.keep [0, 1, 2, 3, 9, 28] [] (.ite (.tmp 28) (.seq (.reg [
      .op (some 29) none (.mv (.tmp 0)),
      .op (some 8) none (.mv (.tmp 29))])
    (.keep [8] [10] (.ret)))
    (.seq (.reg [
      .op (some 30) none (.mv (.tmp 3)),
      .op (some 31) none (.cmp .lss (.tmp 30) (.const (.int .i64 0))),
      .op (some 32) none (.mv (.tmp 31)),
      .op (some 33) (some (32, false)) (.mv (.tmp 9)),
      .op (some 34) (some (32, false)) (.mv (.tmp 3)),
      .op (some 35) (some (32, false)) (.cmp .lss (.tmp 33) (.tmp 34)),
      .op (some 36) none (.pick (.tmp 32) (.const (.bool true)) (.tmp 35))])
    (.keep [0, 1, 2, 3, 9, 36] [] (.ite (.tmp 36) (.reg [
        .op (some 37) none (.mv (.tmp 9)),
        .op (some 3) none (.mv (.tmp 37))])
      (.skip)))))))))
  (.keep [0, 1, 2, 3] [] (.seq (.reg [
    .op (some 10) none (.alloc ty_strings_Builder [(.pointer none), (.slice none 0 0)])])
  (.keep [0, 1, 2, 3, 10] [10] (.seq (.reg [
    .op (some 38) none (.mv (.tmp 0)),
    .op (some 39) none (.slen (.tmp 38)),
    .op (some 40) none (.mv (.tmp 3)),
    .op (some 41) none (.mv (.tmp 2)),
    .op (some 42) none (.slen (.tmp 41)),
    .op (some 43) none (.mv (.tmp 1)),
    .op (some 44) none (.slen (.tmp 43)),
    .op (some 45) none (.arith .sub (.tmp 42) (.tmp 44)),
    .op (some 46) none (.arith .mul (.tmp 40) (.tmp 45)),
    .op (some 47) none (.arith .add (.tmp 39) (.tmp 46)),
    .op (some 48) none (.call f_strings_Builder_Grow [(.tmp 10), (.tmp 47)])])
  (.keep [0, 1, 2, 3, 10] [10] (.seq (.reg [
    .op (some 11) none (.mv (.const (.int .i64 0)))])
  (.keep [0, 1, 2, 3, 10, 11] [10] (.seq /- 12 -/ (.seq (.reg [
    .op (some 49) none (.mv (.tmp 1)),
    .op (some 50) none (.slen (.tmp 49)),
    .op (some 51) none (.cmp .gtr (.tmp 50) (.const (.int .i64 0)))])
  (.keep [0, 1, 2, 3, 10, 11, 51] [10] (.ite (.tmp 51) (.seq (.reg [
      .op (some 52) none (.mv (.tmp 3)),
      .op (some 53) none (.mv (.const (.int .i64 0)))])
    (.keep [0, 1, 2, 10, 11, 52, 53] [10] (rangeCC 0 53 52 54 1 (.seq (.reg [
        .op (some 55) none (.mv (.tmp 11)),
        .op (some 56) none (.mv (.tmp 0)),
        .op (some 57) none (.mv (.tmp 11)),
        .op (some 58) none (.sslice (.tmp 56) (some (.tmp 57)) none),
        .op (some 59) none (.mv (.tmp 1)),
        .op (some 60) none (.call f_strings_Index [(.tmp 58), (.tmp 59)]),
        .op (some 61) none (.arith .add (.tmp 55) (.tmp 60)),
        .op (some 12) none (.mv (.tmp 61))])
      (.keep [0, 1, 2, 10, 11, 12, 52, 53] [10] (.seq (.reg [
        .op (some 62) none (.mv (.tmp 0)),
        .op (some 63) none (.mv (.tmp 11)),
        .op (some 64) none (.mv (.tmp 12)),
        .op (some 65) none (.sslice (.tmp 62) (some (.tmp 63)) (some (.tmp 64))),
        .op (some 66) none (.call f_strings_Builder_WriteString [(.tmp 10), (.tmp 65)])])
      (.keep [0, 1, 2, 10, 12, 52, 53] [10] (.seq (.reg [
        .op (some 67) none (.mv (.tmp 2)),
        .op (some 68) none (.call f_strings_Builder_WriteString [(.tmp 10), (.tmp 67)])])
      (.keep [0, 1, 2, 10, 12, 52, 53] [10] (.reg [
        .op (some 69) none (.mv (.tmp 12)),
        .op (some 70) none (.mv (.tmp 1)),
        .op (some 71) none (.slen (.tmp 70)),
        .op (some 72) none (.arith .add (.tmp 69) (.tmp 71)),
        .op (some 11) none (.mv (.tmp 72))]))))))) 73)))
    (.seq (.reg [
      .op (some 74) none (.mv (.tmp 2)),
      .op (some 75) none (.call f_strings_Builder_WriteString [(.tmp 10), (.tmp 74)])])
    (.keep [0, 2, 3, 10, 11] [10] (.seq (.reg [
      .op (some 76) none (.mv (.tmp 3)),
      .op (some 77) none (.arith .sub (.tmp 76) (.const (.int .i64 1))),
      .op (some 78) none (.mv (.const (.int .i64 0)))])
    (.keep [0, 2, 10, 11, 77, 78] [10] (rangeCC 2 78 77 79 3 (.seq (.reg [
        .op (some 81) none (.mv (.tmp 0)),
        .op (some 82) none (.mv (.tmp 11)),
        .op (some 83) none (.sslice (.tmp 81) (some (.tmp 82)) none),
        .op (some 84) none (.call f_unicode_utf8_DecodeRuneInString [(.tmp 83)]),
        .op (some 80) none (.mv (.tmp 84)),
        .op (some 85) none (.ext (.tmp 80) 0),
        .op (some 86) none (.ext (.tmp 80) 1),
        .op (some 13) none (.mv (.tmp 85)),
        .op (some 14) none (.mv (.tmp 86))])
      (.keep [0, 2, 10, 11, 14, 77, 78] [10] (.seq (.reg [
        .op (some 87) none (.mv (.tmp 11)),
        .op (some 88) none (.mv (.tmp 14)),
        .op (some 89) none (.arith .add (.tmp 87) (.tmp 88)),
        .op (some 15) none (.mv (.tmp 89))])
      (.keep [0, 2, 10, 11, 15, 77, 78] [10] (.seq (.reg [
        .op (some 90) none (.mv (.tmp 0)),
        .op (some 91) none (.mv (.tmp 11)),
        .op (some 92) none (.mv (.tmp 15)),
        .op (some 93) none (.sslice (.tmp 90) (some (.tmp 91)) (some (.tmp 92))),
        .op (some 94) none (.call f_strings_Builder_WriteString [(.tmp 10), (.tmp 93)])])
      (.keep [0, 2, 10, 15, 77, 78] [10] (.seq (.reg [
        .op (some 95) none (.mv (.tmp 2)),
        .op (some 96) none (.call f_strings_Builder_WriteString [(.tmp 10), (.tmp 95)])])
      (.keep [0, 2, 10, 15, 77, 78] [10] (.reg [
        .op (some 97) none (.mv (.tmp 15)),
        .op (some 11) none (.mv (.tmp 97))]))))))))) 98))))))))
  (.keep [0, 10, 11] [10] (.seq (.reg [
    .op (some 99) none (.mv (.tmp 0)),
    .op (some 100) none (.mv (.tmp 11)),
    .op (some 101) none (.sslice (.tmp 99) (some (.tmp 100)) none),
    .op (some 102) none (.call f_strings_Builder_WriteString [(.tmp 10), (.tmp 101)])])
  (.keep [10] [10] (.seq (.reg [
    .op (some 103) none (.call f_strings_Builder_String [(.tmp 10)]),
    .op (some 8) none (.mv (.tmp 103))])
  (.keep [8] [10] (.ret))))))))))))))))))
def rs_strings_Replace : List CRes := [.tmp 8]
def im_strings_Replace : List Nat := []
theorem ok_strings_Replace : FnOk Tryz.prog f_strings_Replace im_strings_Replace cc_strings_Replace rs_strings_Replace 104 := fnOk1 mixed (by kernel_rfl)
-- strings_Count while id=0: live [0:s, 1:substr, 5:n] changed [0, 5] res []
/-- corpora/corporalaw23.QuerySizes [L_int] -> [bool] -/
def cc_law23_QuerySizes : CC :=
  .seq (.reg [
    .op (some 2) none (.mv (.const (.bool false)))])
  (.keep [0] [] (.seq (.reg [
    .op (some 16) none (.mv (.tmp 0)),
    .op (some 17) none (.call f_m_New [(.tmp 16)]),
    .op (some 3) none (.mv (.tmp 17))])
  (.keep [3] [] (.seq (.reg [
    .op (some 18) none (.mv (.tmp 3)),
    .op (some 19) none (.call f_m_Tape_Pattern [(.tmp 18), (.const (.int .i64 2)), (.const (.slice none 0 0))]),
    .op (some 20) none (.mv (.tmp 3)),
    .op (some 21) none (.call f_m_Tape_Pattern [(.tmp 20), (.const (.int .i64 2)), (.const (.slice none 0 0))]),
    .op (some 4) none (.alloc ty_Pattern [(.int .i64 0), (.int .i64 0), (.string ⟨#[]⟩), (.string ⟨#[]⟩), (.string ⟨#[]⟩), (.string ⟨#[]⟩), (.bool false), (.slice none 0 0), (.string ⟨#[]⟩), (.string ⟨#[]⟩), (.int .i64 0), (.int .i64 0), (.slice none 0 0)]),
    .op (some 5) none (.alloc ty_Pattern [(.int .i64 0), (.int .i64 0), (.string ⟨#[]⟩), (.string ⟨#[]⟩), (.string ⟨#[]⟩), (.string ⟨#[]⟩), (.bool false), (.slice none 0 0), (.string ⟨#[]⟩), (.string ⟨#[]⟩), (.int .i64 0), (.int .i64 0), (.slice none 0 0)]),
    .op none none (.store none 13 (.tmp 4) (.tmp 19)),
    .op none none (.store none 13 (.tmp 5) (.tmp 21))])
  (.keep [4, 5] [4, 5] (.seq (.reg [
    .op (some 22) none (.load true 13 (.tmp 4)),
    .op (some 23) none (.load true 13 (.tmp 5)),
    .op (some 24) none (.bslice ty_Pattern 13 [(.tmp 22), (.tmp 23)]),
    .op (some 25) none (.build [(.int .i64 0), (.int .i64 0), (.string ⟨#[]⟩), (.string ⟨#[]⟩), (.string ⟨#[]⟩), (.string ⟨#[]⟩), (.bool false), (.slice none 0 0), (.string ⟨#[]⟩), (.string ⟨#[]⟩), (.int .i64 0), (.int .i64 0), (.slice none 0 0)] [(0, 1, (.const (.int .i64 4))), (12, 1, (.tmp 24))]),
    .op (some 6) none (.alloc ty_Pattern [(.int .i64 0), (.int .i64 0), (.string ⟨#[]⟩), (.string ⟨#[]⟩), (.string ⟨#[]⟩), (.string ⟨#[]⟩), (.bool false), (.slice none 0 0), (.string ⟨#[]⟩), (.string ⟨#[]⟩), (.int .i64 0), (.int .i64 0), (.slice none 0 0)]),
    .op none none (.store none 13 (.tmp 6) (.tmp 25))])
  (.keep [4, 5, 6] [4, 5, 6] (.seq (.reg [
    .op (some 26) none (.load true 13 (.tmp 4)),
    .op (some 27) none (.load true 13 (.tmp 5)),
    .op (some 28) none (.bslice ty_Pattern 13 [(.tmp 26), (.tmp 27)]),
    .op (some 29) none (.build [(.int .i64 0), (.int .i64 0), (.string ⟨#[]⟩), (.string ⟨#[]⟩), (.string ⟨#[]⟩), (.string ⟨#[]⟩), (.bool false), (.slice none 0 0), (.string ⟨#[]⟩), (.string ⟨#[]⟩), (.int .i64 0), (.int .i64 0), (.slice none 0 0)] [(0, 1, (.const (.int .i64 5))), (12, 1, (.tmp 28))]),
    .op (some 7) none (.alloc ty_Pattern [(.int .i64 0), (.int .i64 0), (.string ⟨#[]⟩), (.string ⟨#[]⟩), (.string ⟨#[]⟩), (.string ⟨#[]⟩), (.bool false), (.slice none 0 0), (.string ⟨#[]⟩), (.string ⟨#[]⟩), (.int .i64 0), (.int .i64 0), (.slice none 0 0)]),
    .op none none (.store none 13 (.tmp 7) (.tmp 29))])
  (.keep [4, 5, 6, 7] [4, 5, 6, 7] (.seq (.reg [
    .op (some 31) none (.load true 13 (.tmp 4)),
    .op (some 32) none (.call f_query_Width [(.tmp 31)]),
    .op (some 30) none (.mv (.tmp 32)),
    .op (some 33) none (.ext (.tmp 30) 0),
    .op (some 34) none (.ext (.tmp 30) 1),
    .op (some 8) none (.mv (.tmp 33)),
    .op (some 9) none (.mv (.tmp 34))])
  (.keep [4, 5, 6, 7, 8, 9] [4, 5, 6, 7] (.seq (.reg [
    .op (some 36) none (.load true 13 (.tmp 5)),
    .op (some 37) none (.call f_query_Width [(.tmp 36)]),
    .op (some 35) none (.mv (.tmp 37)),
    .op (some 38) none (.ext (.tmp 35) 0),
    .op (some 39) none (.ext (.tmp 35) 1),
    .op (some 10) none (.mv (.tmp 38)),
    .op (some 11) none (.mv (.tmp 39))])
  (.keep [4, 5, 6, 7, 8, 9, 10, 11] [4, 5, 6, 7] (.seq (.reg [
    .op (some 41) none (.load true 13 (.tmp 6)),
    .op (some 42) none (.call f_query_Width [(.tmp 41)]),
    .op (some 40) none (.mv (.tmp 42)),
    .op (some 43) none (.ext (.tmp 40) 0),
    .op (some 44) none (.ext (.tmp 40) 1),
    .op (some 12) none (.mv (.tmp 43)),
    .op (some 13) none (.mv (.tmp 44))])
  (.keep [4, 5, 6, 7, 8, 9, 10, 11, 12, 13] [4, 5, 6, 7] (.seq (.reg [
    .op (some 46) none (.load true 13 (.tmp 7)),
    .op (some 47) none (.call f_query_Width [(.tmp 46)]),
    .op (some 45) none (.mv (.tmp 47)),
    .op (some 48) none (.ext (.tmp 45) 0),
    .op (some 49) none (.ext (.tmp 45) 1),
    .op (some 14) none (.mv (.tmp 48)),
    .op (some 15) none (.mv (.tmp 49))])
  (.keep [4, 5, 6, 7, 8, 9, 10, 11, 12, 13, 14, 15] [4, 5, 6, 7] (.seq /- 9 -/ (.seq (.regd [
    .op (some 50) none (.load true 13 (.tmp 6)),
    .op (some 51) none (.call f_query_Size [(.tmp 50)]),
    .op (some 52) none (.load true 13 (.tmp 4)),
    .op (some 53) none (.call f_query_Size [(.tmp 52)]),
    .op (some 54) none (.load true 13 (.tmp 5)),
    .op (some 55) none (.call f_query_Size [(.tmp 54)]),
    .op (some 56) none (.arith .add (.tmp 53) (.tmp 55)),
    .op (some 57) none (.eql true false [.int] (.tmp 51) (.tmp 56)),
    .op (some 58) none (.mv (.tmp 57)),
    .op (some 59) (some (58, false)) (.load true 13 (.tmp 7)),
    .op (some 60) (some (58, false)) (.call f_query_Size [(.tmp 59)]),
    .op (some 61) (some (58, false)) (.load true 13 (.tmp 6)),
    .op (some 62) (some (58, false)) (.call f_query_Size [(.tmp 61)]),
    .op (some 63) (some (58, false)) (.eql true false [.int] (.tmp 60) (.tmp 62)),
    .op (some 64) none (.pick (.tmp 58) (.const (.bool true)) (.tmp 63)),
    .op (some 65) none (.mv (.tmp 64)),
    .op (some 66) (some (65, false)) (.mv (.tmp 12)),
    .op (some 67) (some (65, false)) (.mv (.tmp 8)),
    .op (some 68) (some (65, false)) (.mv (.tmp 10)),
    .op (some 69) (some (65, false)) (.arith .add (.tmp 67) (.tmp 68)),
    .op (some 70) (some (65, false)) (.eql true false [.int] (.tmp 66) (.tmp 69)),
    .op (some 71) none (.pick (.tmp 65) (.const (.bool true)) (.tmp 70)),
    .op (some 72) none (.mv (.tmp 71)),
    .op (some 73) (some (72, false)) (.mv (.tmp 14)),
    .op (some 74) (some (72, false)) (.mv (.tmp 8)),
    .op (some 75) (some (72, false)) (.mv (.tmp 10)),
    .op (some 76) (some (72, false)) (.mm false [(.tmp 74), (.tmp 75)])] [
    .op (some 77) (some (72, false)) (.eql true false [.int] (.tmp 73) (.tmp 76)),
    .op (some 78) none (.pick (.tmp 72) (.const (.bool true)) (.tmp 77))])
  (.keep [9, 11, 13, 15, 78] [] (.ite (.tmp 78) (.seq (.reg [
      .op (some 2) none (.mv (.const (.bool false)))])
    (.keep [2] [] (.ret)))
    (.skip))))
  (.keep [9, 11, 13, 15] [] (.seq /- 12 -/ (.seq (.reg [
    .op (some 79) none (.mv (.tmp 9)),
    .op (some 80) none (.eql false false [.int] (.tmp 79) (.const (.int .i64 (-1)))),
    .op (some 81) none (.mv (.tmp 80)),
    .op (some 82) (some (81, false)) (.mv (.tmp 11)),
    .op (some 83) (some (81, false)) (.eql false false [.int] (.tmp 82) (.const (.int .i64 (-1)))),
    .op (some 84) none (.pick (.tmp 81) (.const (.bool true)) (.tmp 83))])
  (.keep [9, 11, 13, 15, 84] [] (.ite (.tmp 84) (.seq (.reg [
      .op (some 85) none (.mv (.tmp 13)),
      .op (some 86) none (.eql false false [.int] (.tmp 85) (.const (.int .i64 (-1)))),
      .op (some 87) none (.mv (.tmp 86)),
      .op (some 88) (some (87, true)) (.mv (.tmp 15)),
      .op (some 89) (some (87, true)) (.eql false false [.int] (.tmp 88) (.const (.int .i64 (-1)))),
      .op (some 90) none (.pick (.tmp 87) (.tmp 89) (.const (.bool false))),
      .op (some 91) none (.mv (.tmp 90)),
      .op (some 92) (some (91, true)) (.call f_law23_known []),
      .op (some 93) none (.pick (.tmp 91) (.tmp 92) (.const (.bool false))),
      .op (some 2) none (.mv (.tmp 93))])
    (.keep [2] [] (.ret)))
    (.skip))))
  (.keep [9, 11, 13, 15] [] (.seq (.reg [
    .op (some 94) none (.mv (.tmp 13)),
    .op (some 95) none (.mv (.tmp 9)),
    .op (some 96) none (.mv (.tmp 11)),
    .op (some 97) none (.arith .add (.tmp 95) (.tmp 96)),
    .op (some 98) none (.eql false false [.int] (.tmp 94) (.tmp 97)),
    .op (some 99) none (.mv (.tmp 98)),
    .op (some 100) (some (99, true)) (.mv (.tmp 15)),
    .op (some 101) (some (99, true)) (.mv (.tmp 9)),
    .op (some 102) (some (99, true)) (.mv (.tmp 11)),
    .op (some 103) (some (99, true)) (.mm true [(.tmp 101), (.tmp 102)]),
    .op (some 104) (some (99, true)) (.eql false false [.int] (.tmp 100) (.tmp 103)),
    .op (some 105) none (.pick (.tmp 99) (.tmp 104) (.const (.bool false))),
    .op (some 106) none (.mv (.tmp 105)),
    .op (some 107) (some (106, true)) (.call f_law23_known []),
    .op (some 108) none (.pick (.tmp 106) (.tmp 107) (.const (.bool false))),
    .op (some 2) none (.mv (.tmp 108))])
  (.keep [2] [] (.ret))))))))))))))))))))))))
def rs_law23_QuerySizes : List CRes := [.tmp 2]
def im_law23_QuerySizes : List Nat := []
theorem ok_law23_QuerySizes : FnOk Tryz.prog f_law23_QuerySizes im_law23_QuerySizes cc_law23_QuerySizes rs_law23_QuerySizes 109 := fnOk1 mixed (by kernel_rfl)
/-- corpora/corporalaw23.known [] -> [bool] -/
def cc_law23_known : CC :=
  .seq (.reg [
    .op (some 0) none (.mv (.const (.bool false)))])
  (.keep [] [] (.seq (.reg [
    .op (some 5) none (.call f_query_Parse [(.const (.string ⟨#[60, 115, 62, 32, 91, 119, 111, 114, 100, 61, 34, 84, 104, 101, 34, 37, 99, 93]⟩))]),
    .op (some 4) none (.mv (.tmp 5)),
    .op (some 6) none (.ext (.tmp 4) 0),
    .op (some 7) none (.ext (.tmp 4) 1),
    .op (some 8) none (.ext (.tmp 4) 2),
    .op (some 1) none (.alloc ty_Query [(.int .i64 0), (.int .i64 0), (.string ⟨#[]⟩), (.string ⟨#[]⟩), (.string ⟨#[]⟩), (.string ⟨#[]⟩), (.bool false), (.slice none 0 0), (.string ⟨#[]⟩), (.string ⟨#[]⟩), (.int .i64 0), (.int .i64 0), (.slice none 0 0), (.int .i64 0), (.string ⟨#[]⟩), (.string ⟨#[]⟩), (.string ⟨#[]⟩), (.string ⟨#[]⟩), (.string ⟨#[]⟩), (.bool false), (.int .i64 0), (.int .i64 0), (.slice none 0 0), (.slice none 0 0), (.slice none 0 0), (.int .i64 0)]),
    .op none none (.store none 26 (.tmp 1) (.tmp 6)),
    .op (some 2) none (.mv (.tmp 7)),
    .op (some 3) none (.mv (.tmp 8))])
  (.keep [1, 2, 3] [1] (.seq (.reg [
    .op (some 9) none (.mv (.tmp 3)),
    .op (some 10) none (.eql false false [.int] (.tmp 9) (.const (.int .i64 0))),
    .op (some 11) none (.mv (.tmp 10)),
    .op (some 12) (some (11, true)) (.mv (.tmp 2)),
    .op (some 13) (some (11, true)) (.eql false false [.int] (.tmp 12) (.const (.int .i64 0))),
    .op (some 14) none (.pick (.tmp 11) (.tmp 13) (.const (.bool false))),
    .op (some 15) none (.mv (.tmp 14)),
    .op (some 16) (some (15, true)) (.faddr 0 (.tmp 1)),
    .op (some 17) (some (15, true)) (.faddr 0 (.tmp 16)),
    .op (some 18) (some (15, true)) (.load false 1 (.tmp 17)),
    .op (some 19) (some (15, true)) (.eql false false [.int] (.tmp 18) (.const (.int .i64 4))),
    .op (some 20) none (.pick (.tmp 15) (.tmp 19) (.const (.bool false))),
    .op (some 21) none (.mv (.tmp 20)),
    .op (some 22) (some (21, true)) (.faddr 0 (.tmp 1)),
    .op (some 23) (some (21, true)) (.faddr 12 (.tmp 22)),
    .op (some 24) (some (21, true)) (.load false 1 (.tmp 23)),
    .op (some 25) (some (21, true)) (.len (.tmp 24)),
    .op (some 26) (some (21, true)) (.eql false false [.int] (.tmp 25) (.const (.int .i64 2))),
    .op (some 27) none (.pick (.tmp 21) (.tmp 26) (.const (.bool false))),
    .op (some 28) none (.mv (.tmp 27)),
    .op (some 29) (some (28, true)) (.faddr 0 (.tmp 1)),
    .op (some 30) (some (28, true)) (.faddr 12 (.tmp 29)),
    .op (some 31) (some (28, true)) (.load false 1 (.tmp 30)),
    .op (some 32) (some (28, true)) (.iaddr 13 (.tmp 31) (.const (.int .i64 1))),
    .op (some 33) (some (28, true)) (.faddr 1 (.tmp 32)),
    .op (some 34) (some (28, true)) (.faddr 5 (.tmp 33)),
    .op (some 35) (some (28, true)) (.load false 1 (.tmp 34)),
    .op (some 36) none (.pick (.tmp 28) (.tmp 35) (.const (.bool false))),
    .op (some 37) none (.mv (.tmp 36)),
    .op (some 38) (some (37, true)) (.faddr 0 (.tmp 1)),
    .op (some 39) (some (37, true)) (.load true 13 (.tmp 38)),
    .op (some 40) (some (37, true)) (.call f_query_Size [(.tmp 39)]),
    .op (some 41) (some (37, true)) (.eql false false [.int] (.tmp 40) (.const (.int .i64 2))),
    .op (some 42) none (.pick (.tmp 37) (.tmp 41) (.const (.bool false))),
    .op (some 43) none (.mv (.tmp 42)),
    .op (some 44) (some (43, true)) (.load true 26 (.tmp 1)),
    .op (some 45) (some (43, true)) (.call f_query_Format [(.tmp 44)]),
    .op (some 46) (some (43, true)) (.eql false false [.str] (.tmp 45) (.const (.string ⟨#[60, 115, 62, 32, 91, 119, 111, 114, 100, 61, 34, 84, 104, 101, 34, 37, 99, 93]⟩))),
    .op (some 47) none (.pick (.tmp 43) (.tmp 46) (.const (.bool false))),
    .op (some 0) none (.mv (.tmp 47))])
  (.keep [0] [] (.ret))))))
def rs_law23_known : List CRes := [.tmp 0]
def im_law23_known : List Nat := []
theorem ok_law23_known : FnOk Tryz.prog f_law23_known im_law23_known cc_law23_known rs_law23_known 48 := fnOk1 mixed (by kernel_rfl)
-- query_labels range i=25 n=24 c=26 i2=32 id=0: live [1:out, 23:] changed [1] res [21]
-- law23_QueryLeaves range i=27 n=26 c=28 i2=73 id=0: live [3:q, 4:x, 5:y, 6:names] changed [6] res [3, 72]
-- law23_QueryLeaves range i=48 n=47 c=49 i2=62 id=2: live [3:q, 4:x, 5:y, 6:names, 7:i, 8:known, 26:, 27:, 46:] changed [8] res [3, 72]
-- r23_SamePattern range i=59 n=58 c=60 i2=74 id=0: live [2:a, 3:b] changed [] res []
-- r22_Texts range i=13 n=12 c=14 i2=25 id=0: live [0:a, 1:b] changed [] res []
end Go.Gv
