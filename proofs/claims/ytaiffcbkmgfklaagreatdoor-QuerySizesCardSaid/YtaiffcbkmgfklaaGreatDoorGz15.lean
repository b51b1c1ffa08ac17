/- A part of the framework and of the walks: C2 V2 L1. -/
import Derived.Test.YtaiffcbkmgfklaaGreatDoorGz13

namespace Go.Gv
open Go.Proofs
/-- corpora/query.shallow [Pattern, int] -> [bool] -/
def cc_query_shallow : CC :=
  .seq (.reg [
    .op (some 2) none (.box ty_Pattern true (.tmp 0)),
    .op (some 3) none (.box ty_int true (.tmp 1)),
    .op (some 4) none (.mv (.const (.bool false)))])
  (.keep [2, 3] [] (.seq (.reg [
    .op (some 5) none (.load false 1 (.tmp 3)),
    .op (some 6) none (.cmp .leq (.tmp 5) (.const (.int .i64 100))),
    .op (some 7) none (.mv (.tmp 6)),
    .op (some 8) (some (7, true)) (.faddr 12 (.tmp 2)),
    .op (some 9) (some (7, true)) (.load false 1 (.tmp 8)),
    .op (some 10) (some (7, true)) (.clo f_query_shallow_1 [(.tmp 3)]),
    .op (some 11) (some (7, true)) (.call f_slices_ContainsFunc_Pattern [(.tmp 9), (.tmp 10)]),
    .op (some 12) (some (7, true)) (.not (.tmp 11)),
    .op (some 13) none (.pick (.tmp 7) (.tmp 12) (.const (.bool false))),
    .op (some 4) none (.mv (.tmp 13))])
  (.keep [4] [] (.ret))))
def rs_query_shallow : List CRes := [.tmp 4]
def im_query_shallow : List Nat := [3, 2]
theorem ok_query_shallow : FnOk Tryz.prog f_query_shallow im_query_shallow cc_query_shallow rs_query_shallow 14 := fnOk1 mixed (by kernel_rfl)
/-- corpora/query.shallow$1 [Pattern] -> [bool] -/
def cc_query_shallow_1 : CC :=
  .seq (.reg [
    .op (some 2) none (.box ty_Pattern true (.tmp 0)),
    .op (some 3) none (.mv (.const (.bool false)))])
  (.keep [1, 2] [] (.seq (.reg [
    .op (some 4) none (.load true 13 (.tmp 2)),
    .op (some 5) none (.load false 1 (.tmp 1)),
    .op (some 6) none (.arith .add (.tmp 5) (.const (.int .i64 1))),
    .op (some 7) none (.call f_query_shallow [(.tmp 4), (.tmp 6)]),
    .op (some 8) none (.not (.tmp 7)),
    .op (some 3) none (.mv (.tmp 8))])
  (.keep [3] [] (.ret))))
def rs_query_shallow_1 : List CRes := [.tmp 3]
def im_query_shallow_1 : List Nat := [2]
theorem ok_query_shallow_1 : FnOk Tryz.prog f_query_shallow_1 im_query_shallow_1 cc_query_shallow_1 rs_query_shallow_1 9 := fnOk1 mixed (by kernel_rfl)
/-- corpora/query.zero [Cond] -> [bool] -/
def cc_query_zero : CC :=
  .seq (.reg [
    .op (some 1) none (.box ty_Cond true (.tmp 0)),
    .op (some 2) none (.mv (.const (.bool false)))])
  (.keep [1] [] (.seq (.reg [
    .op (some 3) none (.faddr 0 (.tmp 1)),
    .op (some 4) none (.load false 1 (.tmp 3)),
    .op (some 5) none (.eql false false [.int] (.tmp 4) (.const (.int .i64 0))),
    .op (some 6) none (.mv (.tmp 5)),
    .op (some 7) (some (6, true)) (.faddr 1 (.tmp 1)),
    .op (some 8) (some (6, true)) (.load false 1 (.tmp 7)),
    .op (some 9) (some (6, true)) (.eql false false [.str] (.tmp 8) (.const (.string ⟨#[]⟩))),
    .op (some 10) none (.pick (.tmp 6) (.tmp 9) (.const (.bool false))),
    .op (some 11) none (.mv (.tmp 10)),
    .op (some 12) (some (11, true)) (.faddr 2 (.tmp 1)),
    .op (some 13) (some (11, true)) (.load false 1 (.tmp 12)),
    .op (some 14) (some (11, true)) (.eql false false [.str] (.tmp 13) (.const (.string ⟨#[]⟩))),
    .op (some 15) none (.pick (.tmp 11) (.tmp 14) (.const (.bool false))),
    .op (some 16) none (.mv (.tmp 15)),
    .op (some 17) (some (16, true)) (.faddr 3 (.tmp 1)),
    .op (some 18) (some (16, true)) (.load false 1 (.tmp 17)),
    .op (some 19) (some (16, true)) (.eql false false [.str] (.tmp 18) (.const (.string ⟨#[]⟩))),
    .op (some 20) none (.pick (.tmp 16) (.tmp 19) (.const (.bool false))),
    .op (some 21) none (.mv (.tmp 20)),
    .op (some 22) (some (21, true)) (.faddr 4 (.tmp 1)),
    .op (some 23) (some (21, true)) (.load false 1 (.tmp 22)),
    .op (some 24) (some (21, true)) (.eql false false [.str] (.tmp 23) (.const (.string ⟨#[]⟩))),
    .op (some 25) none (.pick (.tmp 21) (.tmp 24) (.const (.bool false))),
    .op (some 26) none (.mv (.tmp 25)),
    .op (some 27) (some (26, true)) (.faddr 5 (.tmp 1)),
    .op (some 28) (some (26, true)) (.load false 1 (.tmp 27)),
    .op (some 29) (some (26, true)) (.not (.tmp 28)),
    .op (some 30) none (.pick (.tmp 26) (.tmp 29) (.const (.bool false))),
    .op (some 31) none (.mv (.tmp 30)),
    .op (some 32) (some (31, true)) (.faddr 6 (.tmp 1)),
    .op (some 33) (some (31, true)) (.load false 1 (.tmp 32)),
    .op (some 34) (some (31, true)) (.len (.tmp 33)),
    .op (some 35) (some (31, true)) (.eql false false [.int] (.tmp 34) (.const (.int .i64 0))),
    .op (some 36) none (.pick (.tmp 31) (.tmp 35) (.const (.bool false))),
    .op (some 2) none (.mv (.tmp 36))])
  (.keep [2] [] (.ret))))
def rs_query_zero : List CRes := [.tmp 2]
def im_query_zero : List Nat := [1]
theorem ok_query_zero : FnOk Tryz.prog f_query_zero im_query_zero cc_query_zero rs_query_zero 37 := fnOk1 mixed (by kernel_rfl)
/-- corpora/query.node [Pattern] -> [bool] -/
def cc_query_node : CC :=
  .seq (.reg [
    .op (some 1) none (.box ty_Pattern true (.tmp 0)),
    .op (some 2) none (.mv (.const (.bool false)))])
  (.keep [1] [] (.seq (.reg [
    .op (some 3) none (.mv (.const (.bool false))),
    .op (some 4) none (.mv (.const (.bool false))),
    .op (some 5) none (.mv (.const (.bool false)))])
  (.keep [1, 3, 4, 5] [] (.seq (.reg [
    .op (some 6) none (.mv (.const (.int .i64 0))),
    .op (some 7) none (.mv (.const (.int .i64 0)))])
  (.keep [1, 3, 4, 5, 6, 7] [] (.seq /- 3 -/ (.seq (.reg [
    .op (some 8) none (.faddr 0 (.tmp 1)),
    .op (some 9) none (.load false 1 (.tmp 8))])
  (.keep [1, 3, 4, 5, 6, 7, 9] [] (.block 0 (.seq (.reg [
      .op (some 11) none (.eql false false [.int] (.tmp 9) (.const (.int .i64 1))),
      .op (some 10) none (.mv (.tmp 11))])
    (.keep [1, 3, 4, 5, 6, 7, 9, 10] [] (.ite (.tmp 10) (.reg [
        .op (some 3) none (.mv (.const (.bool true)))])
      (.seq /- 6 -/ (.seq (.reg [
        .op (some 13) none (.eql false false [.int] (.tmp 9) (.const (.int .i64 2))),
        .op (some 12) none (.mv (.tmp 13))])
      (.keep [1, 3, 4, 5, 6, 7, 9, 12] [] (.ite (.tmp 12) (.skip)
        (.reg [
          .op (some 14) none (.eql false false [.int] (.tmp 9) (.const (.int .i64 3))),
          .op (some 12) none (.mv (.tmp 14))]))))
      (.keep [1, 3, 4, 5, 6, 7, 9, 12] [] (.ite (.tmp 12) (.reg [
          .op (some 4) none (.mv (.const (.bool true)))])
        (.seq /- 8 -/ (.seq (.reg [
          .op (some 16) none (.eql false false [.int] (.tmp 9) (.const (.int .i64 4))),
          .op (some 15) none (.mv (.tmp 16))])
        (.keep [1, 3, 4, 5, 9, 15] [] (.ite (.tmp 15) (.skip)
          (.reg [
            .op (some 17) none (.eql false false [.int] (.tmp 9) (.const (.int .i64 5))),
            .op (some 15) none (.mv (.tmp 17))]))))
        (.keep [1, 3, 4, 5, 9, 15] [] (.ite (.tmp 15) (.regd [
            .op (some 18) none (.faddr 12 (.tmp 1)),
            .op (some 19) none (.load false 1 (.tmp 18)),
            .op (some 20) none (.len (.tmp 19)),
            .op (some 6) none (.mv (.const (.int .i64 2)))] [
            .op (some 7) none (.mv (.tmp 20))])
          (.seq (.reg [
            .op (some 22) none (.eql false false [.int] (.tmp 9) (.const (.int .i64 6))),
            .op (some 21) none (.mv (.tmp 22))])
          (.keep [1, 3, 4, 21] [] (.ite (.tmp 21) (.seq (.reg [
              .op (some 5) none (.mv (.const (.bool true)))])
            (.keep [1, 3, 4, 5] [] (.reg [
              .op (some 6) none (.mv (.const (.int .i64 1))),
              .op (some 7) none (.mv (.const (.int .i64 1)))])))
            (.seq (.reg [
              .op (some 2) none (.mv (.const (.bool false)))])
            (.keep [2] [] (.ret))))))))))))))))))
  (.keep [1, 3, 4, 5, 6, 7] [] (.seq (.reg [
    .op (some 23) none (.mv (.tmp 3)),
    .op (some 24) none (.mv (.tmp 23)),
    .op (some 25) (some (24, false)) (.faddr 1 (.tmp 1)),
    .op (some 26) (some (24, false)) (.load true 7 (.tmp 25)),
    .op (some 27) (some (24, false)) (.call f_query_zero [(.tmp 26)]),
    .op (some 28) (some (24, false)) (.mv (.tmp 27)),
    .op (some 29) (some (28, true)) (.faddr 8 (.tmp 1)),
    .op (some 30) (some (28, true)) (.load false 1 (.tmp 29)),
    .op (some 31) (some (28, true)) (.eql false false [.str] (.tmp 30) (.const (.string ⟨#[]⟩))),
    .op (some 32) (some (24, false)) (.pick (.tmp 28) (.tmp 31) (.const (.bool false))),
    .op (some 33) none (.pick (.tmp 24) (.const (.bool true)) (.tmp 32)),
    .op (some 34) none (.mv (.tmp 33)),
    .op (some 35) (some (34, true)) (.mv (.tmp 4)),
    .op (some 36) (some (34, true)) (.mv (.tmp 35)),
    .op (some 37) (some (36, false)) (.faddr 9 (.tmp 1)),
    .op (some 38) (some (36, false)) (.load false 1 (.tmp 37)),
    .op (some 39) (some (36, false)) (.eql false false [.str] (.tmp 38) (.const (.string ⟨#[]⟩))),
    .op (some 40) (some (34, true)) (.pick (.tmp 36) (.const (.bool true)) (.tmp 39)),
    .op (some 41) none (.pick (.tmp 34) (.tmp 40) (.const (.bool false))),
    .op (some 42) none (.mv (.tmp 41)),
    .op (some 43) (some (42, true)) (.mv (.tmp 5)),
    .op (some 44) (some (42, true)) (.mv (.tmp 43)),
    .op (some 45) (some (44, false)) (.faddr 10 (.tmp 1)),
    .op (some 46) (some (44, false)) (.load false 1 (.tmp 45)),
    .op (some 47) (some (44, false)) (.eql false false [.int] (.tmp 46) (.const (.int .i64 0))),
    .op (some 48) (some (44, false)) (.mv (.tmp 47)),
    .op (some 49) (some (48, true)) (.faddr 11 (.tmp 1)),
    .op (some 50) (some (48, true)) (.load false 1 (.tmp 49)),
    .op (some 51) (some (48, true)) (.eql false false [.int] (.tmp 50) (.const (.int .i64 0))),
    .op (some 52) (some (44, false)) (.pick (.tmp 48) (.tmp 51) (.const (.bool false))),
    .op (some 53) (some (42, true)) (.pick (.tmp 44) (.const (.bool true)) (.tmp 52)),
    .op (some 54) none (.pick (.tmp 42) (.tmp 53) (.const (.bool false))),
    .op (some 55) none (.mv (.tmp 54)),
    .op (some 56) (some (55, true)) (.faddr 12 (.tmp 1)),
    .op (some 57) (some (55, true)) (.load false 1 (.tmp 56)),
    .op (some 58) (some (55, true)) (.len (.tmp 57)),
    .op (some 59) (some (55, true)) (.mv (.tmp 6)),
    .op (some 60) (some (55, true)) (.cmp .geq (.tmp 58) (.tmp 59)),
    .op (some 61) none (.pick (.tmp 55) (.tmp 60) (.const (.bool false))),
    .op (some 62) none (.mv (.tmp 61)),
    .op (some 63) (some (62, true)) (.faddr 12 (.tmp 1)),
    .op (some 64) (some (62, true)) (.load false 1 (.tmp 63)),
    .op (some 65) (some (62, true)) (.len (.tmp 64)),
    .op (some 66) (some (62, true)) (.mv (.tmp 7)),
    .op (some 67) (some (62, true)) (.cmp .leq (.tmp 65) (.tmp 66)),
    .op (some 68) none (.pick (.tmp 62) (.tmp 67) (.const (.bool false))),
    .op (some 2) none (.mv (.tmp 68))])
  (.keep [2] [] (.ret))))))))))
def rs_query_node : List CRes := [.tmp 2]
def im_query_node : List Nat := [1]
theorem ok_query_node : FnOk Tryz.prog f_query_node im_query_node cc_query_node rs_query_node 69 := fnOk1 mixed (by kernel_rfl)
/-- corpora/query.every [Pattern, func_Pattern_bool] -> [bool] -/
def cc_query_every : CC :=
  .seq (.reg [
    .op (some 2) none (.box ty_Pattern true (.tmp 0)),
    .op (some 3) none (.box ty_func_Pattern_bool true (.tmp 1)),
    .op (some 4) none (.mv (.const (.bool false)))])
  (.keep [2, 3] [] (.seq (.reg [
    .op (some 5) none (.load false 1 (.tmp 3)),
    .op (some 6) none (.load true 13 (.tmp 2)),
    .op (some 7) none (.callv (.tmp 5) [(.tmp 6)]),
    .op (some 8) none (.mv (.tmp 7)),
    .op (some 9) (some (8, true)) (.faddr 12 (.tmp 2)),
    .op (some 10) (some (8, true)) (.load false 1 (.tmp 9)),
    .op (some 11) (some (8, true)) (.clo f_query_every_1 [(.tmp 3)]),
    .op (some 12) (some (8, true)) (.call f_slices_ContainsFunc_Pattern [(.tmp 10), (.tmp 11)]),
    .op (some 13) (some (8, true)) (.not (.tmp 12)),
    .op (some 14) none (.pick (.tmp 8) (.tmp 13) (.const (.bool false))),
    .op (some 4) none (.mv (.tmp 14))])
  (.keep [4] [] (.ret))))
def rs_query_every : List CRes := [.tmp 4]
def im_query_every : List Nat := [3, 2]
theorem ok_query_every : FnOk Tryz.prog f_query_every im_query_every cc_query_every rs_query_every 15 := fnOk1 mixed (by kernel_rfl)
/-- corpora/query.every$1 [Pattern] -> [bool] -/
def cc_query_every_1 : CC :=
  .seq (.reg [
    .op (some 2) none (.box ty_Pattern true (.tmp 0)),
    .op (some 3) none (.mv (.const (.bool false)))])
  (.keep [1, 2] [] (.seq (.reg [
    .op (some 4) none (.load true 13 (.tmp 2)),
    .op (some 5) none (.load false 1 (.tmp 1)),
    .op (some 6) none (.call f_query_every [(.tmp 4), (.tmp 5)]),
    .op (some 7) none (.not (.tmp 6)),
    .op (some 3) none (.mv (.tmp 7))])
  (.keep [3] [] (.ret))))
def rs_query_every_1 : List CRes := [.tmp 3]
def im_query_every_1 : List Nat := [2]
theorem ok_query_every_1 : FnOk Tryz.prog f_query_every_1 im_query_every_1 cc_query_every_1 rs_query_every_1 8 := fnOk1 mixed (by kernel_rfl)
/-- corpora/query.named [Pattern] -> [bool] -/
def cc_query_named : CC :=
  .seq (.reg [
    .op (some 1) none (.box ty_Pattern true (.tmp 0)),
    .op (some 2) none (.mv (.const (.bool false)))])
  (.keep [1] [] (.seq (.reg [
    .op (some 4) none (.faddr 0 (.tmp 1)),
    .op (some 5) none (.load false 1 (.tmp 4)),
    .op (some 6) none (.eql false false [.int] (.tmp 5) (.const (.int .i64 2))),
    .op (some 7) none (.mv (.tmp 6)),
    .op (some 8) (some (7, false)) (.faddr 0 (.tmp 1)),
    .op (some 9) (some (7, false)) (.load false 1 (.tmp 8)),
    .op (some 10) (some (7, false)) (.eql false false [.int] (.tmp 9) (.const (.int .i64 3))),
    .op (some 11) none (.pick (.tmp 7) (.const (.bool true)) (.tmp 10)),
    .op (some 3) none (.mv (.tmp 11))])
  (.keep [1, 3] [] (.seq (.reg [
    .op (some 12) none (.mv (.tmp 3)),
    .op (some 13) none (.not (.tmp 12)),
    .op (some 14) none (.mv (.tmp 13)),
    .op (some 15) (some (14, false)) (.faddr 9 (.tmp 1)),
    .op (some 16) (some (14, false)) (.load false 1 (.tmp 15)),
    .op (some 17) (some (14, false)) (.call f_markup_ValidName [(.tmp 16)]),
    .op (some 18) none (.pick (.tmp 14) (.const (.bool true)) (.tmp 17)),
    .op (some 19) none (.mv (.tmp 18)),
    .op (some 20) (some (19, true)) (.faddr 8 (.tmp 1)),
    .op (some 21) (some (19, true)) (.load false 1 (.tmp 20)),
    .op (some 22) (some (19, true)) (.eql false false [.str] (.tmp 21) (.const (.string ⟨#[]⟩))),
    .op (some 23) (some (19, true)) (.mv (.tmp 22)),
    .op (some 24) (some (23, false)) (.faddr 8 (.tmp 1)),
    .op (some 25) (some (23, false)) (.load false 1 (.tmp 24)),
    .op (some 26) (some (23, false)) (.call f_markup_ValidName [(.tmp 25)]),
    .op (some 27) (some (19, true)) (.pick (.tmp 23) (.const (.bool true)) (.tmp 26)),
    .op (some 28) none (.pick (.tmp 19) (.tmp 27) (.const (.bool false))),
    .op (some 2) none (.mv (.tmp 28))])
  (.keep [2] [] (.ret))))))
def rs_query_named : List CRes := [.tmp 2]
def im_query_named : List Nat := [1]
theorem ok_query_named : FnOk Tryz.prog f_query_named im_query_named cc_query_named rs_query_named 29 := fnOk1 mixed (by kernel_rfl)
/-- corpora/query.ranged [Pattern] -> [bool] -/
def cc_query_ranged : CC :=
  .seq (.reg [
    .op (some 1) none (.box ty_Pattern true (.tmp 0)),
    .op (some 2) none (.mv (.const (.bool false)))])
  (.keep [1] [] (.seq (.reg [
    .op (some 3) none (.faddr 0 (.tmp 1)),
    .op (some 4) none (.load false 1 (.tmp 3)),
    .op (some 5) none (.eql true false [.int] (.tmp 4) (.const (.int .i64 6))),
    .op (some 6) none (.mv (.tmp 5)),
    .op (some 7) (some (6, false)) (.faddr 10 (.tmp 1)),
    .op (some 8) (some (6, false)) (.load false 1 (.tmp 7)),
    .op (some 9) (some (6, false)) (.cmp .geq (.tmp 8) (.const (.int .i64 0))),
    .op (some 10) (some (6, false)) (.mv (.tmp 9)),
    .op (some 11) (some (10, true)) (.faddr 10 (.tmp 1)),
    .op (some 12) (some (10, true)) (.load false 1 (.tmp 11)),
    .op (some 13) (some (10, true)) (.cmp .leq (.tmp 12) (.const (.int .i64 16))),
    .op (some 14) (some (6, false)) (.pick (.tmp 10) (.tmp 13) (.const (.bool false))),
    .op (some 15) (some (6, false)) (.mv (.tmp 14)),
    .op (some 16) (some (15, true)) (.faddr 11 (.tmp 1)),
    .op (some 17) (some (15, true)) (.load false 1 (.tmp 16)),
    .op (some 18) (some (15, true)) (.eql false false [.int] (.tmp 17) (.const (.int .i64 (-1)))),
    .op (some 19) (some (15, true)) (.mv (.tmp 18)),
    .op (some 20) (some (19, false)) (.faddr 11 (.tmp 1)),
    .op (some 21) (some (19, false)) (.load false 1 (.tmp 20)),
    .op (some 22) (some (19, false)) (.faddr 10 (.tmp 1)),
    .op (some 23) (some (19, false)) (.load false 1 (.tmp 22)),
    .op (some 24) (some (19, false)) (.cmp .geq (.tmp 21) (.tmp 23)),
    .op (some 25) (some (19, false)) (.mv (.tmp 24)),
    .op (some 26) (some (25, true)) (.faddr 11 (.tmp 1)),
    .op (some 27) (some (25, true)) (.load false 1 (.tmp 26)),
    .op (some 28) (some (25, true)) (.cmp .leq (.tmp 27) (.const (.int .i64 16))),
    .op (some 29) (some (19, false)) (.pick (.tmp 25) (.tmp 28) (.const (.bool false))),
    .op (some 30) (some (15, true)) (.pick (.tmp 19) (.const (.bool true)) (.tmp 29)),
    .op (some 31) (some (6, false)) (.pick (.tmp 15) (.tmp 30) (.const (.bool false))),
    .op (some 32) none (.pick (.tmp 6) (.const (.bool true)) (.tmp 31)),
    .op (some 2) none (.mv (.tmp 32))])
  (.keep [2] [] (.ret))))
def rs_query_ranged : List CRes := [.tmp 2]
def im_query_ranged : List Nat := [1]
theorem ok_query_ranged : FnOk Tryz.prog f_query_ranged im_query_ranged cc_query_ranged rs_query_ranged 33 := fnOk1 mixed (by kernel_rfl)
/-- corpora/query.Shape [Pattern] -> [bool] -/
def cc_query_Shape : CC :=
  .seq (.reg [
    .op (some 1) none (.box ty_Pattern true (.tmp 0)),
    .op (some 2) none (.mv (.const (.bool false)))])
  (.keep [1] [] (.seq (.reg [
    .op (some 3) none (.load true 13 (.tmp 1)),
    .op (some 4) none (.call f_query_shallow [(.tmp 3), (.const (.int .i64 1))]),
    .op (some 5) none (.mv (.tmp 4)),
    .op (some 6) (some (5, true)) (.load true 13 (.tmp 1)),
    .op (some 7) (some (5, true)) (.call f_query_every [(.tmp 6), (.func f_query_node)]),
    .op (some 8) none (.pick (.tmp 5) (.tmp 7) (.const (.bool false))),
    .op (some 2) none (.mv (.tmp 8))])
  (.keep [2] [] (.ret))))
def rs_query_Shape : List CRes := [.tmp 2]
def im_query_Shape : List Nat := [1]
theorem ok_query_Shape : FnOk Tryz.prog f_query_Shape im_query_Shape cc_query_Shape rs_query_Shape 9 := fnOk1 mixed (by kernel_rfl)
/-- corpora/query.right [Pattern] -> [bool] -/
def cc_query_right : CC :=
  .seq (.reg [
    .op (some 1) none (.box ty_Pattern true (.tmp 0)),
    .op (some 2) none (.mv (.const (.bool false)))])
  (.keep [1] [] (.seq (.reg [
    .op (some 3) none (.load true 13 (.tmp 1)),
    .op (some 4) none (.call f_query_Shape [(.tmp 3)]),
    .op (some 5) none (.mv (.tmp 4)),
    .op (some 6) (some (5, true)) (.load true 13 (.tmp 1)),
    .op (some 7) (some (5, true)) (.call f_query_every [(.tmp 6), (.func f_query_named)]),
    .op (some 8) none (.pick (.tmp 5) (.tmp 7) (.const (.bool false))),
    .op (some 9) none (.mv (.tmp 8)),
    .op (some 10) (some (9, true)) (.load true 13 (.tmp 1)),
    .op (some 11) (some (9, true)) (.call f_query_every [(.tmp 10), (.func f_query_ranged)]),
    .op (some 12) none (.pick (.tmp 9) (.tmp 11) (.const (.bool false))),
    .op (some 2) none (.mv (.tmp 12))])
  (.keep [2] [] (.ret))))
def rs_query_right : List CRes := [.tmp 2]
def im_query_right : List Nat := [1]
theorem ok_query_right : FnOk Tryz.prog f_query_right im_query_right cc_query_right rs_query_right 13 := fnOk1 mixed (by kernel_rfl)
-- query_size range i=9 n=8 c=10 i2=18 id=0: live [1:p, 3:n, 7:] changed [3] res []
/-- corpora/query.size [Pattern] -> [int] -/
def cc_query_size : CC :=
  .seq (.reg [
    .op (some 1) none (.box ty_Pattern true (.tmp 0)),
    .op (some 2) none (.mv (.const (.int .i64 0)))])
  (.keep [1] [] (.seq (.reg [
    .op (some 3) none (.mv (.const (.int .i64 0)))])
  (.keep [1, 3] [] (.seq /- 2 -/ (.seq (.reg [
    .op (some 6) none (.faddr 12 (.tmp 1)),
    .op (some 7) none (.load false 1 (.tmp 6)),
    .op (some 8) none (.len (.tmp 7)),
    .op (some 9) none (.mv (.const (.int .i64 0)))])
  (.keep [1, 3, 7, 8, 9] [] (rangeCC 0 9 8 10 1 (.seq (.reg [
      .op (some 11) none (.iaddr 13 (.tmp 7) (.tmp 9)),
      .op (some 12) none (.load true 13 (.tmp 11)),
      .op (some 5) none (.alloc ty_Pattern [(.int .i64 0), (.int .i64 0), (.string ⟨#[]⟩), (.string ⟨#[]⟩), (.string ⟨#[]⟩), (.string ⟨#[]⟩), (.bool false), (.slice none 0 0), (.string ⟨#[]⟩), (.string ⟨#[]⟩), (.int .i64 0), (.int .i64 0), (.slice none 0 0)]),
      .op none none (.store none 13 (.tmp 5) (.tmp 12))])
    (.keep [1, 3, 5, 7, 8, 9] [5] (.reg [
      .op (some 13) none (.mv (.tmp 3)),
      .op (some 14) none (.load true 13 (.tmp 5)),
      .op (some 15) none (.call f_query_size [(.tmp 14)]),
      .op (some 16) none (.arith .add (.tmp 13) (.tmp 15)),
      .op (some 17) none (.mm false [(.tmp 16), (.const (.int .i64 1000))]),
      .op (some 3) none (.mv (.tmp 17))]))) 18)))
  (.keep [1, 3] [] (.seq /- 5 -/ (.block 2 (.seq (.reg [
      .op (some 20) none (.faddr 12 (.tmp 1)),
      .op (some 21) none (.load false 1 (.tmp 20)),
      .op (some 22) none (.len (.tmp 21)),
      .op (some 23) none (.eql false false [.int] (.tmp 22) (.const (.int .i64 0))),
      .op (some 19) none (.mv (.tmp 23))])
    (.keep [1, 3, 19] [] (.ite (.tmp 19) (.seq (.reg [
        .op (some 2) none (.mv (.const (.int .i64 1)))])
      (.keep [2] [] (.ret)))
      (.seq (.reg [
        .op (some 25) none (.faddr 0 (.tmp 1)),
        .op (some 26) none (.load false 1 (.tmp 25)),
        .op (some 27) none (.eql true false [.int] (.tmp 26) (.const (.int .i64 6))),
        .op (some 28) none (.mv (.tmp 27)),
        .op (some 29) (some (28, false)) (.faddr 11 (.tmp 1)),
        .op (some 30) (some (28, false)) (.load false 1 (.tmp 29)),
        .op (some 31) (some (28, false)) (.eql false false [.int] (.tmp 30) (.const (.int .i64 0))),
        .op (some 32) none (.pick (.tmp 28) (.const (.bool true)) (.tmp 31)),
        .op (some 24) none (.mv (.tmp 32))])
      (.keep [1, 3, 24] [] (.ite (.tmp 24) (.seq (.reg [
          .op (some 33) none (.mv (.tmp 3)),
          .op (some 2) none (.mv (.tmp 33))])
        (.keep [2] [] (.ret)))
        (.seq (.reg [
          .op (some 35) none (.faddr 11 (.tmp 1)),
          .op (some 36) none (.load false 1 (.tmp 35)),
          .op (some 37) none (.cmp .lss (.tmp 36) (.const (.int .i64 0))),
          .op (some 34) none (.mv (.tmp 37))])
        (.keep [1, 3, 34] [] (.ite (.tmp 34) (.seq (.reg [
            .op (some 38) none (.mv (.tmp 3)),
            .op (some 39) none (.faddr 10 (.tmp 1)),
            .op (some 40) none (.load false 1 (.tmp 39)),
            .op (some 41) none (.arith .add (.tmp 40) (.const (.int .i64 1))),
            .op (some 42) none (.arith .mul (.tmp 38) (.tmp 41)),
            .op (some 43) none (.mm false [(.tmp 42), (.const (.int .i64 1000))]),
            .op (some 2) none (.mv (.tmp 43))])
          (.keep [2] [] (.ret)))
          (.skip)))))))))))
  (.keep [1, 3] [] (.seq (.reg [
    .op (some 44) none (.mv (.tmp 3)),
    .op (some 45) none (.faddr 11 (.tmp 1)),
    .op (some 46) none (.load false 1 (.tmp 45)),
    .op (some 47) none (.arith .mul (.tmp 44) (.tmp 46)),
    .op (some 48) none (.mm false [(.tmp 47), (.const (.int .i64 1000))]),
    .op (some 2) none (.mv (.tmp 48))])
  (.keep [2] [] (.ret))))))))))
def rs_query_size : List CRes := [.tmp 2]
def im_query_size : List Nat := [1]
theorem ok_query_size : FnOk Tryz.prog f_query_size im_query_size cc_query_size rs_query_size 49 := fnOk1 mixed (by kernel_rfl)
/-- corpora/query.Size [Pattern] -> [int] -/
def cc_query_Size : CC :=
  .seq (.reg [
    .op (some 1) none (.box ty_Pattern true (.tmp 0)),
    .op (some 2) none (.mv (.const (.int .i64 0)))])
  (.keep [1] [] (.seq /- 1 -/ (.seq (.reg [
    .op (some 3) none (.load true 13 (.tmp 1)),
    .op (some 4) none (.call f_query_right [(.tmp 3)]),
    .op (some 5) none (.not (.tmp 4))])
  (.keep [1, 5] [] (.ite (.tmp 5) (.seq (.reg [
      .op (some 2) none (.mv (.const (.int .i64 0)))])
    (.keep [2] [] (.ret)))
    (.skip))))
  (.keep [1] [] (.seq (.reg [
    .op (some 6) none (.load true 13 (.tmp 1)),
    .op (some 7) none (.call f_query_size [(.tmp 6)]),
    .op (some 2) none (.mv (.tmp 7))])
  (.keep [2] [] (.ret))))))
def rs_query_Size : List CRes := [.tmp 2]
def im_query_Size : List Nat := [1]
theorem ok_query_Size : FnOk Tryz.prog f_query_Size im_query_Size cc_query_Size rs_query_Size 8 := fnOk1 mixed (by kernel_rfl)
-- query_width range i=71 n=70 c=72 i2=104 id=2: live [1:p, 6:lo, 7:hi, 69:] changed [6, 7] res []
/-- corpora/query.width [Pattern] -> [int, int] -/
def cc_query_width : CC :=
  .seq (.reg [
    .op (some 1) none (.box ty_Pattern true (.tmp 0)),
    .op (some 2) none (.mv (.const (.int .i64 0))),
    .op (some 3) none (.mv (.const (.int .i64 0)))])
  (.keep [1] [] (.seq /- 1 -/ (.seq (.reg [
    .op (some 13) none (.faddr 0 (.tmp 1)),
    .op (some 14) none (.load false 1 (.tmp 13))])
  (.keep [1, 14] [] (.block 0 (.seq (.reg [
      .op (some 16) none (.eql false false [.int] (.tmp 14) (.const (.int .i64 1))),
      .op (some 15) none (.mv (.tmp 16))])
    (.keep [1, 14, 15] [] (.ite (.tmp 15) (.seq (.reg [
        .op (some 2) none (.mv (.const (.int .i64 1))),
        .op (some 3) none (.mv (.const (.int .i64 1)))])
      (.keep [2, 3] [] (.ret)))
      (.seq /- 5 -/ (.seq (.reg [
        .op (some 18) none (.eql false false [.int] (.tmp 14) (.const (.int .i64 2))),
        .op (some 17) none (.mv (.tmp 18))])
      (.keep [1, 14, 17] [] (.ite (.tmp 17) (.skip)
        (.reg [
          .op (some 19) none (.eql false false [.int] (.tmp 14) (.const (.int .i64 3))),
          .op (some 17) none (.mv (.tmp 19))]))))
      (.keep [1, 14, 17] [] (.ite (.tmp 17) (.seq (.reg [
          .op (some 2) none (.mv (.const (.int .i64 0))),
          .op (some 3) none (.mv (.const (.int .i64 0)))])
        (.keep [2, 3] [] (.ret)))
        (.seq (.reg [
          .op (some 21) none (.eql false false [.int] (.tmp 14) (.const (.int .i64 6))),
          .op (some 20) none (.mv (.tmp 21))])
        (.keep [1, 20] [] (.ite (.tmp 20) (.seq (.reg [
            .op (some 23) none (.faddr 12 (.tmp 1)),
            .op (some 24) none (.load false 1 (.tmp 23)),
            .op (some 25) none (.iaddr 13 (.tmp 24) (.const (.int .i64 0))),
            .op (some 26) none (.load true 13 (.tmp 25)),
            .op (some 27) none (.call f_query_width [(.tmp 26)]),
            .op (some 22) none (.mv (.tmp 27)),
            .op (some 28) none (.ext (.tmp 22) 0),
            .op (some 29) none (.ext (.tmp 22) 1),
            .op (some 4) none (.mv (.tmp 28)),
            .op (some 5) none (.mv (.tmp 29))])
          (.keep [1, 4, 5] [] (.seq (.reg [
            .op (some 30) none (.mv (.tmp 4)),
            .op (some 31) none (.faddr 10 (.tmp 1)),
            .op (some 32) none (.load false 1 (.tmp 31)),
            .op (some 33) none (.arith .mul (.tmp 30) (.tmp 32)),
            .op (some 34) none (.mm false [(.tmp 33), (.const (.int .i64 10000))]),
            .op (some 4) none (.mv (.tmp 34))])
          (.keep [1, 4, 5] [] (.seq /- 11 -/ (.block 1 (.seq (.reg [
              .op (some 36) none (.faddr 11 (.tmp 1)),
              .op (some 37) none (.load false 1 (.tmp 36)),
              .op (some 38) none (.eql false false [.int] (.tmp 37) (.const (.int .i64 0))),
              .op (some 39) none (.mv (.tmp 38)),
              .op (some 40) (some (39, false)) (.mv (.tmp 5)),
              .op (some 41) (some (39, false)) (.eql false false [.int] (.tmp 40) (.const (.int .i64 0))),
              .op (some 42) none (.pick (.tmp 39) (.const (.bool true)) (.tmp 41)),
              .op (some 35) none (.mv (.tmp 42))])
            (.keep [1, 4, 5, 35] [] (.ite (.tmp 35) (.seq (.reg [
                .op (some 43) none (.mv (.tmp 4)),
                .op (some 2) none (.mv (.tmp 43)),
                .op (some 3) none (.mv (.const (.int .i64 0)))])
              (.keep [2, 3] [] (.ret)))
              (.seq (.reg [
                .op (some 45) none (.faddr 11 (.tmp 1)),
                .op (some 46) none (.load false 1 (.tmp 45)),
                .op (some 47) none (.cmp .lss (.tmp 46) (.const (.int .i64 0))),
                .op (some 48) none (.mv (.tmp 47)),
                .op (some 49) (some (48, false)) (.mv (.tmp 5)),
                .op (some 50) (some (48, false)) (.cmp .lss (.tmp 49) (.const (.int .i64 0))),
                .op (some 51) none (.pick (.tmp 48) (.const (.bool true)) (.tmp 50)),
                .op (some 44) none (.mv (.tmp 51))])
              (.keep [1, 4, 5, 44] [] (.ite (.tmp 44) (.seq (.reg [
                  .op (some 52) none (.mv (.tmp 4)),
                  .op (some 2) none (.mv (.tmp 52)),
                  .op (some 3) none (.mv (.const (.int .i64 (-1))))])
                (.keep [2, 3] [] (.ret)))
                (.skip))))))))
          (.keep [1, 4, 5] [] (.seq (.regd [
            .op (some 53) none (.mv (.tmp 4)),
            .op (some 54) none (.mv (.tmp 5)),
            .op (some 55) none (.faddr 11 (.tmp 1)),
            .op (some 56) none (.load false 1 (.tmp 55)),
            .op (some 57) none (.arith .mul (.tmp 54) (.tmp 56)),
            .op (some 58) none (.mm false [(.tmp 57), (.const (.int .i64 10000))]),
            .op (some 2) none (.mv (.tmp 53))] [
            .op (some 3) none (.mv (.tmp 58))])
          (.keep [2, 3] [] (.ret)))))))))
          (.skip)))))))))))))
  (.keep [1] [] (.seq (.reg [
    .op (some 60) none (.faddr 12 (.tmp 1)),
    .op (some 61) none (.load false 1 (.tmp 60)),
    .op (some 62) none (.iaddr 13 (.tmp 61) (.const (.int .i64 0))),
    .op (some 63) none (.load true 13 (.tmp 62)),
    .op (some 64) none (.call f_query_width [(.tmp 63)]),
    .op (some 59) none (.mv (.tmp 64)),
    .op (some 65) none (.ext (.tmp 59) 0),
    .op (some 66) none (.ext (.tmp 59) 1),
    .op (some 6) none (.mv (.tmp 65)),
    .op (some 7) none (.mv (.tmp 66))])
  (.keep [1, 6, 7] [] (.seq /- 18 -/ (.seq (.reg [
    .op (some 67) none (.faddr 12 (.tmp 1)),
    .op (some 68) none (.load false 1 (.tmp 67)),
    .op (some 69) none (.slice 13 (.tmp 68) (some (.const (.int .i64 1))) none),
    .op (some 70) none (.len (.tmp 69)),
    .op (some 71) none (.mv (.const (.int .i64 0)))])
  (.keep [1, 6, 7, 69, 70, 71] [] (rangeCC 2 71 70 72 3 (.seq (.reg [
      .op (some 73) none (.iaddr 13 (.tmp 69) (.tmp 71)),
      .op (some 74) none (.load true 13 (.tmp 73)),
      .op (some 9) none (.alloc ty_Pattern [(.int .i64 0), (.int .i64 0), (.string ⟨#[]⟩), (.string ⟨#[]⟩), (.string ⟨#[]⟩), (.string ⟨#[]⟩), (.bool false), (.slice none 0 0), (.string ⟨#[]⟩), (.string ⟨#[]⟩), (.int .i64 0), (.int .i64 0), (.slice none 0 0)]),
      .op none none (.store none 13 (.tmp 9) (.tmp 74))])
    (.keep [1, 6, 7, 9, 69, 70, 71] [9] (.seq (.reg [
      .op (some 76) none (.load true 13 (.tmp 9)),
      .op (some 77) none (.call f_query_width [(.tmp 76)]),
      .op (some 75) none (.mv (.tmp 77)),
      .op (some 78) none (.ext (.tmp 75) 0),
      .op (some 79) none (.ext (.tmp 75) 1),
      .op (some 10) none (.mv (.tmp 78)),
      .op (some 11) none (.mv (.tmp 79))])
    (.keep [1, 6, 7, 10, 11, 69, 70, 71] [] (.seq (.reg [
      .op (some 80) none (.mv (.tmp 7)),
      .op (some 81) none (.cmp .lss (.tmp 80) (.const (.int .i64 0))),
      .op (some 82) none (.mv (.tmp 81)),
      .op (some 83) (some (82, false)) (.mv (.tmp 11)),
      .op (some 84) (some (82, false)) (.cmp .lss (.tmp 83) (.const (.int .i64 0))),
      .op (some 85) none (.pick (.tmp 82) (.const (.bool true)) (.tmp 84)),
      .op (some 12) none (.mv (.tmp 85))])
    (.keep [1, 6, 7, 10, 11, 12, 69, 70, 71] [] (.seq /- 23 -/ (.seq (.reg [
      .op (some 86) none (.faddr 0 (.tmp 1)),
      .op (some 87) none (.load false 1 (.tmp 86)),
      .op (some 88) none (.eql false false [.int] (.tmp 87) (.const (.int .i64 4)))])
    (.keep [1, 6, 7, 10, 11, 12, 69, 70, 71, 88] [] (.ite (.tmp 88) (.reg [
        .op (some 89) none (.mv (.tmp 6)),
        .op (some 90) none (.mv (.tmp 10)),
        .op (some 91) none (.arith .add (.tmp 89) (.tmp 90)),
        .op (some 92) none (.mm false [(.tmp 91), (.const (.int .i64 10000))]),
        .op (some 93) none (.mv (.tmp 7)),
        .op (some 94) none (.mv (.tmp 11)),
        .op (some 95) none (.arith .add (.tmp 93) (.tmp 94)),
        .op (some 96) none (.mm false [(.tmp 95), (.const (.int .i64 10000))]),
        .op (some 6) none (.mv (.tmp 92)),
        .op (some 7) none (.mv (.tmp 96))])
      (.reg [
        .op (some 97) none (.mv (.tmp 6)),
        .op (some 98) none (.mv (.tmp 10)),
        .op (some 99) none (.mm false [(.tmp 97), (.tmp 98)]),
        .op (some 100) none (.mv (.tmp 7)),
        .op (some 101) none (.mv (.tmp 11)),
        .op (some 102) none (.mm true [(.tmp 100), (.tmp 101)]),
        .op (some 6) none (.mv (.tmp 99)),
        .op (some 7) none (.mv (.tmp 102))]))))
    (.keep [1, 6, 7, 12, 69, 70, 71] [] (.seq (.reg [
      .op (some 103) none (.mv (.tmp 12))])
    (.keep [1, 6, 7, 69, 70, 71, 103] [] (.ite (.tmp 103) (.reg [
        .op (some 7) none (.mv (.const (.int .i64 (-1))))])
      (.skip)))))))))))) 104)))
  (.keep [6, 7] [] (.seq (.reg [
    .op (some 105) none (.mv (.tmp 6)),
    .op (some 106) none (.mv (.tmp 7)),
    .op (some 2) none (.mv (.tmp 105)),
    .op (some 3) none (.mv (.tmp 106))])
  (.keep [2, 3] [] (.ret))))))))))
def rs_query_width : List CRes := [.tmp 2, .tmp 3]
def im_query_width : List Nat := [1]
theorem ok_query_width : FnOk Tryz.prog f_query_width im_query_width cc_query_width rs_query_width 107 := fnOk1 mixed (by kernel_rfl)
/-- corpora/query.Width [Pattern] -> [int, int] -/
def cc_query_Width : CC :=
  .seq (.reg [
    .op (some 1) none (.box ty_Pattern true (.tmp 0)),
    .op (some 2) none (.mv (.const (.int .i64 0))),
    .op (some 3) none (.mv (.const (.int .i64 0)))])
  (.keep [1] [] (.seq /- 1 -/ (.seq (.reg [
    .op (some 4) none (.load true 13 (.tmp 1)),
    .op (some 5) none (.call f_query_right [(.tmp 4)]),
    .op (some 6) none (.not (.tmp 5))])
  (.keep [1, 6] [] (.ite (.tmp 6) (.seq (.reg [
      .op (some 2) none (.mv (.const (.int .i64 0))),
      .op (some 3) none (.mv (.const (.int .i64 0)))])
    (.keep [2, 3] [] (.ret)))
    (.skip))))
  (.keep [1] [] (.seq (.reg [
    .op (some 7) none (.load true 13 (.tmp 1)),
    .op (some 8) none (.call f_query_width [(.tmp 7)]),
    .op (some 9) none (.ext (.tmp 8) 0),
    .op (some 10) none (.ext (.tmp 8) 1),
    .op (some 2) none (.mv (.tmp 9)),
    .op (some 3) none (.mv (.tmp 10))])
  (.keep [2, 3] [] (.ret))))))
def rs_query_Width : List CRes := [.tmp 2, .tmp 3]
def im_query_Width : List Nat := [1]
theorem ok_query_Width : FnOk Tryz.prog f_query_Width im_query_Width cc_query_Width rs_query_Width 11 := fnOk1 mixed (by kernel_rfl)
-- markup_ValidName range i=20 n=19 c=21 i2=28 id=0: live [0:s] changed [] res []
/-- corpora/markup.ValidName [string] -> [bool] -/
def cc_markup_ValidName : CC :=
  .seq (.reg [
    .op (some 2) none (.mv (.const (.bool false)))])
  (.keep [0] [] (.seq /- 1 -/ (.seq (.reg [
    .op (some 4) none (.mv (.tmp 0)),
    .op (some 5) none (.slen (.tmp 4)),
    .op (some 6) none (.cmp .lss (.tmp 5) (.const (.int .i64 1))),
    .op (some 7) none (.mv (.tmp 6)),
    .op (some 8) (some (7, false)) (.mv (.tmp 0)),
    .op (some 9) (some (7, false)) (.slen (.tmp 8)),
    .op (some 10) (some (7, false)) (.cmp .gtr (.tmp 9) (.const (.int .i64 32))),
    .op (some 11) none (.pick (.tmp 7) (.const (.bool true)) (.tmp 10)),
    .op (some 12) none (.mv (.tmp 11)),
    .op (some 13) (some (12, false)) (.mv (.tmp 0)),
    .op (some 14) (some (12, false)) (.sidx (.tmp 13) (.const (.int .i64 0))),
    .op (some 15) (some (12, false)) (.call f_markup_begins [(.tmp 14)]),
    .op (some 16) (some (12, false)) (.not (.tmp 15)),
    .op (some 17) none (.pick (.tmp 12) (.const (.bool true)) (.tmp 16))])
  (.keep [0, 17] [] (.ite (.tmp 17) (.seq (.reg [
      .op (some 2) none (.mv (.const (.bool false)))])
    (.keep [2] [] (.ret)))
    (.skip))))
  (.keep [0] [] (.seq /- 4 -/ (.seq (.reg [
    .op (some 18) none (.mv (.tmp 0)),
    .op (some 19) none (.slen (.tmp 18)),
    .op (some 20) none (.mv (.const (.int .i64 0)))])
  (.keep [0, 19, 20] [] (rangeCC 0 20 19 21 1 (.seq (.reg [
      .op (some 22) none (.mv (.tmp 20)),
      .op (some 3) none (.mv (.tmp 22))])
    (.keep [0, 3, 19, 20] [] (.seq (.reg [
      .op (some 23) none (.mv (.tmp 0)),
      .op (some 24) none (.mv (.tmp 3)),
      .op (some 25) none (.sidx (.tmp 23) (.tmp 24)),
      .op (some 26) none (.call f_markup_goesOn [(.tmp 25)]),
      .op (some 27) none (.not (.tmp 26))])
    (.keep [0, 19, 20, 27] [] (.ite (.tmp 27) (.seq (.reg [
        .op (some 2) none (.mv (.const (.bool false)))])
      (.keep [2] [] (.ret)))
      (.skip)))))) 28)))
  (.keep [] [] (.seq (.reg [
    .op (some 2) none (.mv (.const (.bool true)))])
  (.keep [2] [] (.ret))))))))
def rs_markup_ValidName : List CRes := [.tmp 2]
def im_markup_ValidName : List Nat := []
theorem ok_markup_ValidName : FnOk Tryz.prog f_markup_ValidName im_markup_ValidName cc_markup_ValidName rs_markup_ValidName 29 := fnOk1 mixed (by kernel_rfl)
/-- corpora/markup.begins [uint8] -> [bool] -/
def cc_markup_begins : CC :=
  .seq (.reg [
    .op (some 2) none (.mv (.const (.bool false)))])
  (.keep [0] [] (.seq (.reg [
    .op (some 3) none (.mv (.tmp 0)),
    .op (some 4) none (.cmp .geq (.tmp 3) (.const (.int .u8 65))),
    .op (some 5) none (.mv (.tmp 4)),
    .op (some 6) (some (5, true)) (.mv (.tmp 0)),
    .op (some 7) (some (5, true)) (.cmp .leq (.tmp 6) (.const (.int .u8 90))),
    .op (some 8) none (.pick (.tmp 5) (.tmp 7) (.const (.bool false))),
    .op (some 9) none (.mv (.tmp 8)),
    .op (some 10) (some (9, false)) (.mv (.tmp 0)),
    .op (some 11) (some (9, false)) (.cmp .geq (.tmp 10) (.const (.int .u8 97))),
    .op (some 12) (some (9, false)) (.mv (.tmp 11)),
    .op (some 13) (some (12, true)) (.mv (.tmp 0)),
    .op (some 14) (some (12, true)) (.cmp .leq (.tmp 13) (.const (.int .u8 122))),
    .op (some 15) (some (9, false)) (.pick (.tmp 12) (.tmp 14) (.const (.bool false))),
    .op (some 16) none (.pick (.tmp 9) (.const (.bool true)) (.tmp 15)),
    .op (some 17) none (.mv (.tmp 16)),
    .op (some 18) (some (17, false)) (.mv (.tmp 0)),
    .op (some 19) (some (17, false)) (.eql false false [.int] (.tmp 18) (.const (.int .u8 95))),
    .op (some 20) none (.pick (.tmp 17) (.const (.bool true)) (.tmp 19)),
    .op (some 2) none (.mv (.tmp 20))])
  (.keep [2] [] (.ret))))
def rs_markup_begins : List CRes := [.tmp 2]
def im_markup_begins : List Nat := []
theorem ok_markup_begins : FnOk Tryz.prog f_markup_begins im_markup_begins cc_markup_begins rs_markup_begins 21 := fnOk1 mixed (by kernel_rfl)
/-- corpora/markup.goesOn [uint8] -> [bool] -/
def cc_markup_goesOn : CC :=
  .seq (.reg [
    .op (some 2) none (.mv (.const (.bool false)))])
  (.keep [0] [] (.seq (.reg [
    .op (some 3) none (.mv (.tmp 0)),
    .op (some 4) none (.call f_markup_begins [(.tmp 3)]),
    .op (some 5) none (.mv (.tmp 4)),
    .op (some 6) (some (5, false)) (.mv (.tmp 0)),
    .op (some 7) (some (5, false)) (.cmp .geq (.tmp 6) (.const (.int .u8 48))),
    .op (some 8) (some (5, false)) (.mv (.tmp 7)),
    .op (some 9) (some (8, true)) (.mv (.tmp 0)),
    .op (some 10) (some (8, true)) (.cmp .leq (.tmp 9) (.const (.int .u8 57))),
    .op (some 11) (some (5, false)) (.pick (.tmp 8) (.tmp 10) (.const (.bool false))),
    .op (some 12) none (.pick (.tmp 5) (.const (.bool true)) (.tmp 11)),
    .op (some 13) none (.mv (.tmp 12)),
    .op (some 14) (some (13, false)) (.mv (.tmp 0)),
    .op (some 15) (some (13, false)) (.eql false false [.int] (.tmp 14) (.const (.int .u8 45))),
    .op (some 16) none (.pick (.tmp 13) (.const (.bool true)) (.tmp 15)),
    .op (some 2) none (.mv (.tmp 16))])
  (.keep [2] [] (.ret))))
def rs_markup_goesOn : List CRes := [.tmp 2]
def im_markup_goesOn : List Nat := []
theorem ok_markup_goesOn : FnOk Tryz.prog f_markup_goesOn im_markup_goesOn cc_markup_goesOn rs_markup_goesOn 17 := fnOk1 mixed (by kernel_rfl)
/-- slices.ContainsFunc[[]corpora/api.Pattern,corpora/api.Pattern] [L_Pattern, func_Pattern_bool] -> [bool] -/
def cc_slices_ContainsFunc_Pattern : CC :=
  .seq (.reg [
    .op (some 4) none (.mv (.const (.bool false)))])
  (.keep [0, 1] [] (.seq (.reg [
    .op (some 5) none (.mv (.tmp 0)),
    .op (some 6) none (.mv (.tmp 1)),
    .op (some 7) none (.call f_slices_IndexFunc_Pattern [(.tmp 5), (.tmp 6)]),
    .op (some 8) none (.cmp .geq (.tmp 7) (.const (.int .i64 0))),
    .op (some 4) none (.mv (.tmp 8))])
  (.keep [4] [] (.ret))))
def rs_slices_ContainsFunc_Pattern : List CRes := [.tmp 4]
def im_slices_ContainsFunc_Pattern : List Nat := []
theorem ok_slices_ContainsFunc_Pattern : FnOk Tryz.prog f_slices_ContainsFunc_Pattern im_slices_ContainsFunc_Pattern cc_slices_ContainsFunc_Pattern rs_slices_ContainsFunc_Pattern 9 := fnOk1 mixed (by kernel_rfl)
-- slices_IndexFunc_Pattern range i=8 n=7 c=9 i2=18 id=0: live [0:s, 1:f] changed [] res []
/-- slices.IndexFunc[[]corpora/api.Pattern,corpora/api.Pattern] [L_Pattern, func_Pattern_bool] -> [int] -/
def cc_slices_IndexFunc_Pattern : CC :=
  .seq (.reg [
    .op (some 4) none (.mv (.const (.int .i64 0)))])
  (.keep [0, 1] [] (.seq /- 1 -/ (.seq (.reg [
    .op (some 6) none (.mv (.tmp 0)),
    .op (some 7) none (.len (.tmp 6)),
    .op (some 8) none (.mv (.const (.int .i64 0)))])
  (.keep [0, 1, 7, 8] [] (rangeCC 0 8 7 9 1 (.seq (.reg [
      .op (some 10) none (.mv (.tmp 8)),
      .op (some 5) none (.mv (.tmp 10))])
    (.keep [0, 1, 5, 7, 8] [] (.seq (.reg [
      .op (some 11) none (.mv (.tmp 1)),
      .op (some 12) none (.mv (.tmp 0)),
      .op (some 13) none (.mv (.tmp 5)),
      .op (some 14) none (.iaddr 13 (.tmp 12) (.tmp 13)),
      .op (some 15) none (.load true 13 (.tmp 14)),
      .op (some 16) none (.callv (.tmp 11) [(.tmp 15)])])
    (.keep [0, 1, 5, 7, 8, 16] [] (.ite (.tmp 16) (.seq (.reg [
        .op (some 17) none (.mv (.tmp 5)),
        .op (some 4) none (.mv (.tmp 17))])
      (.keep [4] [] (.ret)))
      (.skip)))))) 18)))
  (.keep [] [] (.seq (.reg [
    .op (some 4) none (.mv (.const (.int .i64 (-1))))])
  (.keep [4] [] (.ret))))))
def rs_slices_IndexFunc_Pattern : List CRes := [.tmp 4]
def im_slices_IndexFunc_Pattern : List Nat := []
theorem ok_slices_IndexFunc_Pattern : FnOk Tryz.prog f_slices_IndexFunc_Pattern im_slices_IndexFunc_Pattern cc_slices_IndexFunc_Pattern rs_slices_IndexFunc_Pattern 19 := fnOk1 mixed (by kernel_rfl)
-- r22_Same range i=58 n=57 c=59 i2=73 id=0: live [2:a, 3:b] changed [] res []
-- r23_shapes range i=14 n=13 c=15 i2=23 id=0: live [1:deep, 12:] changed [] res []
-- r23_names range i=33 n=32 c=34 i2=40 id=0: live [31:] changed [] res []
-- r23_numbers range i=38 n=37 c=39 i2=45 id=0: live [36:] changed [] res []
-- r23_leaves range i=17 n=16 c=18 i2=24 id=0: live [1:out, 15:] changed [1] res [1, 23]
end Go.Gv

namespace Go.Gv
open Cod (enc dec)
set_option linter.unusedSimpArgs false

structure Cond where
  op : Int
  name : B
  arg : B
  val : B
  lab : B
  fold : Bool
  kids : List Cond

mutual
def encC : Cond → D
  | .mk op n a v l f ks => .agg [enc op, enc n, enc a, enc v, enc l, enc f, .list 7 (encCs ks)]
def encCs : List Cond → List D
  | [] => []
  | k :: ks => encC k :: encCs ks
end
mutual
def decC : D → Option Cond
  | .agg [x0, x1, x2, x3, x4, x5, x6] => (dec x0).bind fun op => (dec x1).bind fun n => (dec x2).bind fun a => (dec x3).bind fun v => (dec x4).bind fun l => (dec x5).bind fun f => (decK x6).bind fun ks => some (.mk op n a v l f ks)
  | _ => none
def decK : D → Option (List Cond)
  | .list n es => if n = 7 then decCs es else none
  | .v (.slice none 0 0) => some []
  | _ => none
def decCs : List D → Option (List Cond)
  | [] => some []
  | d :: ds => (decC d).bind fun x => (decCs ds).bind fun xs => some (x :: xs)
end
theorem encCs_map : ∀ l : List Cond, encCs l = l.map encC
  | [] => rfl
  | _ :: l => by rw [encCs, encCs_map l]; rfl
theorem encC_kn : ∀ c : Cond, (encC c).kn = true
  | .mk .. => rfl
theorem encC_wid : ∀ c : Cond, (encC c).cells.length = 7
  | .mk .. => rfl
mutual
theorem decC_enc : ∀ c : Cond, decC (encC c) = some c
  | .mk op n a v l f ks => by
    have h : decK (.list 7 (encCs ks)) = some ks := by rw [decK, if_pos rfl]; exact decCs_enc ks
    simp only [encC, decC, Cod.dec_enc, Option.bind_some, h]
theorem decCs_enc : ∀ l : List Cond, decCs (encCs l) = some l
  | [] => by simp only [encCs, decCs]
  | c :: l => by simp only [encCs, decCs, decC_enc c, decCs_enc l, Option.bind_some]
end
mutual
theorem decC_le : ∀ (d : D) (c : Cond), decC d = some c → FrzTo noH d (encC c)
  | .agg [x0, x1, x2, x3, x4, x5, x6], c, h => by
    simp only [decC, Option.bind_eq_some_iff, Option.some.injEq] at h
    obtain ⟨op, h0, n, h1, a, h2, v, h3, l, h4, f, h5, ks, h6, rfl⟩ := h
    rw [encC]
    exact LeL.agg (.cons (Cod.le _ _ h0) (.cons (Cod.le _ _ h1) (.cons (Cod.le _ _ h2) (.cons (Cod.le _ _ h3) (.cons (Cod.le _ _ h4) (.cons (Cod.le _ _ h5) (.cons (decK_le x6 ks h6) .nil)))))))
theorem decK_le : ∀ (d : D) (l : List Cond), decK d = some l → FrzTo noH d (.list 7 (encCs l))
  | .list n es, l, h => by
    simp only [decK] at h
    split at h
    · rename_i hn
      subst hn
      have hl := decCs_le es l h
      refine .list hl.1 (fun e he => ?_) hl.2
      rw [encCs_map] at he
      obtain ⟨x, hx, rfl⟩ := List.mem_map.1 he
      exact ⟨encC_kn x, encC_wid x⟩
    · cases h
  | .v (.slice none 0 0), l, h => by
    simp only [decK, Option.some.injEq] at h
    subst h
    exact .nil _
theorem decCs_le : ∀ (es : List D) (l : List Cond), decCs es = some l → LeL es (encCs l)
  | [], l, h => by
    simp only [decCs, Option.some.injEq] at h
    subst h
    exact .nil
  | d :: ds, l, h => by
    simp only [decCs, Option.bind_eq_some_iff, Option.some.injEq] at h
    obtain ⟨x, h1, xs, h2, rfl⟩ := h
    rw [encCs]
    exact .cons (decC_le d x h1) (decCs_le ds xs h2)
end
instance : Cod Cond where
  wd := 7
  enc := encC
  dec := decC
  kn := encC_kn
  wid := encC_wid
  dec_enc := decC_enc
  le := decC_le
theorem encCs_enc (ks : List Cond) : D.list 7 (encCs ks) = enc ks := by rw [encCs_map]; rfl
theorem enc_cond (op : Int) (n a v l : B) (f : Bool) (ks : List Cond) : enc (Cond.mk op n a v l f ks) = .agg [enc op, enc n, enc a, enc v, enc l, enc f, enc ks] := by
  rw [← encCs_enc]
  show encC _ = _
  rw [encC]

structure Pat where
  op : Int
  cond : Cond
  lab : B
  reg : B
  mn : Int
  mx : Int
  kids : List Pat

def cellsC : Cond → List D
  | .mk op n a v l f ks => [enc op, enc n, enc a, enc v, enc l, enc f, enc ks]
theorem cellsC_len : ∀ c : Cond, (cellsC c).length = 7
  | .mk .. => rfl
mutual
def encP : Pat → D
  | .mk op c l r mn mx ks => .agg (enc op :: (cellsC c ++ [enc l, enc r, enc mn, enc mx, .list 13 (encPs ks)]))
def encPs : List Pat → List D
  | [] => []
  | k :: ks => encP k :: encPs ks
end
mutual
def decP : D → Option Pat
  | .agg [x0, y0, y1, y2, y3, y4, y5, y6, x1, x2, x3, x4, x5] => (dec x0).bind fun op => (dec (D.agg [y0, y1, y2, y3, y4, y5, y6])).bind fun c => (dec x1).bind fun l => (dec x2).bind fun r => (dec x3).bind fun mn => (dec x4).bind fun mx => (decPK x5).bind fun ks => some (.mk op c l r mn mx ks)
  | _ => none
def decPK : D → Option (List Pat)
  | .list n es => if n = 13 then decPs es else none
  | .v (.slice none 0 0) => some []
  | _ => none
def decPs : List D → Option (List Pat)
  | [] => some []
  | d :: ds => (decP d).bind fun x => (decPs ds).bind fun xs => some (x :: xs)
end
theorem encPs_map : ∀ l : List Pat, encPs l = l.map encP
  | [] => rfl
  | _ :: l => by rw [encPs, encPs_map l]; rfl
theorem encP_kn : ∀ c : Pat, (encP c).kn = true
  | .mk .. => rfl
theorem encP_wid : ∀ c : Pat, (encP c).cells.length = 13
  | .mk op c l r mn mx ks => by simp [encP, D.cells, cellsC_len]
mutual
theorem decP_enc : ∀ c : Pat, decP (encP c) = some c
  | .mk op (.mk cop n a v cl f cks) l r mn mx ks => by
    have h : decPK (.list 13 (encPs ks)) = some ks := by rw [decPK, if_pos rfl]; exact decPs_enc ks
    have hc : dec (D.agg [enc cop, enc n, enc a, enc v, enc cl, enc f, enc cks]) = some (Cond.mk cop n a v cl f cks) := by rw [← enc_cond]; exact Cod.dec_enc _
    simp only [encP, cellsC, List.cons_append, List.nil_append, decP, Cod.dec_enc, Option.bind_some, h, hc]
theorem decPs_enc : ∀ l : List Pat, decPs (encPs l) = some l
  | [] => by simp only [encPs, decPs]
  | c :: l => by simp only [encPs, decPs, decP_enc c, decPs_enc l, Option.bind_some]
end
theorem dec_condL {y0 y1 y2 y3 y4 y5 y6 : D} {c : Cond} (h : dec (D.agg [y0, y1, y2, y3, y4, y5, y6]) = some c) : LeL [y0, y1, y2, y3, y4, y5, y6] (cellsC c) := by
  have h' : decC (D.agg [y0, y1, y2, y3, y4, y5, y6]) = some c := h
  simp only [decC, Option.bind_eq_some_iff, Option.some.injEq] at h'
  obtain ⟨op, h0, n, h1, a, h2, v, h3, l, h4, f, h5, ks, h6, rfl⟩ := h'
  have hk := decK_le y6 ks h6
  rw [encCs_enc] at hk
  exact .cons (Cod.le _ _ h0) (.cons (Cod.le _ _ h1) (.cons (Cod.le _ _ h2) (.cons (Cod.le _ _ h3) (.cons (Cod.le _ _ h4) (.cons (Cod.le _ _ h5) (.cons hk .nil))))))
theorem LeL.append {a b c d : List D} (h : LeL a b) (k : LeL c d) : LeL (a ++ c) (b ++ d) := by
  refine ⟨by simp [h.1, k.1], fun i x y hx hy => ?_⟩
  rw [List.getElem?_append] at hx hy
  by_cases hi : i < a.length
  · rw [if_pos hi] at hx
    rw [if_pos (by rw [← h.1]; exact hi)] at hy
    exact h.2 i x y hx hy
  · rw [if_neg hi] at hx
    rw [if_neg (by rw [← h.1]; exact hi), ← h.1] at hy
    exact k.2 _ x y hx hy
mutual
theorem decP_le : ∀ (d : D) (c : Pat), decP d = some c → FrzTo noH d (encP c)
  | .agg [x0, y0, y1, y2, y3, y4, y5, y6, x1, x2, x3, x4, x5], c, h => by
    simp only [decP, Option.bind_eq_some_iff, Option.some.injEq] at h
    obtain ⟨op, h0, c, h1, l, h2, r, h3, mn, h4, mx, h5, ks, h6, rfl⟩ := h
    rw [encP]
    exact LeL.agg (.cons (Cod.le _ _ h0) ((dec_condL h1).append (.cons (Cod.le _ _ h2) (.cons (Cod.le _ _ h3) (.cons (Cod.le _ _ h4) (.cons (Cod.le _ _ h5) (.cons (decPK_le x5 ks h6) .nil)))))))
theorem decPK_le : ∀ (d : D) (l : List Pat), decPK d = some l → FrzTo noH d (.list 13 (encPs l))
  | .list n es, l, h => by
    simp only [decPK] at h
    split at h
    · rename_i hn
      subst hn
      have hl := decPs_le es l h
      refine .list hl.1 (fun e he => ?_) hl.2
      rw [encPs_map] at he
      obtain ⟨x, hx, rfl⟩ := List.mem_map.1 he
      exact ⟨encP_kn x, encP_wid x⟩
    · cases h
  | .v (.slice none 0 0), l, h => by
    simp only [decPK, Option.some.injEq] at h
    subst h
    exact .nil _
theorem decPs_le : ∀ (es : List D) (l : List Pat), decPs es = some l → LeL es (encPs l)
  | [], l, h => by
    simp only [decPs, Option.some.injEq] at h
    subst h
    exact .nil
  | d :: ds, l, h => by
    simp only [decPs, Option.bind_eq_some_iff, Option.some.injEq] at h
    obtain ⟨x, h1, xs, h2, rfl⟩ := h
    rw [encPs]
    exact .cons (decP_le d x h1) (decPs_le ds xs h2)
end
instance : Cod Pat where
  wd := 13
  enc := encP
  dec := decP
  kn := encP_kn
  wid := encP_wid
  dec_enc := decP_enc
  le := decP_le
theorem encPs_enc (ks : List Pat) : D.list 13 (encPs ks) = enc ks := by rw [encPs_map]; rfl
theorem enc_pat (op : Int) (c : Cond) (l r : B) (mn mx : Int) (ks : List Pat) : enc (Pat.mk op c l r mn mx ks) = .agg (enc op :: (cellsC c ++ [enc l, enc r, enc mn, enc mx, enc ks])) := by
  rw [← encPs_enc]
  show encP _ = _
  rw [encP]

theorem decCs_mapM : ∀ es : List D, decCs es = es.mapM (dec (X := Cond))
  | [] => by simp [decCs]
  | d :: es => by
    rw [decCs, List.mapM_cons, decCs_mapM es]
    rfl
theorem decK_eq : ∀ d : D, decK d = dec (X := List Cond) d := fun d => by
  unfold decK
  split
  · rename_i n es
    show _ = if n = 7 then es.mapM (dec (X := Cond)) else none
    rw [decCs_mapM]
  · rfl
  · rename_i h1 h2
    show _ = (match d with
      | .list n es => if n = 7 then es.mapM (dec (X := Cond)) else none
      | .v (.slice none 0 0) => some []
      | _ => none)
    split
    · exact absurd rfl (h1 _ _)
    · exact absurd rfl h2
    · rfl
theorem decPs_mapM : ∀ es : List D, decPs es = es.mapM (dec (X := Pat))
  | [] => by simp [decPs]
  | d :: es => by
    rw [decPs, List.mapM_cons, decPs_mapM es]
    rfl
theorem decPK_eq : ∀ d : D, decPK d = dec (X := List Pat) d := fun d => by
  unfold decPK
  split
  · rename_i n es
    show _ = if n = 13 then es.mapM (dec (X := Pat)) else none
    rw [decPs_mapM]
  · rfl
  · rename_i h1 h2
    show _ = (match d with
      | .list n es => if n = 13 then es.mapM (dec (X := Pat)) else none
      | .v (.slice none 0 0) => some []
      | _ => none)
    split
    · exact absurd rfl (h1 _ _)
    · exact absurd rfl h2
    · rfl
@[simp] theorem eta_Cond (s : Cond) : Cond.mk s.op s.name s.arg s.val s.lab s.fold s.kids = s := by cases s; rfl
@[simp] theorem enc_Cond (s : Cond) : enc s = .agg [enc s.op, enc s.name, enc s.arg, enc s.val, enc s.lab, enc s.fold, enc s.kids] := by cases s; exact enc_cond ..
@[simp] theorem wd_Cond : Cod.wd Cond = 7 := id rfl
@[simp] theorem dec_Cond (x0 x1 x2 x3 x4 x5 x6 : D) : dec (X := Cond) (.agg [x0, x1, x2, x3, x4, x5, x6]) = ((dec x0).bind fun x0 => (dec x1).bind fun x1 => (dec x2).bind fun x2 => (dec x3).bind fun x3 => (dec x4).bind fun x4 => (dec x5).bind fun x5 => (dec x6).bind fun x6 => some ⟨x0, x1, x2, x3, x4, x5, x6⟩) := by
  show decC _ = _
  simp only [decC, decK_eq]
@[simp] theorem eta_Pat (s : Pat) : Pat.mk s.op s.cond s.lab s.reg s.mn s.mx s.kids = s := by cases s; rfl
@[simp] theorem enc_Pat (s : Pat) : enc s = .agg [enc s.op, enc s.cond.op, enc s.cond.name, enc s.cond.arg, enc s.cond.val, enc s.cond.lab, enc s.cond.fold, enc s.cond.kids, enc s.lab, enc s.reg, enc s.mn, enc s.mx, enc s.kids] := by
  obtain ⟨op, ⟨a, b, c, d, e, f, g⟩, l, r, mn, mx, ks⟩ := s
  exact enc_pat ..
@[simp] theorem wd_Pat : Cod.wd Pat = 13 := id rfl
@[simp] theorem dec_Pat (x0 y0 y1 y2 y3 y4 y5 y6 x1 x2 x3 x4 x5 : D) : dec (X := Pat) (.agg [x0, y0, y1, y2, y3, y4, y5, y6, x1, x2, x3, x4, x5]) =
    ((dec x0).bind fun x0 => (dec y0).bind fun y0 => (dec y1).bind fun y1 => (dec y2).bind fun y2 => (dec y3).bind fun y3 => (dec y4).bind fun y4 => (dec y5).bind fun y5 => (dec y6).bind fun y6 =>
      (dec x1).bind fun x1 => (dec x2).bind fun x2 => (dec x3).bind fun x3 => (dec x4).bind fun x4 => (dec x5).bind fun x5 => some ⟨x0, ⟨y0, y1, y2, y3, y4, y5, y6⟩, x1, x2, x3, x4, x5⟩) := by
  show decP _ = _
  simp only [decP, decPK_eq, dec_Cond, Option.bind_assoc, Option.bind_some]
end Go.Gv

namespace Go.Gv
set_option linter.unusedSimpArgs false
set_option linter.unusedVariables false

theorem take_snoc {α : Type} {l : List α} {k : Nat} {a : α} (h : l[k]? = some a) : l.take (k + 1) = l.take k ++ [a] := by
  rw [List.take_add_one, h]; rfl
theorem drop_cons_of {α : Type} {l : List α} {k : Nat} {a : α} (h : l[k]? = some a) : l.drop k = a :: l.drop (k + 1) := by
  obtain ⟨hk, rfl⟩ := List.getElem?_eq_some_iff.1 h
  exact List.drop_eq_getElem_cons hk
theorem mem_at {α : Type} {l : List α} {k : Nat} {a : α} (h : l[k]? = some a) : a ∈ l := List.mem_of_getElem? h
theorem at_lt {α : Type} {l : List α} {k : Nat} (h : k < l.length) : ∃ a, l[k]? = some a := ⟨l[k], List.getElem?_eq_getElem h⟩

/-! ### Strict order of spans -/
def ltS (a b : Span) : Prop := a.b < b.b ∨ a.b = b.b ∧ a.e < b.e
instance (a b : Span) : Decidable (ltS a b) := by unfold ltS; infer_instance
theorem ltS_irr (a : Span) : ¬ ltS a a := by unfold ltS; omega
theorem Span.ext' {a b : Span} (h : a.b = b.b) (k : a.e = b.e) : a = b := by cases a; cases b; simp at h k; simp [h, k]
/-- A list in strict order. -/
def SS (l : List Span) : Prop := l.Pairwise ltS
theorem SS.nil : SS [] := List.Pairwise.nil
/-- r is the list, in order, of what is in l. -/
def IsNorm (l r : List Span) : Prop := SS r ∧ ∀ x, x ∈ r ↔ x ∈ l
theorem IsNorm.nil : IsNorm [] [] := ⟨SS.nil, fun _ => Iff.rfl⟩
theorem IsNorm.congr {l l' r : List Span} (h : IsNorm l r) (hl : ∀ x, x ∈ l ↔ x ∈ l') : IsNorm l' r := ⟨h.1, fun x => (h.2 x).trans (hl x)⟩
theorem ss_len : ∀ {r l : List Span}, SS r → (∀ x ∈ r, x ∈ l) → r.length ≤ l.length
  | [], l, _, _ => Nat.zero_le _
  | x :: r, l, h, hl => by
    have h' := List.pairwise_cons.1 h
    have hx := hl x (by simp)
    have := ss_len (l := l.erase x) h'.2 fun y hy => (List.mem_erase_of_ne (fun (e : y = x) => ltS_irr x (by have := h'.1 y hy; rwa [e] at this))).2 (hl y (by simp [hy]))
    rw [List.length_erase_of_mem hx] at this
    have := List.length_pos_of_mem hx
    simp; omega
theorem IsNorm.len {l r : List Span} (h : IsNorm l r) : r.length ≤ l.length := ss_len h.1 fun x hx => (h.2 x).1 hx
theorem IsNorm.same {l l' r : List Span} (h : IsNorm l r) (hl : ∀ x, x ∈ l' ↔ x ∈ l) : IsNorm l' r := ⟨h.1, fun x => (h.2 x).trans (hl x).symm⟩

/-! ### Where something stands in a list -/
def idxI {X : Type} : List X → (X → Bool) → Int
  | [], _ => -1
  | x :: l, p => if p x then 0 else if idxI l p < 0 then -1 else idxI l p + 1
theorem idxI_none {X : Type} {p : X → Bool} : ∀ {l : List X}, (∀ y ∈ l, p y = false) → idxI l p = -1
  | [], _ => rfl
  | x :: l, h => by
    have := idxI_none (l := l) (fun y hy => h y (by simp [hy]))
    simp [idxI, h x (by simp), this]
theorem idxI_at {X : Type} {p : X → Bool} : ∀ {l : List X} {k : Nat} {x : X}, l[k]? = some x → p x = true → (∀ y ∈ l.take k, p y = false) → idxI l p = k
  | [], k, x, hx, _, _ => by simp at hx
  | z :: l, 0, x, hx, hp, _ => by
    simp at hx
    subst hx
    simp [idxI, hp]
  | z :: l, k + 1, x, hx, hp, hb => by
    have hz := hb z (by simp)
    have ih := idxI_at (l := l) (k := k) (by simpa using hx) hp (fun y hy => hb y (by simp [hy]))
    simp [idxI, hz, ih]
    omega
theorem idxI_cases {X : Type} (p : X → Bool) (l : List X) : (idxI l p = -1 ∧ ∀ y ∈ l, p y = false) ∨ ∃ k x, idxI l p = (k : Nat) ∧ l[k]? = some x ∧ p x = true ∧ ∀ y ∈ l.take k, p y = false := by
  induction l with
  | nil => exact .inl ⟨rfl, by simp⟩
  | cons z l ih =>
    by_cases hz : p z = true
    · exact .inr ⟨0, z, by simp [idxI, hz], by simp, hz, by simp⟩
    · have hz : p z = false := by simpa using hz
      rcases ih with ⟨h1, h2⟩ | ⟨k, x, h1, h2, h3, h4⟩
      · refine .inl ⟨by simp [idxI, hz, h1], fun y hy => ?_⟩
        rcases List.mem_cons.1 hy with rfl | hy
        · exact hz
        · exact h2 y hy
      · refine .inr ⟨k + 1, x, ?_, by simpa using h2, h3, fun y hy => ?_⟩
        · simp [idxI, hz, h1]; omega
        · rw [List.take_succ_cons] at hy
          rcases List.mem_cons.1 hy with rfl | hy
          · exact hz
          · exact h4 y hy
theorem idxI_ge {X : Type} (p : X → Bool) (l : List X) : decide (0 ≤ idxI l p) = l.any p := by
  rcases idxI_cases p l with ⟨h1, h2⟩ | ⟨k, x, h1, h2, h3, h4⟩
  · have : l.any p = false := by simpa using h2
    rw [h1, this]; rfl
  · have : l.any p = true := List.any_eq_true.2 ⟨x, mem_at h2, h3⟩
    rw [h1, this]; simp
theorem SS.filter {l : List Span} (h : SS l) (p : Span → Bool) : SS (l.filter p) := List.Pairwise.filter p h
theorem IsNorm.filter {l r : List Span} (h : IsNorm l r) (p : Span → Bool) : IsNorm (l.filter p) (r.filter p) := ⟨h.1.filter p, fun x => by simp [h.2 x]⟩
end Go.Gv
