/- A part of the framework and of the walks: C2. -/
import Derived.Test.YtblcfloekekefaaGreatGx12

namespace Go.Gv
open Go.Proofs
/-- corpora/query.shallow [Pattern, int] -> [bool] -/
def cc_query_shallow : CC :=
  .seq (.reg [
    .op (some 2) none (.box ty_Pattern true (.tmp 0)),
    .op (some 3) none (.box ty_int true (.tmp 1)),
    .op (some 4) none (.mv (.const (.bool false)))])
  (.keep [2, 3] [] (.seq (.reg [
    .op (some 5) none (.load false 1 (.tmp 3)),
    .op (some 6) none (.cmp .leq (.tmp 5) (.const (.int .i64 100))),
    .op (some 7) none (.mv (.tmp 6)),
    .op (some 8) (some (7, true)) (.faddr 12 (.tmp 2)),
    .op (some 9) (some (7, true)) (.load false 1 (.tmp 8)),
    .op (some 10) (some (7, true)) (.clo f_query_shallow_1 [(.tmp 3)]),
    .op (some 11) (some (7, true)) (.call f_slices_ContainsFunc_Pattern [(.tmp 9), (.tmp 10)]),
    .op (some 12) (some (7, true)) (.not (.tmp 11)),
    .op (some 13) none (.pick (.tmp 7) (.tmp 12) (.const (.bool false))),
    .op (some 4) none (.mv (.tmp 13))])
  (.keep [4] [] (.ret))))
def rs_query_shallow : List CRes := [.tmp 4]
def im_query_shallow : List Nat := [3, 2]
theorem ok_query_shallow : FnOk Tryz.prog f_query_shallow im_query_shallow cc_query_shallow rs_query_shallow 14 := fnOk1 mixed (by kernel_rfl)
/-- corpora/query.shallow$1 [Pattern] -> [bool] -/
def cc_query_shallow_1 : CC :=
  .seq (.reg [
    .op (some 2) none (.box ty_Pattern true (.tmp 0)),
    .op (some 3) none (.mv (.const (.bool false)))])
  (.keep [1, 2] [] (.seq (.reg [
    .op (some 4) none (.load true 13 (.tmp 2)),
    .op (some 5) none (.load false 1 (.tmp 1)),
    .op (some 6) none (.arith .add (.tmp 5) (.const (.int .i64 1))),
    .op (some 7) none (.call f_query_shallow [(.tmp 4), (.tmp 6)]),
    .op (some 8) none (.not (.tmp 7)),
    .op (some 3) none (.mv (.tmp 8))])
  (.keep [3] [] (.ret))))
def rs_query_shallow_1 : List CRes := [.tmp 3]
def im_query_shallow_1 : List Nat := [2]
theorem ok_query_shallow_1 : FnOk Tryz.prog f_query_shallow_1 im_query_shallow_1 cc_query_shallow_1 rs_query_shallow_1 9 := fnOk1 mixed (by kernel_rfl)
/-- corpora/query.zero [Cond] -> [bool] -/
def cc_query_zero : CC :=
  .seq (.reg [
    .op (some 1) none (.box ty_Cond true (.tmp 0)),
    .op (some 2) none (.mv (.const (.bool false)))])
  (.keep [1] [] (.seq (.reg [
    .op (some 3) none (.faddr 0 (.tmp 1)),
    .op (some 4) none (.load false 1 (.tmp 3)),
    .op (some 5) none (.eql false false [.int] (.tmp 4) (.const (.int .i64 0))),
    .op (some 6) none (.mv (.tmp 5)),
    .op (some 7) (some (6, true)) (.faddr 1 (.tmp 1)),
    .op (some 8) (some (6, true)) (.load false 1 (.tmp 7)),
    .op (some 9) (some (6, true)) (.eql false false [.str] (.tmp 8) (.const (.string ⟨#[]⟩))),
    .op (some 10) none (.pick (.tmp 6) (.tmp 9) (.const (.bool false))),
    .op (some 11) none (.mv (.tmp 10)),
    .op (some 12) (some (11, true)) (.faddr 2 (.tmp 1)),
    .op (some 13) (some (11, true)) (.load false 1 (.tmp 12)),
    .op (some 14) (some (11, true)) (.eql false false [.str] (.tmp 13) (.const (.string ⟨#[]⟩))),
    .op (some 15) none (.pick (.tmp 11) (.tmp 14) (.const (.bool false))),
    .op (some 16) none (.mv (.tmp 15)),
    .op (some 17) (some (16, true)) (.faddr 3 (.tmp 1)),
    .op (some 18) (some (16, true)) (.load false 1 (.tmp 17)),
    .op (some 19) (some (16, true)) (.eql false false [.str] (.tmp 18) (.const (.string ⟨#[]⟩))),
    .op (some 20) none (.pick (.tmp 16) (.tmp 19) (.const (.bool false))),
    .op (some 21) none (.mv (.tmp 20)),
    .op (some 22) (some (21, true)) (.faddr 4 (.tmp 1)),
    .op (some 23) (some (21, true)) (.load false 1 (.tmp 22)),
    .op (some 24) (some (21, true)) (.eql false false [.str] (.tmp 23) (.const (.string ⟨#[]⟩))),
    .op (some 25) none (.pick (.tmp 21) (.tmp 24) (.const (.bool false))),
    .op (some 26) none (.mv (.tmp 25)),
    .op (some 27) (some (26, true)) (.faddr 5 (.tmp 1)),
    .op (some 28) (some (26, true)) (.load false 1 (.tmp 27)),
    .op (some 29) (some (26, true)) (.not (.tmp 28)),
    .op (some 30) none (.pick (.tmp 26) (.tmp 29) (.const (.bool false))),
    .op (some 31) none (.mv (.tmp 30)),
    .op (some 32) (some (31, true)) (.faddr 6 (.tmp 1)),
    .op (some 33) (some (31, true)) (.load false 1 (.tmp 32)),
    .op (some 34) (some (31, true)) (.len (.tmp 33)),
    .op (some 35) (some (31, true)) (.eql false false [.int] (.tmp 34) (.const (.int .i64 0))),
    .op (some 36) none (.pick (.tmp 31) (.tmp 35) (.const (.bool false))),
    .op (some 2) none (.mv (.tmp 36))])
  (.keep [2] [] (.ret))))
def rs_query_zero : List CRes := [.tmp 2]
def im_query_zero : List Nat := [1]
theorem ok_query_zero : FnOk Tryz.prog f_query_zero im_query_zero cc_query_zero rs_query_zero 37 := fnOk1 mixed (by kernel_rfl)
/-- corpora/query.node [Pattern] -> [bool] -/
def cc_query_node : CC :=
  .seq (.reg [
    .op (some 1) none (.box ty_Pattern true (.tmp 0)),
    .op (some 2) none (.mv (.const (.bool false)))])
  (.keep [1] [] (.seq (.reg [
    .op (some 3) none (.mv (.const (.bool false))),
    .op (some 4) none (.mv (.const (.bool false))),
    .op (some 5) none (.mv (.const (.bool false)))])
  (.keep [1, 3, 4, 5] [] (.seq (.reg [
    .op (some 6) none (.mv (.const (.int .i64 0))),
    .op (some 7) none (.mv (.const (.int .i64 0)))])
  (.keep [1, 3, 4, 5, 6, 7] [] (.seq /- 3 -/ (.seq (.reg [
    .op (some 8) none (.faddr 0 (.tmp 1)),
    .op (some 9) none (.load false 1 (.tmp 8))])
  (.keep [1, 3, 4, 5, 6, 7, 9] [] (.block 0 (.seq (.reg [
      .op (some 11) none (.eql false false [.int] (.tmp 9) (.const (.int .i64 1))),
      .op (some 10) none (.mv (.tmp 11))])
    (.keep [1, 3, 4, 5, 6, 7, 9, 10] [] (.ite (.tmp 10) (.reg [
        .op (some 3) none (.mv (.const (.bool true)))])
      (.seq /- 6 -/ (.seq (.reg [
        .op (some 13) none (.eql false false [.int] (.tmp 9) (.const (.int .i64 2))),
        .op (some 12) none (.mv (.tmp 13))])
      (.keep [1, 3, 4, 5, 6, 7, 9, 12] [] (.ite (.tmp 12) (.skip)
        (.reg [
          .op (some 14) none (.eql false false [.int] (.tmp 9) (.const (.int .i64 3))),
          .op (some 12) none (.mv (.tmp 14))]))))
      (.keep [1, 3, 4, 5, 6, 7, 9, 12] [] (.ite (.tmp 12) (.reg [
          .op (some 4) none (.mv (.const (.bool true)))])
        (.seq /- 8 -/ (.seq (.reg [
          .op (some 16) none (.eql false false [.int] (.tmp 9) (.const (.int .i64 4))),
          .op (some 15) none (.mv (.tmp 16))])
        (.keep [1, 3, 4, 5, 9, 15] [] (.ite (.tmp 15) (.skip)
          (.reg [
            .op (some 17) none (.eql false false [.int] (.tmp 9) (.const (.int .i64 5))),
            .op (some 15) none (.mv (.tmp 17))]))))
        (.keep [1, 3, 4, 5, 9, 15] [] (.ite (.tmp 15) (.regd [
            .op (some 18) none (.faddr 12 (.tmp 1)),
            .op (some 19) none (.load false 1 (.tmp 18)),
            .op (some 20) none (.len (.tmp 19)),
            .op (some 6) none (.mv (.const (.int .i64 2)))] [
            .op (some 7) none (.mv (.tmp 20))])
          (.seq (.reg [
            .op (some 22) none (.eql false false [.int] (.tmp 9) (.const (.int .i64 6))),
            .op (some 21) none (.mv (.tmp 22))])
          (.keep [1, 3, 4, 21] [] (.ite (.tmp 21) (.seq (.reg [
              .op (some 5) none (.mv (.const (.bool true)))])
            (.keep [1, 3, 4, 5] [] (.reg [
              .op (some 6) none (.mv (.const (.int .i64 1))),
              .op (some 7) none (.mv (.const (.int .i64 1)))])))
            (.seq (.reg [
              .op (some 2) none (.mv (.const (.bool false)))])
            (.keep [2] [] (.ret))))))))))))))))))
  (.keep [1, 3, 4, 5, 6, 7] [] (.seq (.reg [
    .op (some 23) none (.mv (.tmp 3)),
    .op (some 24) none (.mv (.tmp 23)),
    .op (some 25) (some (24, false)) (.faddr 1 (.tmp 1)),
    .op (some 26) (some (24, false)) (.load true 7 (.tmp 25)),
    .op (some 27) (some (24, false)) (.call f_query_zero [(.tmp 26)]),
    .op (some 28) (some (24, false)) (.mv (.tmp 27)),
    .op (some 29) (some (28, true)) (.faddr 8 (.tmp 1)),
    .op (some 30) (some (28, true)) (.load false 1 (.tmp 29)),
    .op (some 31) (some (28, true)) (.eql false false [.str] (.tmp 30) (.const (.string ⟨#[]⟩))),
    .op (some 32) (some (24, false)) (.pick (.tmp 28) (.tmp 31) (.const (.bool false))),
    .op (some 33) none (.pick (.tmp 24) (.const (.bool true)) (.tmp 32)),
    .op (some 34) none (.mv (.tmp 33)),
    .op (some 35) (some (34, true)) (.mv (.tmp 4)),
    .op (some 36) (some (34, true)) (.mv (.tmp 35)),
    .op (some 37) (some (36, false)) (.faddr 9 (.tmp 1)),
    .op (some 38) (some (36, false)) (.load false 1 (.tmp 37)),
    .op (some 39) (some (36, false)) (.eql false false [.str] (.tmp 38) (.const (.string ⟨#[]⟩))),
    .op (some 40) (some (34, true)) (.pick (.tmp 36) (.const (.bool true)) (.tmp 39)),
    .op (some 41) none (.pick (.tmp 34) (.tmp 40) (.const (.bool false))),
    .op (some 42) none (.mv (.tmp 41)),
    .op (some 43) (some (42, true)) (.mv (.tmp 5)),
    .op (some 44) (some (42, true)) (.mv (.tmp 43)),
    .op (some 45) (some (44, false)) (.faddr 10 (.tmp 1)),
    .op (some 46) (some (44, false)) (.load false 1 (.tmp 45)),
    .op (some 47) (some (44, false)) (.eql false false [.int] (.tmp 46) (.const (.int .i64 0))),
    .op (some 48) (some (44, false)) (.mv (.tmp 47)),
    .op (some 49) (some (48, true)) (.faddr 11 (.tmp 1)),
    .op (some 50) (some (48, true)) (.load false 1 (.tmp 49)),
    .op (some 51) (some (48, true)) (.eql false false [.int] (.tmp 50) (.const (.int .i64 0))),
    .op (some 52) (some (44, false)) (.pick (.tmp 48) (.tmp 51) (.const (.bool false))),
    .op (some 53) (some (42, true)) (.pick (.tmp 44) (.const (.bool true)) (.tmp 52)),
    .op (some 54) none (.pick (.tmp 42) (.tmp 53) (.const (.bool false))),
    .op (some 55) none (.mv (.tmp 54)),
    .op (some 56) (some (55, true)) (.faddr 12 (.tmp 1)),
    .op (some 57) (some (55, true)) (.load false 1 (.tmp 56)),
    .op (some 58) (some (55, true)) (.len (.tmp 57)),
    .op (some 59) (some (55, true)) (.mv (.tmp 6)),
    .op (some 60) (some (55, true)) (.cmp .geq (.tmp 58) (.tmp 59)),
    .op (some 61) none (.pick (.tmp 55) (.tmp 60) (.const (.bool false))),
    .op (some 62) none (.mv (.tmp 61)),
    .op (some 63) (some (62, true)) (.faddr 12 (.tmp 1)),
    .op (some 64) (some (62, true)) (.load false 1 (.tmp 63)),
    .op (some 65) (some (62, true)) (.len (.tmp 64)),
    .op (some 66) (some (62, true)) (.mv (.tmp 7)),
    .op (some 67) (some (62, true)) (.cmp .leq (.tmp 65) (.tmp 66)),
    .op (some 68) none (.pick (.tmp 62) (.tmp 67) (.const (.bool false))),
    .op (some 2) none (.mv (.tmp 68))])
  (.keep [2] [] (.ret))))))))))
def rs_query_node : List CRes := [.tmp 2]
def im_query_node : List Nat := [1]
theorem ok_query_node : FnOk Tryz.prog f_query_node im_query_node cc_query_node rs_query_node 69 := fnOk1 mixed (by kernel_rfl)
/-- corpora/query.every [Pattern, func_Pattern_bool] -> [bool] -/
def cc_query_every : CC :=
  .seq (.reg [
    .op (some 2) none (.box ty_Pattern true (.tmp 0)),
    .op (some 3) none (.box ty_func_Pattern_bool true (.tmp 1)),
    .op (some 4) none (.mv (.const (.bool false)))])
  (.keep [2, 3] [] (.seq (.reg [
    .op (some 5) none (.load false 1 (.tmp 3)),
    .op (some 6) none (.load true 13 (.tmp 2)),
    .op (some 7) none (.callv (.tmp 5) [(.tmp 6)]),
    .op (some 8) none (.mv (.tmp 7)),
    .op (some 9) (some (8, true)) (.faddr 12 (.tmp 2)),
    .op (some 10) (some (8, true)) (.load false 1 (.tmp 9)),
    .op (some 11) (some (8, true)) (.clo f_query_every_1 [(.tmp 3)]),
    .op (some 12) (some (8, true)) (.call f_slices_ContainsFunc_Pattern [(.tmp 10), (.tmp 11)]),
    .op (some 13) (some (8, true)) (.not (.tmp 12)),
    .op (some 14) none (.pick (.tmp 8) (.tmp 13) (.const (.bool false))),
    .op (some 4) none (.mv (.tmp 14))])
  (.keep [4] [] (.ret))))
def rs_query_every : List CRes := [.tmp 4]
def im_query_every : List Nat := [3, 2]
theorem ok_query_every : FnOk Tryz.prog f_query_every im_query_every cc_query_every rs_query_every 15 := fnOk1 mixed (by kernel_rfl)
/-- corpora/query.every$1 [Pattern] -> [bool] -/
def cc_query_every_1 : CC :=
  .seq (.reg [
    .op (some 2) none (.box ty_Pattern true (.tmp 0)),
    .op (some 3) none (.mv (.const (.bool false)))])
  (.keep [1, 2] [] (.seq (.reg [
    .op (some 4) none (.load true 13 (.tmp 2)),
    .op (some 5) none (.load false 1 (.tmp 1)),
    .op (some 6) none (.call f_query_every [(.tmp 4), (.tmp 5)]),
    .op (some 7) none (.not (.tmp 6)),
    .op (some 3) none (.mv (.tmp 7))])
  (.keep [3] [] (.ret))))
def rs_query_every_1 : List CRes := [.tmp 3]
def im_query_every_1 : List Nat := [2]
theorem ok_query_every_1 : FnOk Tryz.prog f_query_every_1 im_query_every_1 cc_query_every_1 rs_query_every_1 8 := fnOk1 mixed (by kernel_rfl)
/-- corpora/query.named [Pattern] -> [bool] -/
def cc_query_named : CC :=
  .seq (.reg [
    .op (some 1) none (.box ty_Pattern true (.tmp 0)),
    .op (some 2) none (.mv (.const (.bool false)))])
  (.keep [1] [] (.seq (.reg [
    .op (some 4) none (.faddr 0 (.tmp 1)),
    .op (some 5) none (.load false 1 (.tmp 4)),
    .op (some 6) none (.eql false false [.int] (.tmp 5) (.const (.int .i64 2))),
    .op (some 7) none (.mv (.tmp 6)),
    .op (some 8) (some (7, false)) (.faddr 0 (.tmp 1)),
    .op (some 9) (some (7, false)) (.load false 1 (.tmp 8)),
    .op (some 10) (some (7, false)) (.eql false false [.int] (.tmp 9) (.const (.int .i64 3))),
    .op (some 11) none (.pick (.tmp 7) (.const (.bool true)) (.tmp 10)),
    .op (some 3) none (.mv (.tmp 11))])
  (.keep [1, 3] [] (.seq (.reg [
    .op (some 12) none (.mv (.tmp 3)),
    .op (some 13) none (.not (.tmp 12)),
    .op (some 14) none (.mv (.tmp 13)),
    .op (some 15) (some (14, false)) (.faddr 9 (.tmp 1)),
    .op (some 16) (some (14, false)) (.load false 1 (.tmp 15)),
    .op (some 17) (some (14, false)) (.call f_markup_ValidName [(.tmp 16)]),
    .op (some 18) none (.pick (.tmp 14) (.const (.bool true)) (.tmp 17)),
    .op (some 19) none (.mv (.tmp 18)),
    .op (some 20) (some (19, true)) (.faddr 8 (.tmp 1)),
    .op (some 21) (some (19, true)) (.load false 1 (.tmp 20)),
    .op (some 22) (some (19, true)) (.eql false false [.str] (.tmp 21) (.const (.string ⟨#[]⟩))),
    .op (some 23) (some (19, true)) (.mv (.tmp 22)),
    .op (some 24) (some (23, false)) (.faddr 8 (.tmp 1)),
    .op (some 25) (some (23, false)) (.load false 1 (.tmp 24)),
    .op (some 26) (some (23, false)) (.call f_markup_ValidName [(.tmp 25)]),
    .op (some 27) (some (19, true)) (.pick (.tmp 23) (.const (.bool true)) (.tmp 26)),
    .op (some 28) none (.pick (.tmp 19) (.tmp 27) (.const (.bool false))),
    .op (some 2) none (.mv (.tmp 28))])
  (.keep [2] [] (.ret))))))
def rs_query_named : List CRes := [.tmp 2]
def im_query_named : List Nat := [1]
theorem ok_query_named : FnOk Tryz.prog f_query_named im_query_named cc_query_named rs_query_named 29 := fnOk1 mixed (by kernel_rfl)
/-- corpora/query.ranged [Pattern] -> [bool] -/
def cc_query_ranged : CC :=
  .seq (.reg [
    .op (some 1) none (.box ty_Pattern true (.tmp 0)),
    .op (some 2) none (.mv (.const (.bool false)))])
  (.keep [1] [] (.seq (.reg [
    .op (some 3) none (.faddr 0 (.tmp 1)),
    .op (some 4) none (.load false 1 (.tmp 3)),
    .op (some 5) none (.eql true false [.int] (.tmp 4) (.const (.int .i64 6))),
    .op (some 6) none (.mv (.tmp 5)),
    .op (some 7) (some (6, false)) (.faddr 10 (.tmp 1)),
    .op (some 8) (some (6, false)) (.load false 1 (.tmp 7)),
    .op (some 9) (some (6, false)) (.cmp .geq (.tmp 8) (.const (.int .i64 0))),
    .op (some 10) (some (6, false)) (.mv (.tmp 9)),
    .op (some 11) (some (10, true)) (.faddr 10 (.tmp 1)),
    .op (some 12) (some (10, true)) (.load false 1 (.tmp 11)),
    .op (some 13) (some (10, true)) (.cmp .leq (.tmp 12) (.const (.int .i64 16))),
    .op (some 14) (some (6, false)) (.pick (.tmp 10) (.tmp 13) (.const (.bool false))),
    .op (some 15) (some (6, false)) (.mv (.tmp 14)),
    .op (some 16) (some (15, true)) (.faddr 11 (.tmp 1)),
    .op (some 17) (some (15, true)) (.load false 1 (.tmp 16)),
    .op (some 18) (some (15, true)) (.eql false false [.int] (.tmp 17) (.const (.int .i64 (-1)))),
    .op (some 19) (some (15, true)) (.mv (.tmp 18)),
    .op (some 20) (some (19, false)) (.faddr 11 (.tmp 1)),
    .op (some 21) (some (19, false)) (.load false 1 (.tmp 20)),
    .op (some 22) (some (19, false)) (.faddr 10 (.tmp 1)),
    .op (some 23) (some (19, false)) (.load false 1 (.tmp 22)),
    .op (some 24) (some (19, false)) (.cmp .geq (.tmp 21) (.tmp 23)),
    .op (some 25) (some (19, false)) (.mv (.tmp 24)),
    .op (some 26) (some (25, true)) (.faddr 11 (.tmp 1)),
    .op (some 27) (some (25, true)) (.load false 1 (.tmp 26)),
    .op (some 28) (some (25, true)) (.cmp .leq (.tmp 27) (.const (.int .i64 16))),
    .op (some 29) (some (19, false)) (.pick (.tmp 25) (.tmp 28) (.const (.bool false))),
    .op (some 30) (some (15, true)) (.pick (.tmp 19) (.const (.bool true)) (.tmp 29)),
    .op (some 31) (some (6, false)) (.pick (.tmp 15) (.tmp 30) (.const (.bool false))),
    .op (some 32) none (.pick (.tmp 6) (.const (.bool true)) (.tmp 31)),
    .op (some 2) none (.mv (.tmp 32))])
  (.keep [2] [] (.ret))))
def rs_query_ranged : List CRes := [.tmp 2]
def im_query_ranged : List Nat := [1]
theorem ok_query_ranged : FnOk Tryz.prog f_query_ranged im_query_ranged cc_query_ranged rs_query_ranged 33 := fnOk1 mixed (by kernel_rfl)
/-- corpora/query.Shape [Pattern] -> [bool] -/
def cc_query_Shape : CC :=
  .seq (.reg [
    .op (some 1) none (.box ty_Pattern true (.tmp 0)),
    .op (some 2) none (.mv (.const (.bool false)))])
  (.keep [1] [] (.seq (.reg [
    .op (some 3) none (.load true 13 (.tmp 1)),
    .op (some 4) none (.call f_query_shallow [(.tmp 3), (.const (.int .i64 1))]),
    .op (some 5) none (.mv (.tmp 4)),
    .op (some 6) (some (5, true)) (.load true 13 (.tmp 1)),
    .op (some 7) (some (5, true)) (.call f_query_every [(.tmp 6), (.func f_query_node)]),
    .op (some 8) none (.pick (.tmp 5) (.tmp 7) (.const (.bool false))),
    .op (some 2) none (.mv (.tmp 8))])
  (.keep [2] [] (.ret))))
def rs_query_Shape : List CRes := [.tmp 2]
def im_query_Shape : List Nat := [1]
theorem ok_query_Shape : FnOk Tryz.prog f_query_Shape im_query_Shape cc_query_Shape rs_query_Shape 9 := fnOk1 mixed (by kernel_rfl)
/-- corpora/query.right [Pattern] -> [bool] -/
def cc_query_right : CC :=
  .seq (.reg [
    .op (some 1) none (.box ty_Pattern true (.tmp 0)),
    .op (some 2) none (.mv (.const (.bool false)))])
  (.keep [1] [] (.seq (.reg [
    .op (some 3) none (.load true 13 (.tmp 1)),
    .op (some 4) none (.call f_query_Shape [(.tmp 3)]),
    .op (some 5) none (.mv (.tmp 4)),
    .op (some 6) (some (5, true)) (.load true 13 (.tmp 1)),
    .op (some 7) (some (5, true)) (.call f_query_every [(.tmp 6), (.func f_query_named)]),
    .op (some 8) none (.pick (.tmp 5) (.tmp 7) (.const (.bool false))),
    .op (some 9) none (.mv (.tmp 8)),
    .op (some 10) (some (9, true)) (.load true 13 (.tmp 1)),
    .op (some 11) (some (9, true)) (.call f_query_every [(.tmp 10), (.func f_query_ranged)]),
    .op (some 12) none (.pick (.tmp 9) (.tmp 11) (.const (.bool false))),
    .op (some 2) none (.mv (.tmp 12))])
  (.keep [2] [] (.ret))))
def rs_query_right : List CRes := [.tmp 2]
def im_query_right : List Nat := [1]
theorem ok_query_right : FnOk Tryz.prog f_query_right im_query_right cc_query_right rs_query_right 13 := fnOk1 mixed (by kernel_rfl)
-- query_size range i=9 n=8 c=10 i2=18 id=0: live [1:p, 3:n, 7:] changed [3] res []
/-- corpora/query.size [Pattern] -> [int] -/
def cc_query_size : CC :=
  .seq (.reg [
    .op (some 1) none (.box ty_Pattern true (.tmp 0)),
    .op (some 2) none (.mv (.const (.int .i64 0)))])
  (.keep [1] [] (.seq (.reg [
    .op (some 3) none (.mv (.const (.int .i64 0)))])
  (.keep [1, 3] [] (.seq /- 2 -/ (.seq (.reg [
    .op (some 6) none (.faddr 12 (.tmp 1)),
    .op (some 7) none (.load false 1 (.tmp 6)),
    .op (some 8) none (.len (.tmp 7)),
    .op (some 9) none (.mv (.const (.int .i64 0)))])
  (.keep [1, 3, 7, 8, 9] [] (rangeCC 0 9 8 10 1 (.seq (.reg [
      .op (some 11) none (.iaddr 13 (.tmp 7) (.tmp 9)),
      .op (some 12) none (.load true 13 (.tmp 11)),
      .op (some 5) none (.alloc ty_Pattern [(.int .i64 0), (.int .i64 0), (.string ⟨#[]⟩), (.string ⟨#[]⟩), (.string ⟨#[]⟩), (.string ⟨#[]⟩), (.bool false), (.slice none 0 0), (.string ⟨#[]⟩), (.string ⟨#[]⟩), (.int .i64 0), (.int .i64 0), (.slice none 0 0)]),
      .op none none (.store none 13 (.tmp 5) (.tmp 12))])
    (.keep [1, 3, 5, 7, 8, 9] [5] (.reg [
      .op (some 13) none (.mv (.tmp 3)),
      .op (some 14) none (.load true 13 (.tmp 5)),
      .op (some 15) none (.call f_query_size [(.tmp 14)]),
      .op (some 16) none (.arith .add (.tmp 13) (.tmp 15)),
      .op (some 17) none (.mm false [(.tmp 16), (.const (.int .i64 1000))]),
      .op (some 3) none (.mv (.tmp 17))]))) 18)))
  (.keep [1, 3] [] (.seq /- 5 -/ (.block 2 (.seq (.reg [
      .op (some 20) none (.faddr 12 (.tmp 1)),
      .op (some 21) none (.load false 1 (.tmp 20)),
      .op (some 22) none (.len (.tmp 21)),
      .op (some 23) none (.eql false false [.int] (.tmp 22) (.const (.int .i64 0))),
      .op (some 19) none (.mv (.tmp 23))])
    (.keep [1, 3, 19] [] (.ite (.tmp 19) (.seq (.reg [
        .op (some 2) none (.mv (.const (.int .i64 1)))])
      (.keep [2] [] (.ret)))
      (.seq (.reg [
        .op (some 25) none (.faddr 0 (.tmp 1)),
        .op (some 26) none (.load false 1 (.tmp 25)),
        .op (some 27) none (.eql true false [.int] (.tmp 26) (.const (.int .i64 6))),
        .op (some 28) none (.mv (.tmp 27)),
        .op (some 29) (some (28, false)) (.faddr 11 (.tmp 1)),
        .op (some 30) (some (28, false)) (.load false 1 (.tmp 29)),
        .op (some 31) (some (28, false)) (.eql false false [.int] (.tmp 30) (.const (.int .i64 0))),
        .op (some 32) none (.pick (.tmp 28) (.const (.bool true)) (.tmp 31)),
        .op (some 24) none (.mv (.tmp 32))])
      (.keep [1, 3, 24] [] (.ite (.tmp 24) (.seq (.reg [
          .op (some 33) none (.mv (.tmp 3)),
          .op (some 2) none (.mv (.tmp 33))])
        (.keep [2] [] (.ret)))
        (.seq (.reg [
          .op (some 35) none (.faddr 11 (.tmp 1)),
          .op (some 36) none (.load false 1 (.tmp 35)),
          .op (some 37) none (.cmp .lss (.tmp 36) (.const (.int .i64 0))),
          .op (some 34) none (.mv (.tmp 37))])
        (.keep [1, 3, 34] [] (.ite (.tmp 34) (.seq (.reg [
            .op (some 38) none (.mv (.tmp 3)),
            .op (some 39) none (.faddr 10 (.tmp 1)),
            .op (some 40) none (.load false 1 (.tmp 39)),
            .op (some 41) none (.arith .add (.tmp 40) (.const (.int .i64 1))),
            .op (some 42) none (.arith .mul (.tmp 38) (.tmp 41)),
            .op (some 43) none (.mm false [(.tmp 42), (.const (.int .i64 1000))]),
            .op (some 2) none (.mv (.tmp 43))])
          (.keep [2] [] (.ret)))
          (.skip)))))))))))
  (.keep [1, 3] [] (.seq (.reg [
    .op (some 44) none (.mv (.tmp 3)),
    .op (some 45) none (.faddr 11 (.tmp 1)),
    .op (some 46) none (.load false 1 (.tmp 45)),
    .op (some 47) none (.arith .mul (.tmp 44) (.tmp 46)),
    .op (some 48) none (.mm false [(.tmp 47), (.const (.int .i64 1000))]),
    .op (some 2) none (.mv (.tmp 48))])
  (.keep [2] [] (.ret))))))))))
def rs_query_size : List CRes := [.tmp 2]
def im_query_size : List Nat := [1]
theorem ok_query_size : FnOk Tryz.prog f_query_size im_query_size cc_query_size rs_query_size 49 := fnOk1 mixed (by kernel_rfl)
/-- corpora/query.Size [Pattern] -> [int] -/
def cc_query_Size : CC :=
  .seq (.reg [
    .op (some 1) none (.box ty_Pattern true (.tmp 0)),
    .op (some 2) none (.mv (.const (.int .i64 0)))])
  (.keep [1] [] (.seq /- 1 -/ (.seq (.reg [
    .op (some 3) none (.load true 13 (.tmp 1)),
    .op (some 4) none (.call f_query_right [(.tmp 3)]),
    .op (some 5) none (.not (.tmp 4))])
  (.keep [1, 5] [] (.ite (.tmp 5) (.seq (.reg [
      .op (some 2) none (.mv (.const (.int .i64 0)))])
    (.keep [2] [] (.ret)))
    (.skip))))
  (.keep [1] [] (.seq (.reg [
    .op (some 6) none (.load true 13 (.tmp 1)),
    .op (some 7) none (.call f_query_size [(.tmp 6)]),
    .op (some 2) none (.mv (.tmp 7))])
  (.keep [2] [] (.ret))))))
def rs_query_Size : List CRes := [.tmp 2]
def im_query_Size : List Nat := [1]
theorem ok_query_Size : FnOk Tryz.prog f_query_Size im_query_Size cc_query_Size rs_query_Size 8 := fnOk1 mixed (by kernel_rfl)
-- query_width range i=71 n=70 c=72 i2=104 id=2: live [1:p, 6:lo, 7:hi, 69:] changed [6, 7] res []
/-- corpora/query.width [Pattern] -> [int, int] -/
def cc_query_width : CC :=
  .seq (.reg [
    .op (some 1) none (.box ty_Pattern true (.tmp 0)),
    .op (some 2) none (.mv (.const (.int .i64 0))),
    .op (some 3) none (.mv (.const (.int .i64 0)))])
  (.keep [1] [] (.seq /- 1 -/ (.seq (.reg [
    .op (some 13) none (.faddr 0 (.tmp 1)),
    .op (some 14) none (.load false 1 (.tmp 13))])
  (.keep [1, 14] [] (.block 0 (.seq (.reg [
      .op (some 16) none (.eql false false [.int] (.tmp 14) (.const (.int .i64 1))),
      .op (some 15) none (.mv (.tmp 16))])
    (.keep [1, 14, 15] [] (.ite (.tmp 15) (.seq (.reg [
        .op (some 2) none (.mv (.const (.int .i64 1))),
        .op (some 3) none (.mv (.const (.int .i64 1)))])
      (.keep [2, 3] [] (.ret)))
      (.seq /- 5 -/ (.seq (.reg [
        .op (some 18) none (.eql false false [.int] (.tmp 14) (.const (.int .i64 2))),
        .op (some 17) none (.mv (.tmp 18))])
      (.keep [1, 14, 17] [] (.ite (.tmp 17) (.skip)
        (.reg [
          .op (some 19) none (.eql false false [.int] (.tmp 14) (.const (.int .i64 3))),
          .op (some 17) none (.mv (.tmp 19))]))))
      (.keep [1, 14, 17] [] (.ite (.tmp 17) (.seq (.reg [
          .op (some 2) none (.mv (.const (.int .i64 0))),
          .op (some 3) none (.mv (.const (.int .i64 0)))])
        (.keep [2, 3] [] (.ret)))
        (.seq (.reg [
          .op (some 21) none (.eql false false [.int] (.tmp 14) (.const (.int .i64 6))),
          .op (some 20) none (.mv (.tmp 21))])
        (.keep [1, 20] [] (.ite (.tmp 20) (.seq (.reg [
            .op (some 23) none (.faddr 12 (.tmp 1)),
            .op (some 24) none (.load false 1 (.tmp 23)),
            .op (some 25) none (.iaddr 13 (.tmp 24) (.const (.int .i64 0))),
            .op (some 26) none (.load true 13 (.tmp 25)),
            .op (some 27) none (.call f_query_width [(.tmp 26)]),
            .op (some 22) none (.mv (.tmp 27)),
            .op (some 28) none (.ext (.tmp 22) 0),
            .op (some 29) none (.ext (.tmp 22) 1),
            .op (some 4) none (.mv (.tmp 28)),
            .op (some 5) none (.mv (.tmp 29))])
          (.keep [1, 4, 5] [] (.seq (.reg [
            .op (some 30) none (.mv (.tmp 4)),
            .op (some 31) none (.faddr 10 (.tmp 1)),
            .op (some 32) none (.load false 1 (.tmp 31)),
            .op (some 33) none (.arith .mul (.tmp 30) (.tmp 32)),
            .op (some 34) none (.mm false [(.tmp 33), (.const (.int .i64 10000))]),
            .op (some 4) none (.mv (.tmp 34))])
          (.keep [1, 4, 5] [] (.seq /- 11 -/ (.block 1 (.seq (.reg [
              .op (some 36) none (.faddr 11 (.tmp 1)),
              .op (some 37) none (.load false 1 (.tmp 36)),
              .op (some 38) none (.eql false false [.int] (.tmp 37) (.const (.int .i64 0))),
              .op (some 39) none (.mv (.tmp 38)),
              .op (some 40) (some (39, false)) (.mv (.tmp 5)),
              .op (some 41) (some (39, false)) (.eql false false [.int] (.tmp 40) (.const (.int .i64 0))),
              .op (some 42) none (.pick (.tmp 39) (.const (.bool true)) (.tmp 41)),
              .op (some 35) none (.mv (.tmp 42))])
            (.keep [1, 4, 5, 35] [] (.ite (.tmp 35) (.seq (.reg [
                .op (some 43) none (.mv (.tmp 4)),
                .op (some 2) none (.mv (.tmp 43)),
                .op (some 3) none (.mv (.const (.int .i64 0)))])
              (.keep [2, 3] [] (.ret)))
              (.seq (.reg [
                .op (some 45) none (.faddr 11 (.tmp 1)),
                .op (some 46) none (.load false 1 (.tmp 45)),
                .op (some 47) none (.cmp .lss (.tmp 46) (.const (.int .i64 0))),
                .op (some 48) none (.mv (.tmp 47)),
                .op (some 49) (some (48, false)) (.mv (.tmp 5)),
                .op (some 50) (some (48, false)) (.cmp .lss (.tmp 49) (.const (.int .i64 0))),
                .op (some 51) none (.pick (.tmp 48) (.const (.bool true)) (.tmp 50)),
                .op (some 44) none (.mv (.tmp 51))])
              (.keep [1, 4, 5, 44] [] (.ite (.tmp 44) (.seq (.reg [
                  .op (some 52) none (.mv (.tmp 4)),
                  .op (some 2) none (.mv (.tmp 52)),
                  .op (some 3) none (.mv (.const (.int .i64 (-1))))])
                (.keep [2, 3] [] (.ret)))
                (.skip))))))))
          (.keep [1, 4, 5] [] (.seq (.regd [
            .op (some 53) none (.mv (.tmp 4)),
            .op (some 54) none (.mv (.tmp 5)),
            .op (some 55) none (.faddr 11 (.tmp 1)),
            .op (some 56) none (.load false 1 (.tmp 55)),
            .op (some 57) none (.arith .mul (.tmp 54) (.tmp 56)),
            .op (some 58) none (.mm false [(.tmp 57), (.const (.int .i64 10000))]),
            .op (some 2) none (.mv (.tmp 53))] [
            .op (some 3) none (.mv (.tmp 58))])
          (.keep [2, 3] [] (.ret)))))))))
          (.skip)))))))))))))
  (.keep [1] [] (.seq (.reg [
    .op (some 60) none (.faddr 12 (.tmp 1)),
    .op (some 61) none (.load false 1 (.tmp 60)),
    .op (some 62) none (.iaddr 13 (.tmp 61) (.const (.int .i64 0))),
    .op (some 63) none (.load true 13 (.tmp 62)),
    .op (some 64) none (.call f_query_width [(.tmp 63)]),
    .op (some 59) none (.mv (.tmp 64)),
    .op (some 65) none (.ext (.tmp 59) 0),
    .op (some 66) none (.ext (.tmp 59) 1),
    .op (some 6) none (.mv (.tmp 65)),
    .op (some 7) none (.mv (.tmp 66))])
  (.keep [1, 6, 7] [] (.seq /- 18 -/ (.seq (.reg [
    .op (some 67) none (.faddr 12 (.tmp 1)),
    .op (some 68) none (.load false 1 (.tmp 67)),
    .op (some 69) none (.slice 13 (.tmp 68) (some (.const (.int .i64 1))) none),
    .op (some 70) none (.len (.tmp 69)),
    .op (some 71) none (.mv (.const (.int .i64 0)))])
  (.keep [1, 6, 7, 69, 70, 71] [] (rangeCC 2 71 70 72 3 (.seq (.reg [
      .op (some 73) none (.iaddr 13 (.tmp 69) (.tmp 71)),
      .op (some 74) none (.load true 13 (.tmp 73)),
      .op (some 9) none (.alloc ty_Pattern [(.int .i64 0), (.int .i64 0), (.string ⟨#[]⟩), (.string ⟨#[]⟩), (.string ⟨#[]⟩), (.string ⟨#[]⟩), (.bool false), (.slice none 0 0), (.string ⟨#[]⟩), (.string ⟨#[]⟩), (.int .i64 0), (.int .i64 0), (.slice none 0 0)]),
      .op none none (.store none 13 (.tmp 9) (.tmp 74))])
    (.keep [1, 6, 7, 9, 69, 70, 71] [9] (.seq (.reg [
      .op (some 76) none (.load true 13 (.tmp 9)),
      .op (some 77) none (.call f_query_width [(.tmp 76)]),
      .op (some 75) none (.mv (.tmp 77)),
      .op (some 78) none (.ext (.tmp 75) 0),
      .op (some 79) none (.ext (.tmp 75) 1),
      .op (some 10) none (.mv (.tmp 78)),
      .op (some 11) none (.mv (.tmp 79))])
    (.keep [1, 6, 7, 10, 11, 69, 70, 71] [] (.seq (.reg [
      .op (some 80) none (.mv (.tmp 7)),
      .op (some 81) none (.cmp .lss (.tmp 80) (.const (.int .i64 0))),
      .op (some 82) none (.mv (.tmp 81)),
      .op (some 83) (some (82, false)) (.mv (.tmp 11)),
      .op (some 84) (some (82, false)) (.cmp .lss (.tmp 83) (.const (.int .i64 0))),
      .op (some 85) none (.pick (.tmp 82) (.const (.bool true)) (.tmp 84)),
      .op (some 12) none (.mv (.tmp 85))])
    (.keep [1, 6, 7, 10, 11, 12, 69, 70, 71] [] (.seq /- 23 -/ (.seq (.reg [
      .op (some 86) none (.faddr 0 (.tmp 1)),
      .op (some 87) none (.load false 1 (.tmp 86)),
      .op (some 88) none (.eql false false [.int] (.tmp 87) (.const (.int .i64 4)))])
    (.keep [1, 6, 7, 10, 11, 12, 69, 70, 71, 88] [] (.ite (.tmp 88) (.reg [
        .op (some 89) none (.mv (.tmp 6)),
        .op (some 90) none (.mv (.tmp 10)),
        .op (some 91) none (.arith .add (.tmp 89) (.tmp 90)),
        .op (some 92) none (.mm false [(.tmp 91), (.const (.int .i64 10000))]),
        .op (some 93) none (.mv (.tmp 7)),
        .op (some 94) none (.mv (.tmp 11)),
        .op (some 95) none (.arith .add (.tmp 93) (.tmp 94)),
        .op (some 96) none (.mm false [(.tmp 95), (.const (.int .i64 10000))]),
        .op (some 6) none (.mv (.tmp 92)),
        .op (some 7) none (.mv (.tmp 96))])
      (.reg [
        .op (some 97) none (.mv (.tmp 6)),
        .op (some 98) none (.mv (.tmp 10)),
        .op (some 99) none (.mm false [(.tmp 97), (.tmp 98)]),
        .op (some 100) none (.mv (.tmp 7)),
        .op (some 101) none (.mv (.tmp 11)),
        .op (some 102) none (.mm true [(.tmp 100), (.tmp 101)]),
        .op (some 6) none (.mv (.tmp 99)),
        .op (some 7) none (.mv (.tmp 102))]))))
    (.keep [1, 6, 7, 12, 69, 70, 71] [] (.seq (.reg [
      .op (some 103) none (.mv (.tmp 12))])
    (.keep [1, 6, 7, 69, 70, 71, 103] [] (.ite (.tmp 103) (.reg [
        .op (some 7) none (.mv (.const (.int .i64 (-1))))])
      (.skip)))))))))))) 104)))
  (.keep [6, 7] [] (.seq (.reg [
    .op (some 105) none (.mv (.tmp 6)),
    .op (some 106) none (.mv (.tmp 7)),
    .op (some 2) none (.mv (.tmp 105)),
    .op (some 3) none (.mv (.tmp 106))])
  (.keep [2, 3] [] (.ret))))))))))
def rs_query_width : List CRes := [.tmp 2, .tmp 3]
def im_query_width : List Nat := [1]
theorem ok_query_width : FnOk Tryz.prog f_query_width im_query_width cc_query_width rs_query_width 107 := fnOk1 mixed (by kernel_rfl)
/-- corpora/query.Width [Pattern] -> [int, int] -/
def cc_query_Width : CC :=
  .seq (.reg [
    .op (some 1) none (.box ty_Pattern true (.tmp 0)),
    .op (some 2) none (.mv (.const (.int .i64 0))),
    .op (some 3) none (.mv (.const (.int .i64 0)))])
  (.keep [1] [] (.seq /- 1 -/ (.seq (.reg [
    .op (some 4) none (.load true 13 (.tmp 1)),
    .op (some 5) none (.call f_query_right [(.tmp 4)]),
    .op (some 6) none (.not (.tmp 5))])
  (.keep [1, 6] [] (.ite (.tmp 6) (.seq (.reg [
      .op (some 2) none (.mv (.const (.int .i64 0))),
      .op (some 3) none (.mv (.const (.int .i64 0)))])
    (.keep [2, 3] [] (.ret)))
    (.skip))))
  (.keep [1] [] (.seq (.reg [
    .op (some 7) none (.load true 13 (.tmp 1)),
    .op (some 8) none (.call f_query_width [(.tmp 7)]),
    .op (some 9) none (.ext (.tmp 8) 0),
    .op (some 10) none (.ext (.tmp 8) 1),
    .op (some 2) none (.mv (.tmp 9)),
    .op (some 3) none (.mv (.tmp 10))])
  (.keep [2, 3] [] (.ret))))))
def rs_query_Width : List CRes := [.tmp 2, .tmp 3]
def im_query_Width : List Nat := [1]
theorem ok_query_Width : FnOk Tryz.prog f_query_Width im_query_Width cc_query_Width rs_query_Width 11 := fnOk1 mixed (by kernel_rfl)
-- markup_ValidName range i=20 n=19 c=21 i2=28 id=0: live [0:s] changed [] res []
/-- corpora/markup.ValidName [string] -> [bool] -/
def cc_markup_ValidName : CC :=
  .seq (.reg [
    .op (some 2) none (.mv (.const (.bool false)))])
  (.keep [0] [] (.seq /- 1 -/ (.seq (.reg [
    .op (some 4) none (.mv (.tmp 0)),
    .op (some 5) none (.slen (.tmp 4)),
    .op (some 6) none (.cmp .lss (.tmp 5) (.const (.int .i64 1))),
    .op (some 7) none (.mv (.tmp 6)),
    .op (some 8) (some (7, false)) (.mv (.tmp 0)),
    .op (some 9) (some (7, false)) (.slen (.tmp 8)),
    .op (some 10) (some (7, false)) (.cmp .gtr (.tmp 9) (.const (.int .i64 32))),
    .op (some 11) none (.pick (.tmp 7) (.const (.bool true)) (.tmp 10)),
    .op (some 12) none (.mv (.tmp 11)),
    .op (some 13) (some (12, false)) (.mv (.tmp 0)),
    .op (some 14) (some (12, false)) (.sidx (.tmp 13) (.const (.int .i64 0))),
    .op (some 15) (some (12, false)) (.call f_markup_begins [(.tmp 14)]),
    .op (some 16) (some (12, false)) (.not (.tmp 15)),
    .op (some 17) none (.pick (.tmp 12) (.const (.bool true)) (.tmp 16))])
  (.keep [0, 17] [] (.ite (.tmp 17) (.seq (.reg [
      .op (some 2) none (.mv (.const (.bool false)))])
    (.keep [2] [] (.ret)))
    (.skip))))
  (.keep [0] [] (.seq /- 4 -/ (.seq (.reg [
    .op (some 18) none (.mv (.tmp 0)),
    .op (some 19) none (.slen (.tmp 18)),
    .op (some 20) none (.mv (.const (.int .i64 0)))])
  (.keep [0, 19, 20] [] (rangeCC 0 20 19 21 1 (.seq (.reg [
      .op (some 22) none (.mv (.tmp 20)),
      .op (some 3) none (.mv (.tmp 22))])
    (.keep [0, 3, 19, 20] [] (.seq (.reg [
      .op (some 23) none (.mv (.tmp 0)),
      .op (some 24) none (.mv (.tmp 3)),
      .op (some 25) none (.sidx (.tmp 23) (.tmp 24)),
      .op (some 26) none (.call f_markup_goesOn [(.tmp 25)]),
      .op (some 27) none (.not (.tmp 26))])
    (.keep [0, 19, 20, 27] [] (.ite (.tmp 27) (.seq (.reg [
        .op (some 2) none (.mv (.const (.bool false)))])
      (.keep [2] [] (.ret)))
      (.skip)))))) 28)))
  (.keep [] [] (.seq (.reg [
    .op (some 2) none (.mv (.const (.bool true)))])
  (.keep [2] [] (.ret))))))))
def rs_markup_ValidName : List CRes := [.tmp 2]
def im_markup_ValidName : List Nat := []
theorem ok_markup_ValidName : FnOk Tryz.prog f_markup_ValidName im_markup_ValidName cc_markup_ValidName rs_markup_ValidName 29 := fnOk1 mixed (by kernel_rfl)
/-- corpora/markup.begins [uint8] -> [bool] -/
def cc_markup_begins : CC :=
  .seq (.reg [
    .op (some 2) none (.mv (.const (.bool false)))])
  (.keep [0] [] (.seq (.reg [
    .op (some 3) none (.mv (.tmp 0)),
    .op (some 4) none (.cmp .geq (.tmp 3) (.const (.int .u8 65))),
    .op (some 5) none (.mv (.tmp 4)),
    .op (some 6) (some (5, true)) (.mv (.tmp 0)),
    .op (some 7) (some (5, true)) (.cmp .leq (.tmp 6) (.const (.int .u8 90))),
    .op (some 8) none (.pick (.tmp 5) (.tmp 7) (.const (.bool false))),
    .op (some 9) none (.mv (.tmp 8)),
    .op (some 10) (some (9, false)) (.mv (.tmp 0)),
    .op (some 11) (some (9, false)) (.cmp .geq (.tmp 10) (.const (.int .u8 97))),
    .op (some 12) (some (9, false)) (.mv (.tmp 11)),
    .op (some 13) (some (12, true)) (.mv (.tmp 0)),
    .op (some 14) (some (12, true)) (.cmp .leq (.tmp 13) (.const (.int .u8 122))),
    .op (some 15) (some (9, false)) (.pick (.tmp 12) (.tmp 14) (.const (.bool false))),
    .op (some 16) none (.pick (.tmp 9) (.const (.bool true)) (.tmp 15)),
    .op (some 17) none (.mv (.tmp 16)),
    .op (some 18) (some (17, false)) (.mv (.tmp 0)),
    .op (some 19) (some (17, false)) (.eql false false [.int] (.tmp 18) (.const (.int .u8 95))),
    .op (some 20) none (.pick (.tmp 17) (.const (.bool true)) (.tmp 19)),
    .op (some 2) none (.mv (.tmp 20))])
  (.keep [2] [] (.ret))))
def rs_markup_begins : List CRes := [.tmp 2]
def im_markup_begins : List Nat := []
theorem ok_markup_begins : FnOk Tryz.prog f_markup_begins im_markup_begins cc_markup_begins rs_markup_begins 21 := fnOk1 mixed (by kernel_rfl)
/-- corpora/markup.goesOn [uint8] -> [bool] -/
def cc_markup_goesOn : CC :=
  .seq (.reg [
    .op (some 2) none (.mv (.const (.bool false)))])
  (.keep [0] [] (.seq (.reg [
    .op (some 3) none (.mv (.tmp 0)),
    .op (some 4) none (.call f_markup_begins [(.tmp 3)]),
    .op (some 5) none (.mv (.tmp 4)),
    .op (some 6) (some (5, false)) (.mv (.tmp 0)),
    .op (some 7) (some (5, false)) (.cmp .geq (.tmp 6) (.const (.int .u8 48))),
    .op (some 8) (some (5, false)) (.mv (.tmp 7)),
    .op (some 9) (some (8, true)) (.mv (.tmp 0)),
    .op (some 10) (some (8, true)) (.cmp .leq (.tmp 9) (.const (.int .u8 57))),
    .op (some 11) (some (5, false)) (.pick (.tmp 8) (.tmp 10) (.const (.bool false))),
    .op (some 12) none (.pick (.tmp 5) (.const (.bool true)) (.tmp 11)),
    .op (some 13) none (.mv (.tmp 12)),
    .op (some 14) (some (13, false)) (.mv (.tmp 0)),
    .op (some 15) (some (13, false)) (.eql false false [.int] (.tmp 14) (.const (.int .u8 45))),
    .op (some 16) none (.pick (.tmp 13) (.const (.bool true)) (.tmp 15)),
    .op (some 2) none (.mv (.tmp 16))])
  (.keep [2] [] (.ret))))
def rs_markup_goesOn : List CRes := [.tmp 2]
def im_markup_goesOn : List Nat := []
theorem ok_markup_goesOn : FnOk Tryz.prog f_markup_goesOn im_markup_goesOn cc_markup_goesOn rs_markup_goesOn 17 := fnOk1 mixed (by kernel_rfl)
/-- slices.ContainsFunc[[]corpora/api.Pattern,corpora/api.Pattern] [L_Pattern, func_Pattern_bool] -> [bool] -/
def cc_slices_ContainsFunc_Pattern : CC :=
  .seq (.reg [
    .op (some 4) none (.mv (.const (.bool false)))])
  (.keep [0, 1] [] (.seq (.reg [
    .op (some 5) none (.mv (.tmp 0)),
    .op (some 6) none (.mv (.tmp 1)),
    .op (some 7) none (.call f_slices_IndexFunc_Pattern [(.tmp 5), (.tmp 6)]),
    .op (some 8) none (.cmp .geq (.tmp 7) (.const (.int .i64 0))),
    .op (some 4) none (.mv (.tmp 8))])
  (.keep [4] [] (.ret))))
def rs_slices_ContainsFunc_Pattern : List CRes := [.tmp 4]
def im_slices_ContainsFunc_Pattern : List Nat := []
theorem ok_slices_ContainsFunc_Pattern : FnOk Tryz.prog f_slices_ContainsFunc_Pattern im_slices_ContainsFunc_Pattern cc_slices_ContainsFunc_Pattern rs_slices_ContainsFunc_Pattern 9 := fnOk1 mixed (by kernel_rfl)
-- slices_IndexFunc_Pattern range i=8 n=7 c=9 i2=18 id=0: live [0:s, 1:f] changed [] res []
/-- slices.IndexFunc[[]corpora/api.Pattern,corpora/api.Pattern] [L_Pattern, func_Pattern_bool] -> [int] -/
def cc_slices_IndexFunc_Pattern : CC :=
  .seq (.reg [
    .op (some 4) none (.mv (.const (.int .i64 0)))])
  (.keep [0, 1] [] (.seq /- 1 -/ (.seq (.reg [
    .op (some 6) none (.mv (.tmp 0)),
    .op (some 7) none (.len (.tmp 6)),
    .op (some 8) none (.mv (.const (.int .i64 0)))])
  (.keep [0, 1, 7, 8] [] (rangeCC 0 8 7 9 1 (.seq (.reg [
      .op (some 10) none (.mv (.tmp 8)),
      .op (some 5) none (.mv (.tmp 10))])
    (.keep [0, 1, 5, 7, 8] [] (.seq (.reg [
      .op (some 11) none (.mv (.tmp 1)),
      .op (some 12) none (.mv (.tmp 0)),
      .op (some 13) none (.mv (.tmp 5)),
      .op (some 14) none (.iaddr 13 (.tmp 12) (.tmp 13)),
      .op (some 15) none (.load true 13 (.tmp 14)),
      .op (some 16) none (.callv (.tmp 11) [(.tmp 15)])])
    (.keep [0, 1, 5, 7, 8, 16] [] (.ite (.tmp 16) (.seq (.reg [
        .op (some 17) none (.mv (.tmp 5)),
        .op (some 4) none (.mv (.tmp 17))])
      (.keep [4] [] (.ret)))
      (.skip)))))) 18)))
  (.keep [] [] (.seq (.reg [
    .op (some 4) none (.mv (.const (.int .i64 (-1))))])
  (.keep [4] [] (.ret))))))
def rs_slices_IndexFunc_Pattern : List CRes := [.tmp 4]
def im_slices_IndexFunc_Pattern : List Nat := []
theorem ok_slices_IndexFunc_Pattern : FnOk Tryz.prog f_slices_IndexFunc_Pattern im_slices_IndexFunc_Pattern cc_slices_IndexFunc_Pattern rs_slices_IndexFunc_Pattern 19 := fnOk1 mixed (by kernel_rfl)
-- r22_Same range i=58 n=57 c=59 i2=73 id=0: live [2:a, 3:b] changed [] res []
/-- corpora/corporaref22.Same [Cond, Cond] -> [bool] -/
def cc_r22_Same : CC :=
  .seq (.reg [
    .op (some 2) none (.box ty_Cond true (.tmp 0)),
    .op (some 3) none (.box ty_Cond true (.tmp 1)),
    .op (some 4) none (.mv (.const (.bool false)))])
  (.keep [2, 3] [] (.seq /- 1 -/ (.seq (.reg [
    .op (some 6) none (.faddr 0 (.tmp 2)),
    .op (some 7) none (.load false 1 (.tmp 6)),
    .op (some 8) none (.faddr 0 (.tmp 3)),
    .op (some 9) none (.load false 1 (.tmp 8)),
    .op (some 10) none (.eql true false [.int] (.tmp 7) (.tmp 9)),
    .op (some 11) none (.mv (.tmp 10)),
    .op (some 12) (some (11, false)) (.faddr 1 (.tmp 2)),
    .op (some 13) (some (11, false)) (.load false 1 (.tmp 12)),
    .op (some 14) (some (11, false)) (.faddr 1 (.tmp 3)),
    .op (some 15) (some (11, false)) (.load false 1 (.tmp 14)),
    .op (some 16) (some (11, false)) (.eql true false [.str] (.tmp 13) (.tmp 15)),
    .op (some 17) none (.pick (.tmp 11) (.const (.bool true)) (.tmp 16)),
    .op (some 18) none (.mv (.tmp 17)),
    .op (some 19) (some (18, false)) (.faddr 2 (.tmp 2)),
    .op (some 20) (some (18, false)) (.load false 1 (.tmp 19)),
    .op (some 21) (some (18, false)) (.faddr 2 (.tmp 3)),
    .op (some 22) (some (18, false)) (.load false 1 (.tmp 21)),
    .op (some 23) (some (18, false)) (.eql true false [.str] (.tmp 20) (.tmp 22)),
    .op (some 24) none (.pick (.tmp 18) (.const (.bool true)) (.tmp 23)),
    .op (some 25) none (.mv (.tmp 24)),
    .op (some 26) (some (25, false)) (.faddr 3 (.tmp 2)),
    .op (some 27) (some (25, false)) (.load false 1 (.tmp 26)),
    .op (some 28) (some (25, false)) (.faddr 3 (.tmp 3)),
    .op (some 29) (some (25, false)) (.load false 1 (.tmp 28)),
    .op (some 30) (some (25, false)) (.eql true false [.str] (.tmp 27) (.tmp 29)),
    .op (some 31) none (.pick (.tmp 25) (.const (.bool true)) (.tmp 30)),
    .op (some 32) none (.mv (.tmp 31)),
    .op (some 33) (some (32, false)) (.faddr 4 (.tmp 2)),
    .op (some 34) (some (32, false)) (.load false 1 (.tmp 33)),
    .op (some 35) (some (32, false)) (.faddr 4 (.tmp 3)),
    .op (some 36) (some (32, false)) (.load false 1 (.tmp 35)),
    .op (some 37) (some (32, false)) (.eql true false [.str] (.tmp 34) (.tmp 36)),
    .op (some 38) none (.pick (.tmp 32) (.const (.bool true)) (.tmp 37)),
    .op (some 39) none (.mv (.tmp 38)),
    .op (some 40) (some (39, false)) (.faddr 5 (.tmp 2)),
    .op (some 41) (some (39, false)) (.load false 1 (.tmp 40)),
    .op (some 42) (some (39, false)) (.faddr 5 (.tmp 3)),
    .op (some 43) (some (39, false)) (.load false 1 (.tmp 42)),
    .op (some 44) (some (39, false)) (.eql true false [.bool] (.tmp 41) (.tmp 43)),
    .op (some 45) none (.pick (.tmp 39) (.const (.bool true)) (.tmp 44)),
    .op (some 46) none (.mv (.tmp 45)),
    .op (some 47) (some (46, false)) (.faddr 6 (.tmp 2)),
    .op (some 48) (some (46, false)) (.load false 1 (.tmp 47)),
    .op (some 49) (some (46, false)) (.len (.tmp 48)),
    .op (some 50) (some (46, false)) (.faddr 6 (.tmp 3)),
    .op (some 51) (some (46, false)) (.load false 1 (.tmp 50)),
    .op (some 52) (some (46, false)) (.len (.tmp 51)),
    .op (some 53) (some (46, false)) (.eql true false [.int] (.tmp 49) (.tmp 52)),
    .op (some 54) none (.pick (.tmp 46) (.const (.bool true)) (.tmp 53))])
  (.keep [2, 3, 54] [] (.ite (.tmp 54) (.seq (.reg [
      .op (some 4) none (.mv (.const (.bool false)))])
    (.keep [4] [] (.ret)))
    (.skip))))
  (.keep [2, 3] [] (.seq /- 4 -/ (.seq (.reg [
    .op (some 55) none (.faddr 6 (.tmp 2)),
    .op (some 56) none (.load false 1 (.tmp 55)),
    .op (some 57) none (.len (.tmp 56)),
    .op (some 58) none (.mv (.const (.int .i64 0)))])
  (.keep [2, 3, 57, 58] [] (rangeCC 0 58 57 59 1 (.seq (.reg [
      .op (some 60) none (.mv (.tmp 58)),
      .op (some 5) none (.mv (.tmp 60))])
    (.keep [2, 3, 5, 57, 58] [] (.seq (.regd [
      .op (some 61) none (.faddr 6 (.tmp 2)),
      .op (some 62) none (.load false 1 (.tmp 61)),
      .op (some 63) none (.mv (.tmp 5)),
      .op (some 64) none (.iaddr 7 (.tmp 62) (.tmp 63)),
      .op (some 65) none (.load true 7 (.tmp 64)),
      .op (some 66) none (.faddr 6 (.tmp 3)),
      .op (some 67) none (.load false 1 (.tmp 66)),
      .op (some 68) none (.mv (.tmp 5)),
      .op (some 69) none (.iaddr 7 (.tmp 67) (.tmp 68)),
      .op (some 70) none (.load true 7 (.tmp 69))] [
      .op (some 71) none (.call f_r22_Same [(.tmp 65), (.tmp 70)]),
      .op (some 72) none (.not (.tmp 71))])
    (.keep [2, 3, 57, 58, 72] [] (.ite (.tmp 72) (.seq (.reg [
        .op (some 4) none (.mv (.const (.bool false)))])
      (.keep [4] [] (.ret)))
      (.skip)))))) 73)))
  (.keep [] [] (.seq (.reg [
    .op (some 4) none (.mv (.const (.bool true)))])
  (.keep [4] [] (.ret))))))))
def rs_r22_Same : List CRes := [.tmp 4]
def im_r22_Same : List Nat := [2, 3]
theorem ok_r22_Same : FnOk Tryz.prog f_r22_Same im_r22_Same cc_r22_Same rs_r22_Same 74 := fnOk1 mixed (by kernel_rfl)
/-- corpora/corporaref23.shape [Pattern, int] -> [bool] -/
def cc_r23_shape : CC :=
  .seq (.reg [
    .op (some 2) none (.box ty_Pattern true (.tmp 0)),
    .op (some 4) none (.mv (.const (.bool false)))])
  (.keep [1, 2] [] (.seq /- 1 -/ (.seq (.reg [
    .op (some 6) none (.mv (.tmp 1)),
    .op (some 7) none (.cmp .gtr (.tmp 6) (.const (.int .i64 100)))])
  (.keep [2, 7] [] (.ite (.tmp 7) (.seq (.reg [
      .op (some 4) none (.mv (.const (.bool false)))])
    (.keep [4] [] (.ret)))
    (.skip))))
  (.keep [2] [] (.seq (.reg [
    .op (some 8) none (.faddr 1 (.tmp 2)),
    .op (some 9) none (.load true 7 (.tmp 8)),
    .op (some 10) none (.build [(.int .i64 0), (.string ⟨#[]⟩), (.string ⟨#[]⟩), (.string ⟨#[]⟩), (.string ⟨#[]⟩), (.bool false), (.slice none 0 0)] []),
    .op (some 11) none (.call f_r22_Same [(.tmp 9), (.tmp 10)]),
    .op (some 12) none (.mv (.tmp 11)),
    .op (some 13) (some (12, true)) (.faddr 8 (.tmp 2)),
    .op (some 14) (some (12, true)) (.load false 1 (.tmp 13)),
    .op (some 15) (some (12, true)) (.eql false false [.str] (.tmp 14) (.const (.string ⟨#[]⟩))),
    .op (some 16) none (.pick (.tmp 12) (.tmp 15) (.const (.bool false))),
    .op (some 5) none (.mv (.tmp 16))])
  (.keep [2, 5] [] (.seq /- 5 -/ (.seq (.reg [
    .op (some 17) none (.faddr 0 (.tmp 2)),
    .op (some 18) none (.load false 1 (.tmp 17))])
  (.keep [2, 5, 18] [] (.block 0 (.seq (.reg [
      .op (some 20) none (.eql false false [.int] (.tmp 18) (.const (.int .i64 1))),
      .op (some 19) none (.mv (.tmp 20))])
    (.keep [2, 5, 18, 19] [] (.ite (.tmp 19) (.seq (.reg [
        .op (some 21) none (.faddr 9 (.tmp 2)),
        .op (some 22) none (.load false 1 (.tmp 21)),
        .op (some 23) none (.eql false false [.str] (.tmp 22) (.const (.string ⟨#[]⟩))),
        .op (some 24) none (.mv (.tmp 23)),
        .op (some 25) (some (24, true)) (.faddr 10 (.tmp 2)),
        .op (some 26) (some (24, true)) (.load false 1 (.tmp 25)),
        .op (some 27) (some (24, true)) (.eql false false [.int] (.tmp 26) (.const (.int .i64 0))),
        .op (some 28) none (.pick (.tmp 24) (.tmp 27) (.const (.bool false))),
        .op (some 29) none (.mv (.tmp 28)),
        .op (some 30) (some (29, true)) (.faddr 11 (.tmp 2)),
        .op (some 31) (some (29, true)) (.load false 1 (.tmp 30)),
        .op (some 32) (some (29, true)) (.eql false false [.int] (.tmp 31) (.const (.int .i64 0))),
        .op (some 33) none (.pick (.tmp 29) (.tmp 32) (.const (.bool false))),
        .op (some 34) none (.mv (.tmp 33)),
        .op (some 35) (some (34, true)) (.faddr 12 (.tmp 2)),
        .op (some 36) (some (34, true)) (.load false 1 (.tmp 35)),
        .op (some 37) (some (34, true)) (.len (.tmp 36)),
        .op (some 38) (some (34, true)) (.eql false false [.int] (.tmp 37) (.const (.int .i64 0))),
        .op (some 39) none (.pick (.tmp 34) (.tmp 38) (.const (.bool false))),
        .op (some 4) none (.mv (.tmp 39))])
      (.keep [4] [] (.ret)))
      (.seq /- 9 -/ (.seq (.reg [
        .op (some 41) none (.eql false false [.int] (.tmp 18) (.const (.int .i64 2))),
        .op (some 40) none (.mv (.tmp 41))])
      (.keep [2, 5, 18, 40] [] (.ite (.tmp 40) (.skip)
        (.reg [
          .op (some 42) none (.eql false false [.int] (.tmp 18) (.const (.int .i64 3))),
          .op (some 40) none (.mv (.tmp 42))]))))
      (.keep [2, 5, 18, 40] [] (.ite (.tmp 40) (.seq (.reg [
          .op (some 43) none (.mv (.tmp 5)),
          .op (some 44) none (.mv (.tmp 43)),
          .op (some 45) (some (44, true)) (.faddr 10 (.tmp 2)),
          .op (some 46) (some (44, true)) (.load false 1 (.tmp 45)),
          .op (some 47) (some (44, true)) (.eql false false [.int] (.tmp 46) (.const (.int .i64 0))),
          .op (some 48) none (.pick (.tmp 44) (.tmp 47) (.const (.bool false))),
          .op (some 49) none (.mv (.tmp 48)),
          .op (some 50) (some (49, true)) (.faddr 11 (.tmp 2)),
          .op (some 51) (some (49, true)) (.load false 1 (.tmp 50)),
          .op (some 52) (some (49, true)) (.eql false false [.int] (.tmp 51) (.const (.int .i64 0))),
          .op (some 53) none (.pick (.tmp 49) (.tmp 52) (.const (.bool false))),
          .op (some 54) none (.mv (.tmp 53)),
          .op (some 55) (some (54, true)) (.faddr 12 (.tmp 2)),
          .op (some 56) (some (54, true)) (.load false 1 (.tmp 55)),
          .op (some 57) (some (54, true)) (.len (.tmp 56)),
          .op (some 58) (some (54, true)) (.eql false false [.int] (.tmp 57) (.const (.int .i64 0))),
          .op (some 59) none (.pick (.tmp 54) (.tmp 58) (.const (.bool false))),
          .op (some 4) none (.mv (.tmp 59))])
        (.keep [4] [] (.ret)))
        (.seq /- 12 -/ (.seq (.reg [
          .op (some 61) none (.eql false false [.int] (.tmp 18) (.const (.int .i64 4))),
          .op (some 60) none (.mv (.tmp 61))])
        (.keep [2, 5, 18, 60] [] (.ite (.tmp 60) (.skip)
          (.reg [
            .op (some 62) none (.eql false false [.int] (.tmp 18) (.const (.int .i64 5))),
            .op (some 60) none (.mv (.tmp 62))]))))
        (.keep [2, 5, 18, 60] [] (.ite (.tmp 60) (.seq (.reg [
            .op (some 63) none (.mv (.tmp 5)),
            .op (some 64) none (.mv (.tmp 63)),
            .op (some 65) (some (64, true)) (.faddr 9 (.tmp 2)),
            .op (some 66) (some (64, true)) (.load false 1 (.tmp 65)),
            .op (some 67) (some (64, true)) (.eql false false [.str] (.tmp 66) (.const (.string ⟨#[]⟩))),
            .op (some 68) none (.pick (.tmp 64) (.tmp 67) (.const (.bool false))),
            .op (some 69) none (.mv (.tmp 68)),
            .op (some 70) (some (69, true)) (.faddr 10 (.tmp 2)),
            .op (some 71) (some (69, true)) (.load false 1 (.tmp 70)),
            .op (some 72) (some (69, true)) (.eql false false [.int] (.tmp 71) (.const (.int .i64 0))),
            .op (some 73) none (.pick (.tmp 69) (.tmp 72) (.const (.bool false))),
            .op (some 74) none (.mv (.tmp 73)),
            .op (some 75) (some (74, true)) (.faddr 11 (.tmp 2)),
            .op (some 76) (some (74, true)) (.load false 1 (.tmp 75)),
            .op (some 77) (some (74, true)) (.eql false false [.int] (.tmp 76) (.const (.int .i64 0))),
            .op (some 78) none (.pick (.tmp 74) (.tmp 77) (.const (.bool false))),
            .op (some 79) none (.mv (.tmp 78)),
            .op (some 80) (some (79, true)) (.faddr 12 (.tmp 2)),
            .op (some 81) (some (79, true)) (.load false 1 (.tmp 80)),
            .op (some 82) (some (79, true)) (.len (.tmp 81)),
            .op (some 83) (some (79, true)) (.cmp .geq (.tmp 82) (.const (.int .i64 2))),
            .op (some 84) none (.pick (.tmp 79) (.tmp 83) (.const (.bool false))),
            .op (some 4) none (.mv (.tmp 84))])
          (.keep [4] [] (.ret)))
          (.seq (.reg [
            .op (some 86) none (.eql false false [.int] (.tmp 18) (.const (.int .i64 6))),
            .op (some 85) none (.mv (.tmp 86))])
          (.keep [2, 5, 85] [] (.ite (.tmp 85) (.seq (.reg [
              .op (some 87) none (.mv (.tmp 5)),
              .op (some 88) none (.mv (.tmp 87)),
              .op (some 89) (some (88, true)) (.faddr 9 (.tmp 2)),
              .op (some 90) (some (88, true)) (.load false 1 (.tmp 89)),
              .op (some 91) (some (88, true)) (.eql false false [.str] (.tmp 90) (.const (.string ⟨#[]⟩))),
              .op (some 92) none (.pick (.tmp 88) (.tmp 91) (.const (.bool false))),
              .op (some 93) none (.mv (.tmp 92)),
              .op (some 94) (some (93, true)) (.faddr 12 (.tmp 2)),
              .op (some 95) (some (93, true)) (.load false 1 (.tmp 94)),
              .op (some 96) (some (93, true)) (.len (.tmp 95)),
              .op (some 97) (some (93, true)) (.eql false false [.int] (.tmp 96) (.const (.int .i64 1))),
              .op (some 98) none (.pick (.tmp 93) (.tmp 97) (.const (.bool false))),
              .op (some 4) none (.mv (.tmp 98))])
            (.keep [4] [] (.ret)))
            (.skip))))))))))))))))
  (.keep [] [] (.seq (.reg [
    .op (some 4) none (.mv (.const (.bool false)))])
  (.keep [4] [] (.ret))))))))))
def rs_r23_shape : List CRes := [.tmp 4]
def im_r23_shape : List Nat := [2]
theorem ok_r23_shape : FnOk Tryz.prog f_r23_shape im_r23_shape cc_r23_shape rs_r23_shape 99 := fnOk1 mixed (by kernel_rfl)
-- r23_shapes range i=14 n=13 c=15 i2=23 id=0: live [1:deep, 12:] changed [] res []
/-- corpora/corporaref23.shapes [Pattern, int] -> [bool] -/
def cc_r23_shapes : CC :=
  .seq (.reg [
    .op (some 2) none (.box ty_Pattern true (.tmp 0)),
    .op (some 4) none (.mv (.const (.bool false)))])
  (.keep [1, 2] [] (.seq /- 1 -/ (.seq (.reg [
    .op (some 7) none (.load true 13 (.tmp 2)),
    .op (some 8) none (.mv (.tmp 1)),
    .op (some 9) none (.call f_r23_shape [(.tmp 7), (.tmp 8)]),
    .op (some 10) none (.not (.tmp 9))])
  (.keep [1, 2, 10] [] (.ite (.tmp 10) (.seq (.reg [
      .op (some 4) none (.mv (.const (.bool false)))])
    (.keep [4] [] (.ret)))
    (.skip))))
  (.keep [1, 2] [] (.seq /- 4 -/ (.seq (.reg [
    .op (some 11) none (.faddr 12 (.tmp 2)),
    .op (some 12) none (.load false 1 (.tmp 11)),
    .op (some 13) none (.len (.tmp 12)),
    .op (some 14) none (.mv (.const (.int .i64 0)))])
  (.keep [1, 12, 13, 14] [] (rangeCC 0 14 13 15 1 (.seq (.reg [
      .op (some 16) none (.iaddr 13 (.tmp 12) (.tmp 14)),
      .op (some 17) none (.load true 13 (.tmp 16)),
      .op (some 6) none (.alloc ty_Pattern [(.int .i64 0), (.int .i64 0), (.string ⟨#[]⟩), (.string ⟨#[]⟩), (.string ⟨#[]⟩), (.string ⟨#[]⟩), (.bool false), (.slice none 0 0), (.string ⟨#[]⟩), (.string ⟨#[]⟩), (.int .i64 0), (.int .i64 0), (.slice none 0 0)]),
      .op none none (.store none 13 (.tmp 6) (.tmp 17))])
    (.keep [1, 6, 12, 13, 14] [6] (.seq (.reg [
      .op (some 18) none (.load true 13 (.tmp 6)),
      .op (some 19) none (.mv (.tmp 1)),
      .op (some 20) none (.arith .add (.tmp 19) (.const (.int .i64 1))),
      .op (some 21) none (.call f_r23_shapes [(.tmp 18), (.tmp 20)]),
      .op (some 22) none (.not (.tmp 21))])
    (.keep [1, 12, 13, 14, 22] [] (.ite (.tmp 22) (.seq (.reg [
        .op (some 4) none (.mv (.const (.bool false)))])
      (.keep [4] [] (.ret)))
      (.skip)))))) 23)))
  (.keep [] [] (.seq (.reg [
    .op (some 4) none (.mv (.const (.bool true)))])
  (.keep [4] [] (.ret))))))))
def rs_r23_shapes : List CRes := [.tmp 4]
def im_r23_shapes : List Nat := [2]
theorem ok_r23_shapes : FnOk Tryz.prog f_r23_shapes im_r23_shapes cc_r23_shapes rs_r23_shapes 24 := fnOk1 mixed (by kernel_rfl)
-- r23_names range i=33 n=32 c=34 i2=40 id=0: live [31:] changed [] res []
/-- corpora/corporaref23.names [Pattern] -> [bool] -/
def cc_r23_names : CC :=
  .seq (.reg [
    .op (some 1) none (.box ty_Pattern true (.tmp 0)),
    .op (some 2) none (.mv (.const (.bool false)))])
  (.keep [1] [] (seqM 1 (.seq (.reg [
    .op (some 5) none (.faddr 0 (.tmp 1)),
    .op (some 6) none (.load false 1 (.tmp 5)),
    .op (some 7) none (.eql false false [.int] (.tmp 6) (.const (.int .i64 2))),
    .op (some 8) none (.mv (.tmp 7)),
    .op (some 9) (some (8, false)) (.faddr 0 (.tmp 1)),
    .op (some 10) (some (8, false)) (.load false 1 (.tmp 9)),
    .op (some 11) (some (8, false)) (.eql false false [.int] (.tmp 10) (.const (.int .i64 3))),
    .op (some 12) none (.pick (.tmp 8) (.const (.bool true)) (.tmp 11)),
    .op (some 13) none (.mv (.tmp 12)),
    .op (some 14) (some (13, true)) (.faddr 9 (.tmp 1)),
    .op (some 15) (some (13, true)) (.load false 1 (.tmp 14)),
    .op (some 16) (some (13, true)) (.call f_r04_ValidName [(.tmp 15)]),
    .op (some 17) (some (13, true)) (.not (.tmp 16)),
    .op (some 18) none (.pick (.tmp 13) (.tmp 17) (.const (.bool false))),
    .op (some 19) none (.mv (.tmp 18)),
    .op (some 20) (some (19, false)) (.faddr 8 (.tmp 1)),
    .op (some 21) (some (19, false)) (.load false 1 (.tmp 20)),
    .op (some 22) (some (19, false)) (.eql true false [.str] (.tmp 21) (.const (.string ⟨#[]⟩))),
    .op (some 23) (some (19, false)) (.mv (.tmp 22)),
    .op (some 24) (some (23, true)) (.faddr 8 (.tmp 1)),
    .op (some 25) (some (23, true)) (.load false 1 (.tmp 24)),
    .op (some 26) (some (23, true)) (.call f_r04_ValidName [(.tmp 25)]),
    .op (some 27) (some (23, true)) (.not (.tmp 26)),
    .op (some 28) (some (19, false)) (.pick (.tmp 23) (.tmp 27) (.const (.bool false))),
    .op (some 29) none (.pick (.tmp 19) (.const (.bool true)) (.tmp 28))])
  (.keep [1, 29] [] (.ite (.tmp 29) (.seq (.reg [
      .op (some 2) none (.mv (.const (.bool false)))])
    (.keep [2] [] (.ret)))
    (.skip))))
  (.keep [1] [] (.seq /- 4 -/ (.seq (.reg [
    .op (some 30) none (.faddr 12 (.tmp 1)),
    .op (some 31) none (.load false 1 (.tmp 30)),
    .op (some 32) none (.len (.tmp 31)),
    .op (some 33) none (.mv (.const (.int .i64 0)))])
  (.keep [31, 32, 33] [] (rangeCC 0 33 32 34 1 (.seq (.reg [
      .op (some 35) none (.iaddr 13 (.tmp 31) (.tmp 33)),
      .op (some 36) none (.load true 13 (.tmp 35)),
      .op (some 4) none (.alloc ty_Pattern [(.int .i64 0), (.int .i64 0), (.string ⟨#[]⟩), (.string ⟨#[]⟩), (.string ⟨#[]⟩), (.string ⟨#[]⟩), (.bool false), (.slice none 0 0), (.string ⟨#[]⟩), (.string ⟨#[]⟩), (.int .i64 0), (.int .i64 0), (.slice none 0 0)]),
      .op none none (.store none 13 (.tmp 4) (.tmp 36))])
    (.keep [4, 31, 32, 33] [4] (.seq (.reg [
      .op (some 37) none (.load true 13 (.tmp 4)),
      .op (some 38) none (.call f_r23_names [(.tmp 37)]),
      .op (some 39) none (.not (.tmp 38))])
    (.keep [31, 32, 33, 39] [] (.ite (.tmp 39) (.seq (.reg [
        .op (some 2) none (.mv (.const (.bool false)))])
      (.keep [2] [] (.ret)))
      (.skip)))))) 40)))
  (.keep [] [] (.seq (.reg [
    .op (some 2) none (.mv (.const (.bool true)))])
  (.keep [2] [] (.ret))))))))
def rs_r23_names : List CRes := [.tmp 2]
def im_r23_names : List Nat := [1]
theorem ok_r23_names : FnOk Tryz.prog f_r23_names im_r23_names cc_r23_names rs_r23_names 41 := fnOk1 mixed (by kernel_rfl)
-- r23_numbers range i=38 n=37 c=39 i2=45 id=0: live [36:] changed [] res []
/-- corpora/corporaref23.numbers [Pattern] -> [bool] -/
def cc_r23_numbers : CC :=
  .seq (.reg [
    .op (some 1) none (.box ty_Pattern true (.tmp 0)),
    .op (some 2) none (.mv (.const (.bool false)))])
  (.keep [1] [] (seqM 1 (.seq (.reg [
    .op (some 5) none (.faddr 0 (.tmp 1)),
    .op (some 6) none (.load false 1 (.tmp 5)),
    .op (some 7) none (.eql false false [.int] (.tmp 6) (.const (.int .i64 6))),
    .op (some 8) none (.mv (.tmp 7)),
    .op (some 9) (some (8, true)) (.faddr 10 (.tmp 1)),
    .op (some 10) (some (8, true)) (.load false 1 (.tmp 9)),
    .op (some 11) (some (8, true)) (.cmp .lss (.tmp 10) (.const (.int .i64 0))),
    .op (some 12) (some (8, true)) (.mv (.tmp 11)),
    .op (some 13) (some (12, false)) (.faddr 10 (.tmp 1)),
    .op (some 14) (some (12, false)) (.load false 1 (.tmp 13)),
    .op (some 15) (some (12, false)) (.cmp .gtr (.tmp 14) (.const (.int .i64 16))),
    .op (some 16) (some (8, true)) (.pick (.tmp 12) (.const (.bool true)) (.tmp 15)),
    .op (some 17) (some (8, true)) (.mv (.tmp 16)),
    .op (some 18) (some (17, false)) (.faddr 11 (.tmp 1)),
    .op (some 19) (some (17, false)) (.load false 1 (.tmp 18)),
    .op (some 20) (some (17, false)) (.eql true false [.int] (.tmp 19) (.const (.int .i64 (-1)))),
    .op (some 21) (some (17, false)) (.mv (.tmp 20)),
    .op (some 22) (some (21, true)) (.faddr 11 (.tmp 1)),
    .op (some 23) (some (21, true)) (.load false 1 (.tmp 22)),
    .op (some 24) (some (21, true)) (.faddr 10 (.tmp 1)),
    .op (some 25) (some (21, true)) (.load false 1 (.tmp 24)),
    .op (some 26) (some (21, true)) (.cmp .lss (.tmp 23) (.tmp 25)),
    .op (some 27) (some (21, true)) (.mv (.tmp 26)),
    .op (some 28) (some (27, false)) (.faddr 11 (.tmp 1)),
    .op (some 29) (some (27, false)) (.load false 1 (.tmp 28)),
    .op (some 30) (some (27, false)) (.cmp .gtr (.tmp 29) (.const (.int .i64 16))),
    .op (some 31) (some (21, true)) (.pick (.tmp 27) (.const (.bool true)) (.tmp 30)),
    .op (some 32) (some (17, false)) (.pick (.tmp 21) (.tmp 31) (.const (.bool false))),
    .op (some 33) (some (8, true)) (.pick (.tmp 17) (.const (.bool true)) (.tmp 32)),
    .op (some 34) none (.pick (.tmp 8) (.tmp 33) (.const (.bool false)))])
  (.keep [1, 34] [] (.ite (.tmp 34) (.seq (.reg [
      .op (some 2) none (.mv (.const (.bool false)))])
    (.keep [2] [] (.ret)))
    (.skip))))
  (.keep [1] [] (.seq /- 4 -/ (.seq (.reg [
    .op (some 35) none (.faddr 12 (.tmp 1)),
    .op (some 36) none (.load false 1 (.tmp 35)),
    .op (some 37) none (.len (.tmp 36)),
    .op (some 38) none (.mv (.const (.int .i64 0)))])
  (.keep [36, 37, 38] [] (rangeCC 0 38 37 39 1 (.seq (.reg [
      .op (some 40) none (.iaddr 13 (.tmp 36) (.tmp 38)),
      .op (some 41) none (.load true 13 (.tmp 40)),
      .op (some 4) none (.alloc ty_Pattern [(.int .i64 0), (.int .i64 0), (.string ⟨#[]⟩), (.string ⟨#[]⟩), (.string ⟨#[]⟩), (.string ⟨#[]⟩), (.bool false), (.slice none 0 0), (.string ⟨#[]⟩), (.string ⟨#[]⟩), (.int .i64 0), (.int .i64 0), (.slice none 0 0)]),
      .op none none (.store none 13 (.tmp 4) (.tmp 41))])
    (.keep [4, 36, 37, 38] [4] (.seq (.reg [
      .op (some 42) none (.load true 13 (.tmp 4)),
      .op (some 43) none (.call f_r23_numbers [(.tmp 42)]),
      .op (some 44) none (.not (.tmp 43))])
    (.keep [36, 37, 38, 44] [] (.ite (.tmp 44) (.seq (.reg [
        .op (some 2) none (.mv (.const (.bool false)))])
      (.keep [2] [] (.ret)))
      (.skip)))))) 45)))
  (.keep [] [] (.seq (.reg [
    .op (some 2) none (.mv (.const (.bool true)))])
  (.keep [2] [] (.ret))))))))
def rs_r23_numbers : List CRes := [.tmp 2]
def im_r23_numbers : List Nat := [1]
theorem ok_r23_numbers : FnOk Tryz.prog f_r23_numbers im_r23_numbers cc_r23_numbers rs_r23_numbers 46 := fnOk1 mixed (by kernel_rfl)
/-- corpora/corporaref23.IsPattern [Pattern] -> [bool] -/
def cc_r23_IsPattern : CC :=
  .seq (.reg [
    .op (some 1) none (.box ty_Pattern true (.tmp 0)),
    .op (some 2) none (.mv (.const (.bool false)))])
  (.keep [1] [] (.seq (.reg [
    .op (some 3) none (.load true 13 (.tmp 1)),
    .op (some 4) none (.call f_r23_shapes [(.tmp 3), (.const (.int .i64 1))]),
    .op (some 5) none (.mv (.tmp 4)),
    .op (some 6) (some (5, true)) (.load true 13 (.tmp 1)),
    .op (some 7) (some (5, true)) (.call f_r23_names [(.tmp 6)]),
    .op (some 8) none (.pick (.tmp 5) (.tmp 7) (.const (.bool false))),
    .op (some 9) none (.mv (.tmp 8)),
    .op (some 10) (some (9, true)) (.load true 13 (.tmp 1)),
    .op (some 11) (some (9, true)) (.call f_r23_numbers [(.tmp 10)]),
    .op (some 12) none (.pick (.tmp 9) (.tmp 11) (.const (.bool false))),
    .op (some 2) none (.mv (.tmp 12))])
  (.keep [2] [] (.ret))))
def rs_r23_IsPattern : List CRes := [.tmp 2]
def im_r23_IsPattern : List Nat := [1]
theorem ok_r23_IsPattern : FnOk Tryz.prog f_r23_IsPattern im_r23_IsPattern cc_r23_IsPattern rs_r23_IsPattern 13 := fnOk1 mixed (by kernel_rfl)
-- r23_leaves range i=17 n=16 c=18 i2=24 id=0: live [1:out, 15:] changed [1] res [1, 23]
/-- corpora/corporaref23.leaves [Pattern, L_Pattern] -> [L_Pattern] -/
def cc_r23_leaves : CC :=
  .seq (.reg [
    .op (some 2) none (.box ty_Pattern true (.tmp 0)),
    .op (some 4) none (.mv (.const (.slice none 0 0)))])
  (.keep [1, 2] [1, 23] (.seq /- 1 -/ (.seq (.reg [
    .op (some 7) none (.faddr 0 (.tmp 2)),
    .op (some 8) none (.load false 1 (.tmp 7)),
    .op (some 9) none (.eql false false [.int] (.tmp 8) (.const (.int .i64 1)))])
  (.keep [1, 2, 9] [1, 23] (.ite (.tmp 9) (.seq (.reg [
      .op (some 10) none (.mv (.tmp 1)),
      .op (some 11) none (.load true 13 (.tmp 2)),
      .op (some 12) none (.bslice ty_Pattern 13 [(.tmp 11)]),
      .op (some 13) none (.append none ty_Pattern 13 184 (.tmp 10) (.tmp 12)),
      .op (some 4) none (.mv (.tmp 13))])
    (.keep [4] [1, 13, 23] (.ret)))
    (.skip))))
  (.keep [1, 2] [1, 23] (.seq /- 4 -/ (.seq (.reg [
    .op (some 14) none (.faddr 12 (.tmp 2)),
    .op (some 15) none (.load false 1 (.tmp 14)),
    .op (some 16) none (.len (.tmp 15)),
    .op (some 17) none (.mv (.const (.int .i64 0)))])
  (.keep [1, 15, 16, 17] [1, 23] (rangeCC 0 17 16 18 1 (.seq (.reg [
      .op (some 19) none (.iaddr 13 (.tmp 15) (.tmp 17)),
      .op (some 20) none (.load true 13 (.tmp 19)),
      .op (some 6) none (.alloc ty_Pattern [(.int .i64 0), (.int .i64 0), (.string ⟨#[]⟩), (.string ⟨#[]⟩), (.string ⟨#[]⟩), (.string ⟨#[]⟩), (.bool false), (.slice none 0 0), (.string ⟨#[]⟩), (.string ⟨#[]⟩), (.int .i64 0), (.int .i64 0), (.slice none 0 0)]),
      .op none none (.store none 13 (.tmp 6) (.tmp 20))])
    (.keep [1, 6, 15, 16, 17] [1, 6, 23] (.reg [
      .op (some 21) none (.load true 13 (.tmp 6)),
      .op (some 22) none (.mv (.tmp 1)),
      .op (some 23) none (.call f_r23_leaves [(.tmp 21), (.tmp 22)]),
      .op (some 1) none (.mv (.tmp 23))]))) 24)))
  (.keep [1] [1, 23] (.seq (.reg [
    .op (some 25) none (.mv (.tmp 1)),
    .op (some 4) none (.mv (.tmp 25))])
  (.keep [4] [1, 13, 23] (.ret))))))))
def rs_r23_leaves : List CRes := [.tmp 4]
def im_r23_leaves : List Nat := [2]
theorem ok_r23_leaves : FnOk Tryz.prog f_r23_leaves im_r23_leaves cc_r23_leaves rs_r23_leaves 26 := fnOk1 mixed (by kernel_rfl)
/-- corpora/corporaref23.Leaves [Pattern] -> [L_Pattern] -/
def cc_r23_Leaves : CC :=
  .seq (.reg [
    .op (some 1) none (.box ty_Pattern true (.tmp 0)),
    .op (some 2) none (.mv (.const (.slice none 0 0)))])
  (.keep [1] [] (.seq /- 1 -/ (.seq (.reg [
    .op (some 3) none (.load true 13 (.tmp 1)),
    .op (some 4) none (.call f_r23_IsPattern [(.tmp 3)]),
    .op (some 5) none (.not (.tmp 4))])
  (.keep [1, 5] [] (.ite (.tmp 5) (.seq (.reg [
      .op (some 2) none (.mv (.const (.slice none 0 0)))])
    (.keep [2] [7] (.ret)))
    (.skip))))
  (.keep [1] [] (.seq (.reg [
    .op (some 6) none (.load true 13 (.tmp 1)),
    .op (some 7) none (.call f_r23_leaves [(.tmp 6), (.const (.slice none 0 0))]),
    .op (some 2) none (.mv (.tmp 7))])
  (.keep [2] [7] (.ret))))))
def rs_r23_Leaves : List CRes := [.tmp 2]
def im_r23_Leaves : List Nat := [1]
theorem ok_r23_Leaves : FnOk Tryz.prog f_r23_Leaves im_r23_Leaves cc_r23_Leaves rs_r23_Leaves 8 := fnOk1 mixed (by kernel_rfl)
-- r23_size range i=13 n=12 c=14 i2=22 id=0: live [1:p, 3:n, 11:] changed [3] res []
/-- corpora/corporaref23.size [Pattern] -> [int] -/
def cc_r23_size : CC :=
  .seq (.reg [
    .op (some 1) none (.box ty_Pattern true (.tmp 0)),
    .op (some 2) none (.mv (.const (.int .i64 0)))])
  (.keep [1] [] (.seq /- 1 -/ (.seq (.reg [
    .op (some 6) none (.faddr 12 (.tmp 1)),
    .op (some 7) none (.load false 1 (.tmp 6)),
    .op (some 8) none (.len (.tmp 7)),
    .op (some 9) none (.eql false false [.int] (.tmp 8) (.const (.int .i64 0)))])
  (.keep [1, 9] [] (.ite (.tmp 9) (.seq (.reg [
      .op (some 2) none (.mv (.const (.int .i64 1)))])
    (.keep [2] [] (.ret)))
    (.skip))))
  (.keep [1] [] (.seq (.reg [
    .op (some 3) none (.mv (.const (.int .i64 0)))])
  (.keep [1, 3] [] (.seq /- 5 -/ (.seq (.reg [
    .op (some 10) none (.faddr 12 (.tmp 1)),
    .op (some 11) none (.load false 1 (.tmp 10)),
    .op (some 12) none (.len (.tmp 11)),
    .op (some 13) none (.mv (.const (.int .i64 0)))])
  (.keep [1, 3, 11, 12, 13] [] (rangeCC 0 13 12 14 1 (.seq (.reg [
      .op (some 15) none (.iaddr 13 (.tmp 11) (.tmp 13)),
      .op (some 16) none (.load true 13 (.tmp 15)),
      .op (some 5) none (.alloc ty_Pattern [(.int .i64 0), (.int .i64 0), (.string ⟨#[]⟩), (.string ⟨#[]⟩), (.string ⟨#[]⟩), (.string ⟨#[]⟩), (.bool false), (.slice none 0 0), (.string ⟨#[]⟩), (.string ⟨#[]⟩), (.int .i64 0), (.int .i64 0), (.slice none 0 0)]),
      .op none none (.store none 13 (.tmp 5) (.tmp 16))])
    (.keep [1, 3, 5, 11, 12, 13] [5] (.reg [
      .op (some 17) none (.mv (.tmp 3)),
      .op (some 18) none (.load true 13 (.tmp 5)),
      .op (some 19) none (.call f_r23_size [(.tmp 18)]),
      .op (some 20) none (.arith .add (.tmp 17) (.tmp 19)),
      .op (some 21) none (.mm false [(.tmp 20), (.const (.int .i64 1000))]),
      .op (some 3) none (.mv (.tmp 21))]))) 22)))
  (.keep [1, 3] [] (.seq /- 8 -/ (.seq (.reg [
    .op (some 23) none (.faddr 0 (.tmp 1)),
    .op (some 24) none (.load false 1 (.tmp 23)),
    .op (some 25) none (.eql false false [.int] (.tmp 24) (.const (.int .i64 6)))])
  (.keep [1, 3, 25] [] (.ite (.tmp 25) (.seq (.reg [
      .op (some 26) none (.faddr 11 (.tmp 1)),
      .op (some 27) none (.load false 1 (.tmp 26))])
    (.keep [1, 3, 27] [] (.block 2 (.seq (.reg [
        .op (some 33) none (.eql false false [.int] (.tmp 27) (.const (.int .i64 (-1)))),
        .op (some 32) none (.mv (.tmp 33))])
      (.keep [1, 3, 27, 32] [] (.ite (.tmp 32) (.reg [
          .op (some 34) none (.mv (.tmp 3)),
          .op (some 35) none (.faddr 10 (.tmp 1)),
          .op (some 36) none (.load false 1 (.tmp 35)),
          .op (some 37) none (.arith .add (.tmp 36) (.const (.int .i64 1))),
          .op (some 38) none (.mm true [(.const (.int .i64 1)), (.tmp 37)]),
          .op (some 39) none (.arith .mul (.tmp 34) (.tmp 38)),
          .op (some 3) none (.mv (.tmp 39))])
        (.seq (.reg [
          .op (some 41) none (.eql false false [.int] (.tmp 27) (.const (.int .i64 0))),
          .op (some 40) none (.mv (.tmp 41))])
        (.keep [1, 3, 40] [] (.ite (.tmp 40) (.skip)
          (.reg [
            .op (some 28) none (.mv (.tmp 3)),
            .op (some 29) none (.faddr 11 (.tmp 1)),
            .op (some 30) none (.load false 1 (.tmp 29)),
            .op (some 31) none (.arith .mul (.tmp 28) (.tmp 30)),
            .op (some 3) none (.mv (.tmp 31))]))))))))))
    (.skip))))
  (.keep [3] [] (.seq (.reg [
    .op (some 42) none (.mv (.tmp 3)),
    .op (some 43) none (.mm false [(.tmp 42), (.const (.int .i64 1000))]),
    .op (some 2) none (.mv (.tmp 43))])
  (.keep [2] [] (.ret))))))))))))
def rs_r23_size : List CRes := [.tmp 2]
def im_r23_size : List Nat := [1]
theorem ok_r23_size : FnOk Tryz.prog f_r23_size im_r23_size cc_r23_size rs_r23_size 44 := fnOk1 mixed (by kernel_rfl)
/-- corpora/corporaref23.Size [Pattern] -> [int] -/
def cc_r23_Size : CC :=
  .seq (.reg [
    .op (some 1) none (.box ty_Pattern true (.tmp 0)),
    .op (some 2) none (.mv (.const (.int .i64 0)))])
  (.keep [1] [] (.seq /- 1 -/ (.seq (.reg [
    .op (some 3) none (.load true 13 (.tmp 1)),
    .op (some 4) none (.call f_r23_IsPattern [(.tmp 3)]),
    .op (some 5) none (.not (.tmp 4))])
  (.keep [1, 5] [] (.ite (.tmp 5) (.seq (.reg [
      .op (some 2) none (.mv (.const (.int .i64 0)))])
    (.keep [2] [] (.ret)))
    (.skip))))
  (.keep [1] [] (.seq (.reg [
    .op (some 6) none (.load true 13 (.tmp 1)),
    .op (some 7) none (.call f_r23_size [(.tmp 6)]),
    .op (some 2) none (.mv (.tmp 7))])
  (.keep [2] [] (.ret))))))
def rs_r23_Size : List CRes := [.tmp 2]
def im_r23_Size : List Nat := [1]
theorem ok_r23_Size : FnOk Tryz.prog f_r23_Size im_r23_Size cc_r23_Size rs_r23_Size 8 := fnOk1 mixed (by kernel_rfl)
-- r23_width range i=57 n=56 c=58 i2=102 id=1: live [1:p, 6:least, 7:most, 55:] changed [6, 7] res []
/-- corpora/corporaref23.width [Pattern] -> [int, int] -/
def cc_r23_width : CC :=
  .seq (.reg [
    .op (some 1) none (.box ty_Pattern true (.tmp 0)),
    .op (some 2) none (.mv (.const (.int .i64 0))),
    .op (some 3) none (.mv (.const (.int .i64 0)))])
  (.keep [1] [] (.seq /- 1 -/ (.seq (.reg [
    .op (some 12) none (.faddr 0 (.tmp 1)),
    .op (some 13) none (.load false 1 (.tmp 12))])
  (.keep [1, 13] [] (.block 0 (.seq (.reg [
      .op (some 15) none (.eql false false [.int] (.tmp 13) (.const (.int .i64 1))),
      .op (some 14) none (.mv (.tmp 15))])
    (.keep [1, 13, 14] [] (.ite (.tmp 14) (.seq (.reg [
        .op (some 2) none (.mv (.const (.int .i64 1))),
        .op (some 3) none (.mv (.const (.int .i64 1)))])
      (.keep [2, 3] [] (.ret)))
      (.seq /- 5 -/ (.seq (.reg [
        .op (some 17) none (.eql false false [.int] (.tmp 13) (.const (.int .i64 2))),
        .op (some 16) none (.mv (.tmp 17))])
      (.keep [1, 13, 16] [] (.ite (.tmp 16) (.skip)
        (.reg [
          .op (some 18) none (.eql false false [.int] (.tmp 13) (.const (.int .i64 3))),
          .op (some 16) none (.mv (.tmp 18))]))))
      (.keep [1, 13, 16] [] (.ite (.tmp 16) (.seq (.reg [
          .op (some 2) none (.mv (.const (.int .i64 0))),
          .op (some 3) none (.mv (.const (.int .i64 0)))])
        (.keep [2, 3] [] (.ret)))
        (.seq (.reg [
          .op (some 20) none (.eql false false [.int] (.tmp 13) (.const (.int .i64 6))),
          .op (some 19) none (.mv (.tmp 20))])
        (.keep [1, 19] [] (.ite (.tmp 19) (.seq (.reg [
            .op (some 22) none (.faddr 12 (.tmp 1)),
            .op (some 23) none (.load false 1 (.tmp 22)),
            .op (some 24) none (.iaddr 13 (.tmp 23) (.const (.int .i64 0))),
            .op (some 25) none (.load true 13 (.tmp 24)),
            .op (some 26) none (.call f_r23_width [(.tmp 25)]),
            .op (some 21) none (.mv (.tmp 26)),
            .op (some 27) none (.ext (.tmp 21) 0),
            .op (some 28) none (.ext (.tmp 21) 1),
            .op (some 4) none (.mv (.tmp 27)),
            .op (some 5) none (.mv (.tmp 28))])
          (.keep [1, 4, 5] [] (.seq /- 10 -/ (.seq (.reg [
            .op (some 29) none (.faddr 11 (.tmp 1)),
            .op (some 30) none (.load false 1 (.tmp 29)),
            .op (some 31) none (.eql false false [.int] (.tmp 30) (.const (.int .i64 0))),
            .op (some 32) none (.mv (.tmp 31)),
            .op (some 33) (some (32, false)) (.mv (.tmp 5)),
            .op (some 34) (some (32, false)) (.eql false false [.int] (.tmp 33) (.const (.int .i64 0))),
            .op (some 35) none (.pick (.tmp 32) (.const (.bool true)) (.tmp 34))])
          (.keep [1, 4, 5, 35] [] (.ite (.tmp 35) (.reg [
              .op (some 5) none (.mv (.const (.int .i64 0)))])
            (.seq (.reg [
              .op (some 36) none (.faddr 11 (.tmp 1)),
              .op (some 37) none (.load false 1 (.tmp 36)),
              .op (some 38) none (.eql false false [.int] (.tmp 37) (.const (.int .i64 (-1)))),
              .op (some 39) none (.mv (.tmp 38)),
              .op (some 40) (some (39, false)) (.mv (.tmp 5)),
              .op (some 41) (some (39, false)) (.eql false false [.int] (.tmp 40) (.const (.int .i64 (-1)))),
              .op (some 42) none (.pick (.tmp 39) (.const (.bool true)) (.tmp 41))])
            (.keep [1, 4, 5, 42] [] (.ite (.tmp 42) (.reg [
                .op (some 5) none (.mv (.const (.int .i64 (-1))))])
              (.reg [
                .op (some 43) none (.mv (.tmp 5)),
                .op (some 44) none (.faddr 11 (.tmp 1)),
                .op (some 45) none (.load false 1 (.tmp 44)),
                .op (some 46) none (.arith .mul (.tmp 43) (.tmp 45)),
                .op (some 47) none (.mm false [(.tmp 46), (.const (.int .i64 10000))]),
                .op (some 5) none (.mv (.tmp 47))])))))))
          (.keep [1, 4, 5] [] (.seq (.reg [
            .op (some 48) none (.mv (.tmp 4)),
            .op (some 49) none (.faddr 10 (.tmp 1)),
            .op (some 50) none (.load false 1 (.tmp 49)),
            .op (some 51) none (.arith .mul (.tmp 48) (.tmp 50)),
            .op (some 52) none (.mm false [(.tmp 51), (.const (.int .i64 10000))]),
            .op (some 53) none (.mv (.tmp 5)),
            .op (some 2) none (.mv (.tmp 52)),
            .op (some 3) none (.mv (.tmp 53))])
          (.keep [2, 3] [] (.ret)))))))
          (.skip)))))))))))))
  (.keep [1] [] (.seq (.reg [
    .op (some 6) none (.mv (.const (.int .i64 0))),
    .op (some 7) none (.mv (.const (.int .i64 0)))])
  (.keep [1, 6, 7] [] (.seq /- 15 -/ (.seq (.reg [
    .op (some 54) none (.faddr 12 (.tmp 1)),
    .op (some 55) none (.load false 1 (.tmp 54)),
    .op (some 56) none (.len (.tmp 55)),
    .op (some 57) none (.mv (.const (.int .i64 0)))])
  (.keep [1, 6, 7, 55, 56, 57] [] (rangeCC 1 57 56 58 2 (.seq (.reg [
      .op (some 59) none (.mv (.tmp 57)),
      .op (some 60) none (.iaddr 13 (.tmp 55) (.tmp 57)),
      .op (some 61) none (.load true 13 (.tmp 60)),
      .op (some 9) none (.alloc ty_Pattern [(.int .i64 0), (.int .i64 0), (.string ⟨#[]⟩), (.string ⟨#[]⟩), (.string ⟨#[]⟩), (.string ⟨#[]⟩), (.bool false), (.slice none 0 0), (.string ⟨#[]⟩), (.string ⟨#[]⟩), (.int .i64 0), (.int .i64 0), (.slice none 0 0)]),
      .op (some 8) none (.mv (.tmp 59)),
      .op none none (.store none 13 (.tmp 9) (.tmp 61))])
    (.keep [1, 6, 7, 8, 9, 55, 56, 57] [9] (.seq (.reg [
      .op (some 63) none (.load true 13 (.tmp 9)),
      .op (some 64) none (.call f_r23_width [(.tmp 63)]),
      .op (some 62) none (.mv (.tmp 64)),
      .op (some 65) none (.ext (.tmp 62) 0),
      .op (some 66) none (.ext (.tmp 62) 1),
      .op (some 10) none (.mv (.tmp 65)),
      .op (some 11) none (.mv (.tmp 66))])
    (.keep [1, 6, 7, 8, 10, 11, 55, 56, 57] [] (.block 3 (.seq (.reg [
        .op (some 80) none (.faddr 0 (.tmp 1)),
        .op (some 81) none (.load false 1 (.tmp 80)),
        .op (some 82) none (.eql false false [.int] (.tmp 81) (.const (.int .i64 4))),
        .op (some 79) none (.mv (.tmp 82))])
      (.keep [1, 6, 7, 8, 10, 11, 55, 56, 57, 79] [] (.ite (.tmp 79) (.seq (.reg [
          .op (some 83) none (.mv (.tmp 6)),
          .op (some 84) none (.mv (.tmp 10)),
          .op (some 85) none (.arith .add (.tmp 83) (.tmp 84)),
          .op (some 86) none (.mm false [(.tmp 85), (.const (.int .i64 10000))]),
          .op (some 6) none (.mv (.tmp 86))])
        (.keep [1, 6, 7, 11, 55, 56, 57] [] (.seq (.reg [
          .op (some 87) none (.mv (.tmp 11)),
          .op (some 88) none (.eql false false [.int] (.tmp 87) (.const (.int .i64 (-1)))),
          .op (some 89) none (.mv (.tmp 88)),
          .op (some 90) (some (89, false)) (.mv (.tmp 7)),
          .op (some 91) (some (89, false)) (.eql false false [.int] (.tmp 90) (.const (.int .i64 (-1)))),
          .op (some 92) none (.pick (.tmp 89) (.const (.bool true)) (.tmp 91))])
        (.keep [1, 6, 7, 11, 55, 56, 57, 92] [] (.ite (.tmp 92) (.reg [
            .op (some 7) none (.mv (.const (.int .i64 (-1))))])
          (.reg [
            .op (some 93) none (.mv (.tmp 7)),
            .op (some 94) none (.mv (.tmp 11)),
            .op (some 95) none (.arith .add (.tmp 93) (.tmp 94)),
            .op (some 96) none (.mm false [(.tmp 95), (.const (.int .i64 10000))]),
            .op (some 7) none (.mv (.tmp 96))]))))))
        (.seq (.reg [
          .op (some 98) none (.mv (.tmp 8)),
          .op (some 99) none (.eql false false [.int] (.tmp 98) (.const (.int .i64 0))),
          .op (some 97) none (.mv (.tmp 99))])
        (.keep [1, 6, 7, 10, 11, 55, 56, 57, 97] [] (.ite (.tmp 97) (.reg [
            .op (some 100) none (.mv (.tmp 10)),
            .op (some 101) none (.mv (.tmp 11)),
            .op (some 6) none (.mv (.tmp 100)),
            .op (some 7) none (.mv (.tmp 101))])
          (.seq (.reg [
            .op (some 67) none (.mv (.tmp 6)),
            .op (some 68) none (.mv (.tmp 10)),
            .op (some 69) none (.mm false [(.tmp 67), (.tmp 68)]),
            .op (some 6) none (.mv (.tmp 69))])
          (.keep [1, 6, 7, 11, 55, 56, 57] [] (.seq (.reg [
            .op (some 70) none (.mv (.tmp 11)),
            .op (some 71) none (.eql false false [.int] (.tmp 70) (.const (.int .i64 (-1)))),
            .op (some 72) none (.mv (.tmp 71)),
            .op (some 73) (some (72, false)) (.mv (.tmp 7)),
            .op (some 74) (some (72, false)) (.eql false false [.int] (.tmp 73) (.const (.int .i64 (-1)))),
            .op (some 75) none (.pick (.tmp 72) (.const (.bool true)) (.tmp 74))])
          (.keep [1, 6, 7, 11, 55, 56, 57, 75] [] (.ite (.tmp 75) (.reg [
              .op (some 7) none (.mv (.const (.int .i64 (-1))))])
            (.reg [
              .op (some 76) none (.mv (.tmp 7)),
              .op (some 77) none (.mv (.tmp 11)),
              .op (some 78) none (.mm true [(.tmp 76), (.tmp 77)]),
              .op (some 7) none (.mv (.tmp 78))]))))))))))))))))) 102)))
  (.keep [6, 7] [] (.seq (.reg [
    .op (some 103) none (.mv (.tmp 6)),
    .op (some 104) none (.mv (.tmp 7)),
    .op (some 2) none (.mv (.tmp 103)),
    .op (some 3) none (.mv (.tmp 104))])
  (.keep [2, 3] [] (.ret))))))))))
def rs_r23_width : List CRes := [.tmp 2, .tmp 3]
def im_r23_width : List Nat := [1]
theorem ok_r23_width : FnOk Tryz.prog f_r23_width im_r23_width cc_r23_width rs_r23_width 105 := fnOk1 mixed (by kernel_rfl)
/-- corpora/corporaref23.Width [Pattern] -> [int, int] -/
def cc_r23_Width : CC :=
  .seq (.reg [
    .op (some 1) none (.box ty_Pattern true (.tmp 0)),
    .op (some 2) none (.mv (.const (.int .i64 0))),
    .op (some 3) none (.mv (.const (.int .i64 0)))])
  (.keep [1] [] (.seq /- 1 -/ (.seq (.reg [
    .op (some 4) none (.load true 13 (.tmp 1)),
    .op (some 5) none (.call f_r23_IsPattern [(.tmp 4)]),
    .op (some 6) none (.not (.tmp 5))])
  (.keep [1, 6] [] (.ite (.tmp 6) (.seq (.reg [
      .op (some 2) none (.mv (.const (.int .i64 0))),
      .op (some 3) none (.mv (.const (.int .i64 0)))])
    (.keep [2, 3] [] (.ret)))
    (.skip))))
  (.keep [1] [] (.seq (.reg [
    .op (some 7) none (.load true 13 (.tmp 1)),
    .op (some 8) none (.call f_r23_width [(.tmp 7)]),
    .op (some 9) none (.ext (.tmp 8) 0),
    .op (some 10) none (.ext (.tmp 8) 1),
    .op (some 2) none (.mv (.tmp 9)),
    .op (some 3) none (.mv (.tmp 10))])
  (.keep [2, 3] [] (.ret))))))
def rs_r23_Width : List CRes := [.tmp 2, .tmp 3]
def im_r23_Width : List Nat := [1]
theorem ok_r23_Width : FnOk Tryz.prog f_r23_Width im_r23_Width cc_r23_Width rs_r23_Width 11 := fnOk1 mixed (by kernel_rfl)
-- r31_insert while id=0: live [0:l, 3:s, 5:k] changed [5] res []
/-- corpora/corporaref31.insert [L_Source, Source] -> [L_Source] -/
def cc_r31_insert : CC :=
  .seq (.reg [
    .op (some 3) none (.box ty_Source true (.tmp 1)),
    .op (some 4) none (.mv (.const (.slice none 0 0)))])
  (.keep [0, 3] [] (.seq (.reg [
    .op (some 6) none (.mv (.tmp 0)),
    .op (some 7) none (.len (.tmp 6)),
    .op (some 5) none (.mv (.tmp 7))])
  (.keep [0, 3, 5] [] (seqM 2 (.block 0 (.loop 1 (.seq /- 3 -/ (.seq (.regd [
        .op (some 8) none (.mv (.tmp 5)),
        .op (some 9) none (.cmp .gtr (.tmp 8) (.const (.int .i64 0))),
        .op (some 10) none (.mv (.tmp 9)),
        .op (some 11) (some (10, true)) (.load true 2 (.tmp 3)),
        .op (some 12) (some (10, true)) (.mv (.tmp 0)),
        .op (some 13) (some (10, true)) (.mv (.tmp 5)),
        .op (some 14) (some (10, true)) (.arith .sub (.tmp 13) (.const (.int .i64 1))),
        .op (some 15) (some (10, true)) (.iaddr 2 (.tmp 12) (.tmp 14)),
        .op (some 16) (some (10, true)) (.load true 2 (.tmp 15))] [
        .op (some 17) (some (10, true)) (.call f_r31_Less [(.tmp 11), (.tmp 16)]),
        .op (some 18) none (.pick (.tmp 10) (.tmp 17) (.const (.bool false)))])
      (.keep [0, 3, 5, 18] [] (.ite (.tmp 18) (.skip)
        (.exit 0))))
      (.keep [0, 3, 5] [] (.block 1 (.reg [
          .op (some 19) none (.mv (.tmp 5)),
          .op (some 20) none (.arith .sub (.tmp 19) (.const (.int .i64 1))),
          .op (some 5) none (.mv (.tmp 20))]))))))
  (.keep [0, 3, 5] [] (seqM 5 (.seq (.regd [
    .op (some 21) none (.mv (.tmp 5)),
    .op (some 22) none (.cmp .gtr (.tmp 21) (.const (.int .i64 0))),
    .op (some 23) none (.mv (.tmp 22)),
    .op (some 24) (some (23, true)) (.mv (.tmp 0)),
    .op (some 25) (some (23, true)) (.mv (.tmp 5)),
    .op (some 26) (some (23, true)) (.arith .sub (.tmp 25) (.const (.int .i64 1))),
    .op (some 27) (some (23, true)) (.iaddr 2 (.tmp 24) (.tmp 26)),
    .op (some 28) (some (23, true)) (.load true 2 (.tmp 27)),
    .op (some 29) (some (23, true)) (.load true 2 (.tmp 3))] [
    .op (some 30) (some (23, true)) (.eql false true [.int, .int] (.tmp 28) (.tmp 29)),
    .op (some 31) none (.pick (.tmp 23) (.tmp 30) (.const (.bool false)))])
  (.keep [0, 3, 5, 31] [] (.ite (.tmp 31) (.seq (.reg [
      .op (some 32) none (.mv (.tmp 0)),
      .op (some 4) none (.mv (.tmp 32))])
    (.keep [4] [33, 37, 40, 44] (.ret)))
    (.skip))))
  (.keep [0, 3, 5] [] (.seq (.regd [
    .op (some 33) none (.nslice ty_Source 2),
    .op (some 34) none (.mv (.tmp 0)),
    .op (some 35) none (.mv (.tmp 5)),
    .op (some 36) none (.slice 2 (.tmp 34) none (some (.tmp 35))),
    .op (some 37) none (.append (some 33) ty_Source 2 16 (.tmp 33) (.tmp 36)),
    .op (some 38) none (.load true 2 (.tmp 3)),
    .op (some 39) none (.bslice ty_Source 2 [(.tmp 38)]),
    .op (some 40) none (.append (some 33) ty_Source 2 16 (.tmp 37) (.tmp 39)),
    .op (some 41) none (.mv (.tmp 0)),
    .op (some 42) none (.mv (.tmp 5)),
    .op (some 43) none (.slice 2 (.tmp 41) (some (.tmp 42)) none)] [
    .op (some 44) none (.append (some 33) ty_Source 2 16 (.tmp 40) (.tmp 43)),
    .op (some 4) none (.mv (.tmp 44))])
  (.keep [4] [33, 37, 40, 44] (.ret))))))))))
def rs_r31_insert : List CRes := [.tmp 4]
def im_r31_insert : List Nat := [3, 1044033, 1040033, 1037033]
theorem ok_r31_insert : FnOk Tryz.prog f_r31_insert im_r31_insert cc_r31_insert rs_r31_insert 45 := fnOk1 mixed (by kernel_rfl)
-- r31_Same range i=13 n=12 c=14 i2=25 id=0: live [0:a, 1:b] changed [] res []
/-- corpora/corporaref31.Same [L_Source, L_Source] -> [bool] -/
def cc_r31_Same : CC :=
  .seq (.reg [
    .op (some 4) none (.mv (.const (.bool false)))])
  (.keep [0, 1] [] (.seq /- 1 -/ (.seq (.reg [
    .op (some 6) none (.mv (.tmp 0)),
    .op (some 7) none (.len (.tmp 6)),
    .op (some 8) none (.mv (.tmp 1)),
    .op (some 9) none (.len (.tmp 8)),
    .op (some 10) none (.eql true false [.int] (.tmp 7) (.tmp 9))])
  (.keep [0, 1, 10] [] (.ite (.tmp 10) (.seq (.reg [
      .op (some 4) none (.mv (.const (.bool false)))])
    (.keep [4] [] (.ret)))
    (.skip))))
  (.keep [0, 1] [] (.seq /- 4 -/ (.seq (.reg [
    .op (some 11) none (.mv (.tmp 0)),
    .op (some 12) none (.len (.tmp 11)),
    .op (some 13) none (.mv (.const (.int .i64 0)))])
  (.keep [0, 1, 12, 13] [] (rangeCC 0 13 12 14 1 (.seq (.reg [
      .op (some 15) none (.mv (.tmp 13)),
      .op (some 5) none (.mv (.tmp 15))])
    (.keep [0, 1, 5, 12, 13] [] (.seq (.regd [
      .op (some 16) none (.mv (.tmp 0)),
      .op (some 17) none (.mv (.tmp 5)),
      .op (some 18) none (.iaddr 2 (.tmp 16) (.tmp 17)),
      .op (some 19) none (.load true 2 (.tmp 18)),
      .op (some 20) none (.mv (.tmp 1)),
      .op (some 21) none (.mv (.tmp 5)),
      .op (some 22) none (.iaddr 2 (.tmp 20) (.tmp 21)),
      .op (some 23) none (.load true 2 (.tmp 22))] [
      .op (some 24) none (.eql true true [.int, .int] (.tmp 19) (.tmp 23))])
    (.keep [0, 1, 12, 13, 24] [] (.ite (.tmp 24) (.seq (.reg [
        .op (some 4) none (.mv (.const (.bool false)))])
      (.keep [4] [] (.ret)))
      (.skip)))))) 25)))
  (.keep [] [] (.seq (.reg [
    .op (some 4) none (.mv (.const (.bool true)))])
  (.keep [4] [] (.ret))))))))
def rs_r31_Same : List CRes := [.tmp 4]
def im_r31_Same : List Nat := []
theorem ok_r31_Same : FnOk Tryz.prog f_r31_Same im_r31_Same cc_r31_Same rs_r31_Same 26 := fnOk1 mixed (by kernel_rfl)
/-- corpora/corporaref31.Less [Source, Source] -> [bool] -/
def cc_r31_Less : CC :=
  .seq (.reg [
    .op (some 2) none (.box ty_Source true (.tmp 0)),
    .op (some 3) none (.box ty_Source true (.tmp 1)),
    .op (some 4) none (.mv (.const (.bool false)))])
  (.keep [2, 3] [] (.seq (.reg [
    .op (some 5) none (.faddr 0 (.tmp 2)),
    .op (some 6) none (.load false 1 (.tmp 5)),
    .op (some 7) none (.faddr 0 (.tmp 3)),
    .op (some 8) none (.load false 1 (.tmp 7)),
    .op (some 9) none (.cmp .lss (.tmp 6) (.tmp 8)),
    .op (some 10) none (.mv (.tmp 9)),
    .op (some 11) (some (10, false)) (.faddr 0 (.tmp 2)),
    .op (some 12) (some (10, false)) (.load false 1 (.tmp 11)),
    .op (some 13) (some (10, false)) (.faddr 0 (.tmp 3)),
    .op (some 14) (some (10, false)) (.load false 1 (.tmp 13)),
    .op (some 15) (some (10, false)) (.eql false false [.int] (.tmp 12) (.tmp 14)),
    .op (some 16) (some (10, false)) (.mv (.tmp 15)),
    .op (some 17) (some (16, true)) (.faddr 1 (.tmp 2)),
    .op (some 18) (some (16, true)) (.load false 1 (.tmp 17)),
    .op (some 19) (some (16, true)) (.faddr 1 (.tmp 3)),
    .op (some 20) (some (16, true)) (.load false 1 (.tmp 19)),
    .op (some 21) (some (16, true)) (.cmp .lss (.tmp 18) (.tmp 20)),
    .op (some 22) (some (10, false)) (.pick (.tmp 16) (.tmp 21) (.const (.bool false))),
    .op (some 23) none (.pick (.tmp 10) (.const (.bool true)) (.tmp 22)),
    .op (some 4) none (.mv (.tmp 23))])
  (.keep [4] [] (.ret))))
def rs_r31_Less : List CRes := [.tmp 4]
def im_r31_Less : List Nat := [2, 3]
theorem ok_r31_Less : FnOk Tryz.prog f_r31_Less im_r31_Less cc_r31_Less rs_r31_Less 24 := fnOk1 mixed (by kernel_rfl)

end Go.Gv
