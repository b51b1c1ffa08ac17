/- A part of the framework and of the walks: Cc. -/
import Derived.Test.YtblcfloekekefaaGe12

namespace Go.Gv
open Go.Proofs
-- r27_Same range i=13 n=12 c=14 i2=25 id=0: live [0:a, 1:b] changed [] res []
/-- corpora/corporaref27.Same [L_Span, L_Span] -> [bool] -/
def cc_r27_Same : CC :=
  .seq (.reg [
    .op (some 4) none (.mv (.const (.bool false)))])
  (.keep [0, 1] [] (.seq /- 1 -/ (.seq (.reg [
    .op (some 6) none (.mv (.tmp 0)),
    .op (some 7) none (.len (.tmp 6)),
    .op (some 8) none (.mv (.tmp 1)),
    .op (some 9) none (.len (.tmp 8)),
    .op (some 10) none (.eql true false [.int] (.tmp 7) (.tmp 9))])
  (.keep [0, 1, 10] [] (.ite (.tmp 10) (.seq (.reg [
      .op (some 4) none (.mv (.const (.bool false)))])
    (.keep [4] [] (.ret)))
    (.skip))))
  (.keep [0, 1] [] (.seq /- 4 -/ (.seq (.reg [
    .op (some 11) none (.mv (.tmp 0)),
    .op (some 12) none (.len (.tmp 11)),
    .op (some 13) none (.mv (.const (.int .i64 0)))])
  (.keep [0, 1, 12, 13] [] (rangeCC 0 13 12 14 1 (.seq (.reg [
      .op (some 15) none (.mv (.tmp 13)),
      .op (some 5) none (.mv (.tmp 15))])
    (.keep [0, 1, 5, 12, 13] [] (.seq (.regd [
      .op (some 16) none (.mv (.tmp 0)),
      .op (some 17) none (.mv (.tmp 5)),
      .op (some 18) none (.iaddr 2 (.tmp 16) (.tmp 17)),
      .op (some 19) none (.load true 2 (.tmp 18)),
      .op (some 20) none (.mv (.tmp 1)),
      .op (some 21) none (.mv (.tmp 5)),
      .op (some 22) none (.iaddr 2 (.tmp 20) (.tmp 21)),
      .op (some 23) none (.load true 2 (.tmp 22))] [
      .op (some 24) none (.eql true true [.int, .int] (.tmp 19) (.tmp 23))])
    (.keep [0, 1, 12, 13, 24] [] (.ite (.tmp 24) (.seq (.reg [
        .op (some 4) none (.mv (.const (.bool false)))])
      (.keep [4] [] (.ret)))
      (.skip)))))) 25)))
  (.keep [] [] (.seq (.reg [
    .op (some 4) none (.mv (.const (.bool true)))])
  (.keep [4] [] (.ret))))))))
def rs_r27_Same : List CRes := [.tmp 4]
def im_r27_Same : List Nat := []
theorem ok_r27_Same : FnOk Try.prog f_r27_Same im_r27_Same cc_r27_Same rs_r27_Same 26 := fnOk1 mixed (by kernel_rfl)
/-- corpora/corporaref27.Contains [Span, Span] -> [bool] -/
def cc_r27_Contains : CC :=
  .seq (.reg [
    .op (some 2) none (.box ty_Span true (.tmp 0)),
    .op (some 3) none (.box ty_Span true (.tmp 1)),
    .op (some 4) none (.mv (.const (.bool false)))])
  (.keep [2, 3] [] (.seq (.reg [
    .op (some 5) none (.faddr 0 (.tmp 2)),
    .op (some 6) none (.load false 1 (.tmp 5)),
    .op (some 7) none (.faddr 0 (.tmp 3)),
    .op (some 8) none (.load false 1 (.tmp 7)),
    .op (some 9) none (.cmp .leq (.tmp 6) (.tmp 8)),
    .op (some 10) none (.mv (.tmp 9)),
    .op (some 11) (some (10, true)) (.faddr 1 (.tmp 3)),
    .op (some 12) (some (10, true)) (.load false 1 (.tmp 11)),
    .op (some 13) (some (10, true)) (.faddr 1 (.tmp 2)),
    .op (some 14) (some (10, true)) (.load false 1 (.tmp 13)),
    .op (some 15) (some (10, true)) (.cmp .leq (.tmp 12) (.tmp 14)),
    .op (some 16) none (.pick (.tmp 10) (.tmp 15) (.const (.bool false))),
    .op (some 4) none (.mv (.tmp 16))])
  (.keep [4] [] (.ret))))
def rs_r27_Contains : List CRes := [.tmp 4]
def im_r27_Contains : List Nat := [2, 3]
theorem ok_r27_Contains : FnOk Try.prog f_r27_Contains im_r27_Contains cc_r27_Contains rs_r27_Contains 17 := fnOk1 mixed (by kernel_rfl)
-- r27_Insert while id=0: live [0:l, 3:s, 5:k] changed [5] res []
/-- corpora/corporaref27.Insert [L_Span, Span] -> [L_Span] -/
def cc_r27_Insert : CC :=
  .seq (.reg [
    .op (some 3) none (.box ty_Span true (.tmp 1)),
    .op (some 4) none (.mv (.const (.slice none 0 0)))])
  (.keep [0, 3] [] (.seq (.reg [
    .op (some 6) none (.mv (.tmp 0)),
    .op (some 7) none (.len (.tmp 6)),
    .op (some 5) none (.mv (.tmp 7))])
  (.keep [0, 3, 5] [] (seqM 2 (.block 0 (.loop 1 (.seq /- 3 -/ (.seq (.regd [
        .op (some 8) none (.mv (.tmp 5)),
        .op (some 9) none (.cmp .gtr (.tmp 8) (.const (.int .i64 0))),
        .op (some 10) none (.mv (.tmp 9)),
        .op (some 11) (some (10, true)) (.faddr 0 (.tmp 3)),
        .op (some 12) (some (10, true)) (.load false 1 (.tmp 11)),
        .op (some 13) (some (10, true)) (.mv (.tmp 0)),
        .op (some 14) (some (10, true)) (.mv (.tmp 5)),
        .op (some 15) (some (10, true)) (.arith .sub (.tmp 14) (.const (.int .i64 1))),
        .op (some 16) (some (10, true)) (.iaddr 2 (.tmp 13) (.tmp 15)),
        .op (some 17) (some (10, true)) (.faddr 0 (.tmp 16)),
        .op (some 18) (some (10, true)) (.load false 1 (.tmp 17)),
        .op (some 19) (some (10, true)) (.cmp .lss (.tmp 12) (.tmp 18)),
        .op (some 20) (some (10, true)) (.mv (.tmp 19)),
        .op (some 21) (some (20, false)) (.faddr 0 (.tmp 3)),
        .op (some 22) (some (20, false)) (.load false 1 (.tmp 21)),
        .op (some 23) (some (20, false)) (.mv (.tmp 0)),
        .op (some 24) (some (20, false)) (.mv (.tmp 5)),
        .op (some 25) (some (20, false)) (.arith .sub (.tmp 24) (.const (.int .i64 1))),
        .op (some 26) (some (20, false)) (.iaddr 2 (.tmp 23) (.tmp 25)),
        .op (some 27) (some (20, false)) (.faddr 0 (.tmp 26)),
        .op (some 28) (some (20, false)) (.load false 1 (.tmp 27)),
        .op (some 29) (some (20, false)) (.eql false false [.int] (.tmp 22) (.tmp 28)),
        .op (some 30) (some (20, false)) (.mv (.tmp 29)),
        .op (some 31) (some (30, true)) (.faddr 1 (.tmp 3)),
        .op (some 32) (some (30, true)) (.load false 1 (.tmp 31)),
        .op (some 33) (some (30, true)) (.mv (.tmp 0)),
        .op (some 34) (some (30, true)) (.mv (.tmp 5)),
        .op (some 35) (some (30, true)) (.arith .sub (.tmp 34) (.const (.int .i64 1))),
        .op (some 36) (some (30, true)) (.iaddr 2 (.tmp 33) (.tmp 35)),
        .op (some 37) (some (30, true)) (.faddr 1 (.tmp 36)),
        .op (some 38) (some (30, true)) (.load false 1 (.tmp 37))] [
        .op (some 39) (some (30, true)) (.cmp .lss (.tmp 32) (.tmp 38)),
        .op (some 40) (some (20, false)) (.pick (.tmp 30) (.tmp 39) (.const (.bool false))),
        .op (some 41) (some (10, true)) (.pick (.tmp 20) (.const (.bool true)) (.tmp 40)),
        .op (some 42) none (.pick (.tmp 10) (.tmp 41) (.const (.bool false)))])
      (.keep [0, 3, 5, 42] [] (.ite (.tmp 42) (.skip)
        (.exit 0))))
      (.keep [0, 3, 5] [] (.block 1 (.reg [
          .op (some 43) none (.mv (.tmp 5)),
          .op (some 44) none (.arith .sub (.tmp 43) (.const (.int .i64 1))),
          .op (some 5) none (.mv (.tmp 44))]))))))
  (.keep [0, 3, 5] [] (seqM 5 (.seq (.regd [
    .op (some 45) none (.mv (.tmp 5)),
    .op (some 46) none (.cmp .gtr (.tmp 45) (.const (.int .i64 0))),
    .op (some 47) none (.mv (.tmp 46)),
    .op (some 48) (some (47, true)) (.mv (.tmp 0)),
    .op (some 49) (some (47, true)) (.mv (.tmp 5)),
    .op (some 50) (some (47, true)) (.arith .sub (.tmp 49) (.const (.int .i64 1))),
    .op (some 51) (some (47, true)) (.iaddr 2 (.tmp 48) (.tmp 50)),
    .op (some 52) (some (47, true)) (.load true 2 (.tmp 51)),
    .op (some 53) (some (47, true)) (.load true 2 (.tmp 3))] [
    .op (some 54) (some (47, true)) (.eql false true [.int, .int] (.tmp 52) (.tmp 53)),
    .op (some 55) none (.pick (.tmp 47) (.tmp 54) (.const (.bool false)))])
  (.keep [0, 3, 5, 55] [] (.ite (.tmp 55) (.seq (.reg [
      .op (some 56) none (.mv (.tmp 0)),
      .op (some 4) none (.mv (.tmp 56))])
    (.keep [4] [57, 61, 64, 68] (.ret)))
    (.skip))))
  (.keep [0, 3, 5] [] (.seq (.regd [
    .op (some 57) none (.nslice ty_Span 2),
    .op (some 58) none (.mv (.tmp 0)),
    .op (some 59) none (.mv (.tmp 5)),
    .op (some 60) none (.slice 2 (.tmp 58) none (some (.tmp 59))),
    .op (some 61) none (.append (some 57) ty_Span 2 16 (.tmp 57) (.tmp 60)),
    .op (some 62) none (.load true 2 (.tmp 3)),
    .op (some 63) none (.bslice ty_Span 2 [(.tmp 62)]),
    .op (some 64) none (.append (some 57) ty_Span 2 16 (.tmp 61) (.tmp 63)),
    .op (some 65) none (.mv (.tmp 0)),
    .op (some 66) none (.mv (.tmp 5)),
    .op (some 67) none (.slice 2 (.tmp 65) (some (.tmp 66)) none)] [
    .op (some 68) none (.append (some 57) ty_Span 2 16 (.tmp 64) (.tmp 67)),
    .op (some 4) none (.mv (.tmp 68))])
  (.keep [4] [57, 61, 64, 68] (.ret))))))))))
def rs_r27_Insert : List CRes := [.tmp 4]
def im_r27_Insert : List Nat := [3, 1068057, 1064057, 1061057]
theorem ok_r27_Insert : FnOk Try.prog f_r27_Insert im_r27_Insert cc_r27_Insert rs_r27_Insert 69 := fnOk1 mixed (by kernel_rfl)
/-- corpora/subcorpus.Unite [L_Span, L_Span] -> [L_Span] -/
def cc_subcorpus_Unite : CC :=
  .seq (.reg [
    .op (some 4) none (.mv (.const (.slice none 0 0)))])
  (.keep [0, 1] [] (.seq (.reg [
    .op (some 5) none (.mv (.tmp 0)),
    .op (some 6) none (.mv (.tmp 1)),
    .op (some 7) none (.bslice ty_L_Span 1 [(.tmp 5), (.tmp 6)]),
    .op (some 8) none (.call f_subcorpus_sorted [(.tmp 7)]),
    .op (some 4) none (.mv (.tmp 8))])
  (.keep [4] [8] (.ret))))
def rs_subcorpus_Unite : List CRes := [.tmp 4]
def im_subcorpus_Unite : List Nat := []
theorem ok_subcorpus_Unite : FnOk Try.prog f_subcorpus_Unite im_subcorpus_Unite cc_subcorpus_Unite rs_subcorpus_Unite 9 := fnOk1 mixed (by kernel_rfl)
/-- corpora/subcorpus.compare [Span, Span] -> [int] -/
def cc_subcorpus_compare : CC :=
  .seq (.reg [
    .op (some 2) none (.box ty_Span true (.tmp 0)),
    .op (some 3) none (.box ty_Span true (.tmp 1)),
    .op (some 4) none (.mv (.const (.int .i64 0)))])
  (.keep [2, 3] [] (.seq (.regd [
    .op (some 5) none (.faddr 0 (.tmp 2)),
    .op (some 6) none (.load false 1 (.tmp 5)),
    .op (some 7) none (.faddr 0 (.tmp 3)),
    .op (some 8) none (.load false 1 (.tmp 7)),
    .op (some 9) none (.call f_cmp_Compare_int [(.tmp 6), (.tmp 8)]),
    .op (some 10) none (.faddr 1 (.tmp 2)),
    .op (some 11) none (.load false 1 (.tmp 10)),
    .op (some 12) none (.faddr 1 (.tmp 3)),
    .op (some 13) none (.load false 1 (.tmp 12))] [
    .op (some 14) none (.call f_cmp_Compare_int [(.tmp 11), (.tmp 13)]),
    .op (some 15) none (.bslice ty_int 1 [(.tmp 9), (.tmp 14)]),
    .op (some 16) none (.call f_cmp_Or_int [(.tmp 15)]),
    .op (some 4) none (.mv (.tmp 16))])
  (.keep [4] [] (.ret))))
def rs_subcorpus_compare : List CRes := [.tmp 4]
def im_subcorpus_compare : List Nat := [2, 3]
theorem ok_subcorpus_compare : FnOk Try.prog f_subcorpus_compare im_subcorpus_compare cc_subcorpus_compare rs_subcorpus_compare 17 := fnOk1 mixed (by kernel_rfl)
-- cmp_Or_int range i=8 n=7 c=9 i2=16 id=0: live [3:zero, 6:] changed [] res []
/-- cmp.Or[int] [L_int] -> [int] -/
def cc_cmp_Or_int : CC :=
  .seq (.reg [
    .op (some 2) none (.mv (.const (.int .i64 0)))])
  (.keep [0] [] (.seq (.reg [
    .op (some 3) none (.mv (.const (.int .i64 0)))])
  (.keep [0, 3] [] (.seq /- 2 -/ (.seq (.reg [
    .op (some 6) none (.mv (.tmp 0)),
    .op (some 7) none (.len (.tmp 6)),
    .op (some 8) none (.mv (.const (.int .i64 0)))])
  (.keep [3, 6, 7, 8] [] (rangeCC 0 8 7 9 1 (.seq (.reg [
      .op (some 10) none (.iaddr 1 (.tmp 6) (.tmp 8)),
      .op (some 11) none (.load false 1 (.tmp 10)),
      .op (some 5) none (.mv (.tmp 11))])
    (.keep [3, 5, 6, 7, 8] [] (.seq (.reg [
      .op (some 12) none (.mv (.tmp 5)),
      .op (some 13) none (.mv (.tmp 3)),
      .op (some 14) none (.eql true false [.int] (.tmp 12) (.tmp 13))])
    (.keep [3, 5, 6, 7, 8, 14] [] (.ite (.tmp 14) (.seq (.reg [
        .op (some 15) none (.mv (.tmp 5)),
        .op (some 2) none (.mv (.tmp 15))])
      (.keep [2] [] (.ret)))
      (.skip)))))) 16)))
  (.keep [3] [] (.seq (.reg [
    .op (some 17) none (.mv (.tmp 3)),
    .op (some 2) none (.mv (.tmp 17))])
  (.keep [2] [] (.ret))))))))
def rs_cmp_Or_int : List CRes := [.tmp 2]
def im_cmp_Or_int : List Nat := []
theorem ok_cmp_Or_int : FnOk Try.prog f_cmp_Or_int im_cmp_Or_int cc_cmp_Or_int rs_cmp_Or_int 18 := fnOk1 mixed (by kernel_rfl)
/-- cmp.Compare[int] [int, int] -> [int] -/
def cc_cmp_Compare_int : CC :=
  .seq (.reg [
    .op (some 4) none (.mv (.const (.int .i64 0)))])
  (.keep [0, 1] [] (.seq (.reg [
    .op (some 7) none (.mv (.tmp 0)),
    .op (some 8) none (.call f_cmp_isNaN_int [(.tmp 7)]),
    .op (some 5) none (.mv (.tmp 8))])
  (.keep [0, 1, 5] [] (.seq (.reg [
    .op (some 9) none (.mv (.tmp 1)),
    .op (some 10) none (.call f_cmp_isNaN_int [(.tmp 9)]),
    .op (some 6) none (.mv (.tmp 10))])
  (.keep [0, 1, 5, 6] [] (.seq /- 3 -/ (.seq (.reg [
    .op (some 11) none (.mv (.tmp 5))])
  (.keep [0, 1, 6, 11] [] (.ite (.tmp 11) (.seq /- 5 -/ (.seq (.reg [
      .op (some 12) none (.mv (.tmp 6))])
    (.keep [12] [] (.ite (.tmp 12) (.seq (.reg [
        .op (some 4) none (.mv (.const (.int .i64 0)))])
      (.keep [4] [] (.ret)))
      (.skip))))
    (.keep [] [] (.seq (.reg [
      .op (some 4) none (.mv (.const (.int .i64 (-1))))])
    (.keep [4] [] (.ret)))))
    (.skip))))
  (.keep [0, 1, 6] [] (.seq /- 9 -/ (.seq (.reg [
    .op (some 13) none (.mv (.tmp 6))])
  (.keep [0, 1, 13] [] (.ite (.tmp 13) (.seq (.reg [
      .op (some 4) none (.mv (.const (.int .i64 1)))])
    (.keep [4] [] (.ret)))
    (.skip))))
  (.keep [0, 1] [] (.seq /- 12 -/ (.seq (.reg [
    .op (some 14) none (.mv (.tmp 0)),
    .op (some 15) none (.mv (.tmp 1)),
    .op (some 16) none (.cmp .lss (.tmp 14) (.tmp 15))])
  (.keep [0, 1, 16] [] (.ite (.tmp 16) (.seq (.reg [
      .op (some 4) none (.mv (.const (.int .i64 (-1))))])
    (.keep [4] [] (.ret)))
    (.skip))))
  (.keep [0, 1] [] (.seq /- 15 -/ (.seq (.reg [
    .op (some 17) none (.mv (.tmp 0)),
    .op (some 18) none (.mv (.tmp 1)),
    .op (some 19) none (.cmp .gtr (.tmp 17) (.tmp 18))])
  (.keep [19] [] (.ite (.tmp 19) (.seq (.reg [
      .op (some 4) none (.mv (.const (.int .i64 1)))])
    (.keep [4] [] (.ret)))
    (.skip))))
  (.keep [] [] (.seq (.reg [
    .op (some 4) none (.mv (.const (.int .i64 0)))])
  (.keep [4] [] (.ret))))))))))))))))
def rs_cmp_Compare_int : List CRes := [.tmp 4]
def im_cmp_Compare_int : List Nat := []
theorem ok_cmp_Compare_int : FnOk Try.prog f_cmp_Compare_int im_cmp_Compare_int cc_cmp_Compare_int rs_cmp_Compare_int 20 := fnOk1 mixed (by kernel_rfl)
/-- cmp.isNaN[int] [int] -> [bool] -/
def cc_cmp_isNaN_int : CC :=
  .seq (.reg [
    .op (some 2) none (.mv (.const (.bool false)))])
  (.keep [0] [] (.seq (.reg [
    .op (some 3) none (.mv (.tmp 0)),
    .op (some 4) none (.mv (.tmp 0)),
    .op (some 5) none (.eql true false [.int] (.tmp 3) (.tmp 4)),
    .op (some 2) none (.mv (.tmp 5))])
  (.keep [2] [] (.ret))))
def rs_cmp_isNaN_int : List CRes := [.tmp 2]
def im_cmp_isNaN_int : List Nat := []
theorem ok_cmp_isNaN_int : FnOk Try.prog f_cmp_isNaN_int im_cmp_isNaN_int cc_cmp_isNaN_int rs_cmp_isNaN_int 6 := fnOk1 mixed (by kernel_rfl)
/-- corpora/corporamade.Mod [int, int] -> [int] -/
def cc_m_Mod : CC :=
  .seq (.reg [
    .op (some 4) none (.mv (.const (.int .i64 0)))])
  (.keep [0, 1] [] (.seq /- 1 -/ (.seq (.reg [
    .op (some 5) none (.mv (.tmp 1)),
    .op (some 6) none (.cmp .lss (.tmp 5) (.const (.int .i64 1)))])
  (.keep [0, 1, 6] [] (.ite (.tmp 6) (.seq (.reg [
      .op (some 4) none (.mv (.const (.int .i64 0)))])
    (.keep [4] [] (.ret)))
    (.skip))))
  (.keep [0, 1] [] (.seq (.reg [
    .op (some 7) none (.mv (.tmp 0)),
    .op (some 8) none (.mv (.tmp 1)),
    .op (some 9) none (.arith .rem (.tmp 7) (.tmp 8)),
    .op (some 0) none (.mv (.tmp 9))])
  (.keep [0, 1] [] (.seq /- 5 -/ (.seq (.reg [
    .op (some 10) none (.mv (.tmp 0)),
    .op (some 11) none (.cmp .lss (.tmp 10) (.const (.int .i64 0)))])
  (.keep [0, 1, 11] [] (.ite (.tmp 11) (.reg [
      .op (some 12) none (.mv (.tmp 0)),
      .op (some 13) none (.mv (.tmp 1)),
      .op (some 14) none (.arith .add (.tmp 12) (.tmp 13)),
      .op (some 0) none (.mv (.tmp 14))])
    (.skip))))
  (.keep [0] [] (.seq (.reg [
    .op (some 15) none (.mv (.tmp 0)),
    .op (some 4) none (.mv (.tmp 15))])
  (.keep [4] [] (.ret))))))))))
def rs_m_Mod : List CRes := [.tmp 4]
def im_m_Mod : List Nat := []
theorem ok_m_Mod : FnOk Try.prog f_m_Mod im_m_Mod cc_m_Mod rs_m_Mod 16 := fnOk1 mixed (by kernel_rfl)
/-- corpora/subcorpus.Subtract [L_Span, L_Span] -> [L_Span] -/
def cc_subcorpus_Subtract : CC :=
  .seq (.reg [
    .op (some 3) none (.box ty_L_Span true (.tmp 1)),
    .op (some 4) none (.mv (.const (.slice none 0 0)))])
  (.keep [0, 3] [] (.seq (.reg [
    .op (some 5) none (.mv (.tmp 0)),
    .op (some 6) none (.clo f_subcorpus_Subtract_1 [(.tmp 3)]),
    .op (some 7) none (.call f_subcorpus_keep [(.tmp 5), (.tmp 6)]),
    .op (some 4) none (.mv (.tmp 7))])
  (.keep [4] [] (.ret))))
def rs_subcorpus_Subtract : List CRes := [.tmp 4]
def im_subcorpus_Subtract : List Nat := [3]
theorem ok_subcorpus_Subtract : FnOk Try.prog f_subcorpus_Subtract im_subcorpus_Subtract cc_subcorpus_Subtract rs_subcorpus_Subtract 8 := fnOk1 mixed (by kernel_rfl)
/-- corpora/subcorpus.Subtract$1 [Span] -> [bool] -/
def cc_subcorpus_Subtract_1 : CC :=
  .seq (.reg [
    .op (some 2) none (.box ty_Span true (.tmp 0)),
    .op (some 3) none (.mv (.const (.bool false)))])
  (.keep [1, 2] [] (.seq (.reg [
    .op (some 4) none (.load false 1 (.tmp 1)),
    .op (some 5) none (.load true 2 (.tmp 2)),
    .op (some 6) none (.call f_slices_Contains_Span [(.tmp 4), (.tmp 5)]),
    .op (some 7) none (.not (.tmp 6)),
    .op (some 3) none (.mv (.tmp 7))])
  (.keep [3] [] (.ret))))
def rs_subcorpus_Subtract_1 : List CRes := [.tmp 3]
def im_subcorpus_Subtract_1 : List Nat := [2]
theorem ok_subcorpus_Subtract_1 : FnOk Try.prog f_subcorpus_Subtract_1 im_subcorpus_Subtract_1 cc_subcorpus_Subtract_1 rs_subcorpus_Subtract_1 8 := fnOk1 mixed (by kernel_rfl)
/-- corpora/subcorpus.Intersect [L_Span, L_Span] -> [L_Span] -/
def cc_subcorpus_Intersect : CC :=
  .seq (.reg [
    .op (some 3) none (.box ty_L_Span true (.tmp 1)),
    .op (some 4) none (.mv (.const (.slice none 0 0)))])
  (.keep [0, 3] [] (.seq (.reg [
    .op (some 5) none (.mv (.tmp 0)),
    .op (some 6) none (.clo f_subcorpus_Intersect_1 [(.tmp 3)]),
    .op (some 7) none (.call f_subcorpus_keep [(.tmp 5), (.tmp 6)]),
    .op (some 4) none (.mv (.tmp 7))])
  (.keep [4] [] (.ret))))
def rs_subcorpus_Intersect : List CRes := [.tmp 4]
def im_subcorpus_Intersect : List Nat := [3]
theorem ok_subcorpus_Intersect : FnOk Try.prog f_subcorpus_Intersect im_subcorpus_Intersect cc_subcorpus_Intersect rs_subcorpus_Intersect 8 := fnOk1 mixed (by kernel_rfl)
/-- corpora/subcorpus.Intersect$1 [Span] -> [bool] -/
def cc_subcorpus_Intersect_1 : CC :=
  .seq (.reg [
    .op (some 2) none (.box ty_Span true (.tmp 0)),
    .op (some 3) none (.mv (.const (.bool false)))])
  (.keep [1, 2] [] (.seq (.reg [
    .op (some 4) none (.load false 1 (.tmp 1)),
    .op (some 5) none (.load true 2 (.tmp 2)),
    .op (some 6) none (.call f_slices_Contains_Span [(.tmp 4), (.tmp 5)]),
    .op (some 3) none (.mv (.tmp 6))])
  (.keep [3] [] (.ret))))
def rs_subcorpus_Intersect_1 : List CRes := [.tmp 3]
def im_subcorpus_Intersect_1 : List Nat := [2]
theorem ok_subcorpus_Intersect_1 : FnOk Try.prog f_subcorpus_Intersect_1 im_subcorpus_Intersect_1 cc_subcorpus_Intersect_1 rs_subcorpus_Intersect_1 7 := fnOk1 mixed (by kernel_rfl)
/-- corpora/subcorpus.Inside [L_Span, L_Span] -> [L_Span] -/
def cc_subcorpus_Inside : CC :=
  .seq (.reg [
    .op (some 3) none (.box ty_L_Span true (.tmp 1)),
    .op (some 4) none (.mv (.const (.slice none 0 0)))])
  (.keep [0, 3] [] (.seq (.reg [
    .op (some 5) none (.mv (.tmp 0)),
    .op (some 6) none (.clo f_subcorpus_Inside_1 [(.tmp 3)]),
    .op (some 7) none (.call f_subcorpus_keep [(.tmp 5), (.tmp 6)]),
    .op (some 4) none (.mv (.tmp 7))])
  (.keep [4] [] (.ret))))
def rs_subcorpus_Inside : List CRes := [.tmp 4]
def im_subcorpus_Inside : List Nat := [3]
theorem ok_subcorpus_Inside : FnOk Try.prog f_subcorpus_Inside im_subcorpus_Inside cc_subcorpus_Inside rs_subcorpus_Inside 8 := fnOk1 mixed (by kernel_rfl)
/-- corpora/subcorpus.Inside$1 [Span] -> [bool] -/
def cc_subcorpus_Inside_1 : CC :=
  .seq (.reg [
    .op (some 2) none (.box ty_Span true (.tmp 0)),
    .op (some 3) none (.mv (.const (.bool false)))])
  (.keep [1, 2] [] (.seq (.reg [
    .op (some 4) none (.load true 2 (.tmp 2)),
    .op (some 5) none (.load false 1 (.tmp 1)),
    .op (some 6) none (.call f_subcorpus_lies [(.tmp 4), (.tmp 5)]),
    .op (some 3) none (.mv (.tmp 6))])
  (.keep [3] [] (.ret))))
def rs_subcorpus_Inside_1 : List CRes := [.tmp 3]
def im_subcorpus_Inside_1 : List Nat := [2]
theorem ok_subcorpus_Inside_1 : FnOk Try.prog f_subcorpus_Inside_1 im_subcorpus_Inside_1 cc_subcorpus_Inside_1 rs_subcorpus_Inside_1 7 := fnOk1 mixed (by kernel_rfl)
/-- corpora/subcorpus.keep [L_Span, func_Span_bool] -> [L_Span] -/
def cc_subcorpus_keep : CC :=
  .seq (.reg [
    .op (some 3) none (.box ty_func_Span_bool true (.tmp 1)),
    .op (some 4) none (.mv (.const (.slice none 0 0)))])
  (.keep [0, 3] [] (.seq (.reg [
    .op (some 5) none (.mv (.tmp 0)),
    .op (some 6) none (.bslice ty_L_Span 1 [(.tmp 5)]),
    .op (some 7) none (.call f_subcorpus_sorted [(.tmp 6)]),
    .op (some 8) none (.clo f_subcorpus_keep_1 [(.tmp 3)]),
    .op (some 9) none (.call f_slices_DeleteFunc_Span [(.tmp 7), (.tmp 8)]),
    .op (some 4) none (.mv (.tmp 9))])
  (.keep [4] [7] (.ret))))
def rs_subcorpus_keep : List CRes := [.tmp 4]
def im_subcorpus_keep : List Nat := [3]
theorem ok_subcorpus_keep : FnOk Try.prog f_subcorpus_keep im_subcorpus_keep cc_subcorpus_keep rs_subcorpus_keep 10 := fnOk1 mixed (by kernel_rfl)
/-- corpora/subcorpus.keep$1 [Span] -> [bool] -/
def cc_subcorpus_keep_1 : CC :=
  .seq (.reg [
    .op (some 2) none (.box ty_Span true (.tmp 0)),
    .op (some 3) none (.mv (.const (.bool false)))])
  (.keep [1, 2] [] (.seq (.reg [
    .op (some 4) none (.load false 1 (.tmp 1)),
    .op (some 5) none (.load true 2 (.tmp 2)),
    .op (some 6) none (.callv (.tmp 4) [(.tmp 5)]),
    .op (some 7) none (.not (.tmp 6)),
    .op (some 3) none (.mv (.tmp 7))])
  (.keep [3] [] (.ret))))
def rs_subcorpus_keep_1 : List CRes := [.tmp 3]
def im_subcorpus_keep_1 : List Nat := [2]
theorem ok_subcorpus_keep_1 : FnOk Try.prog f_subcorpus_keep_1 im_subcorpus_keep_1 cc_subcorpus_keep_1 rs_subcorpus_keep_1 8 := fnOk1 mixed (by kernel_rfl)
/-- corpora/subcorpus.sorted [L_L_Span] -> [L_Span] -/
def cc_subcorpus_sorted : CC :=
  .seq (.reg [
    .op (some 2) none (.mv (.const (.slice none 0 0)))])
  (.keep [0] [] (.seq (.reg [
    .op (some 4) none (.mv (.tmp 0)),
    .op (some 5) none (.call f_slices_Concat_Span [(.tmp 4)]),
    .op (some 3) none (.mv (.tmp 5))])
  (.keep [3] [5] (.seq (.reg [
    .op (some 6) none (.mv (.tmp 3)),
    .op (some 7) none (.call f_slices_SortFunc_Span [(.tmp 6), (.func f_subcorpus_compare)])])
  (.keep [3] [5] (.seq (.reg [
    .op (some 8) none (.mv (.tmp 3)),
    .op (some 9) none (.call f_slices_Compact_Span [(.tmp 8)]),
    .op (some 2) none (.mv (.tmp 9))])
  (.keep [2] [5] (.ret))))))))
def rs_subcorpus_sorted : List CRes := [.tmp 2]
def im_subcorpus_sorted : List Nat := []
theorem ok_subcorpus_sorted : FnOk Try.prog f_subcorpus_sorted im_subcorpus_sorted cc_subcorpus_sorted rs_subcorpus_sorted 10 := fnOk1 mixed (by kernel_rfl)
/-- corpora/subcorpus.lies [Span, L_Span] -> [bool] -/
def cc_subcorpus_lies : CC :=
  .seq (.reg [
    .op (some 2) none (.box ty_Span true (.tmp 0)),
    .op (some 4) none (.mv (.const (.bool false)))])
  (.keep [1, 2] [] (.seq (.reg [
    .op (some 5) none (.mv (.tmp 1)),
    .op (some 6) none (.clo f_subcorpus_lies_1 [(.tmp 2)]),
    .op (some 7) none (.call f_slices_ContainsFunc_Span [(.tmp 5), (.tmp 6)]),
    .op (some 4) none (.mv (.tmp 7))])
  (.keep [4] [] (.ret))))
def rs_subcorpus_lies : List CRes := [.tmp 4]
def im_subcorpus_lies : List Nat := [2]
theorem ok_subcorpus_lies : FnOk Try.prog f_subcorpus_lies im_subcorpus_lies cc_subcorpus_lies rs_subcorpus_lies 8 := fnOk1 mixed (by kernel_rfl)
/-- corpora/subcorpus.lies$1 [Span] -> [bool] -/
def cc_subcorpus_lies_1 : CC :=
  .seq (.reg [
    .op (some 2) none (.box ty_Span true (.tmp 0)),
    .op (some 3) none (.mv (.const (.bool false)))])
  (.keep [1, 2] [] (.seq (.reg [
    .op (some 4) none (.faddr 0 (.tmp 2)),
    .op (some 5) none (.load false 1 (.tmp 4)),
    .op (some 6) none (.faddr 0 (.tmp 1)),
    .op (some 7) none (.load false 1 (.tmp 6)),
    .op (some 8) none (.cmp .leq (.tmp 5) (.tmp 7)),
    .op (some 9) none (.mv (.tmp 8)),
    .op (some 10) (some (9, true)) (.faddr 1 (.tmp 1)),
    .op (some 11) (some (9, true)) (.load false 1 (.tmp 10)),
    .op (some 12) (some (9, true)) (.faddr 1 (.tmp 2)),
    .op (some 13) (some (9, true)) (.load false 1 (.tmp 12)),
    .op (some 14) (some (9, true)) (.cmp .leq (.tmp 11) (.tmp 13)),
    .op (some 15) none (.pick (.tmp 9) (.tmp 14) (.const (.bool false))),
    .op (some 3) none (.mv (.tmp 15))])
  (.keep [3] [] (.ret))))
def rs_subcorpus_lies_1 : List CRes := [.tmp 3]
def im_subcorpus_lies_1 : List Nat := [2]
theorem ok_subcorpus_lies_1 : FnOk Try.prog f_subcorpus_lies_1 im_subcorpus_lies_1 cc_subcorpus_lies_1 rs_subcorpus_lies_1 16 := fnOk1 mixed (by kernel_rfl)
/-- slices.Contains[[]corpora/api.Span,corpora/api.Span] [L_Span, Span] -> [bool] -/
def cc_slices_Contains_Span : CC :=
  .seq (.reg [
    .op (some 3) none (.box ty_Span true (.tmp 1)),
    .op (some 4) none (.mv (.const (.bool false)))])
  (.keep [0, 3] [] (.seq (.reg [
    .op (some 5) none (.mv (.tmp 0)),
    .op (some 6) none (.load true 2 (.tmp 3)),
    .op (some 7) none (.call f_slices_Index_Span [(.tmp 5), (.tmp 6)]),
    .op (some 8) none (.cmp .geq (.tmp 7) (.const (.int .i64 0))),
    .op (some 4) none (.mv (.tmp 8))])
  (.keep [4] [] (.ret))))
def rs_slices_Contains_Span : List CRes := [.tmp 4]
def im_slices_Contains_Span : List Nat := [3]
theorem ok_slices_Contains_Span : FnOk Try.prog f_slices_Contains_Span im_slices_Contains_Span cc_slices_Contains_Span rs_slices_Contains_Span 9 := fnOk1 mixed (by kernel_rfl)
-- slices_Index_Span range i=8 n=7 c=9 i2=18 id=0: live [0:s, 3:v] changed [] res []
/-- slices.Index[[]corpora/api.Span,corpora/api.Span] [L_Span, Span] -> [int] -/
def cc_slices_Index_Span : CC :=
  .seq (.reg [
    .op (some 3) none (.box ty_Span true (.tmp 1)),
    .op (some 4) none (.mv (.const (.int .i64 0)))])
  (.keep [0, 3] [] (.seq /- 1 -/ (.seq (.reg [
    .op (some 6) none (.mv (.tmp 0)),
    .op (some 7) none (.len (.tmp 6)),
    .op (some 8) none (.mv (.const (.int .i64 0)))])
  (.keep [0, 3, 7, 8] [] (rangeCC 0 8 7 9 1 (.seq (.reg [
      .op (some 10) none (.mv (.tmp 8)),
      .op (some 5) none (.mv (.tmp 10))])
    (.keep [0, 3, 5, 7, 8] [] (.seq (.regd [
      .op (some 11) none (.load true 2 (.tmp 3)),
      .op (some 12) none (.mv (.tmp 0)),
      .op (some 13) none (.mv (.tmp 5)),
      .op (some 14) none (.iaddr 2 (.tmp 12) (.tmp 13)),
      .op (some 15) none (.load true 2 (.tmp 14))] [
      .op (some 16) none (.eql false true [.int, .int] (.tmp 11) (.tmp 15))])
    (.keep [0, 3, 5, 7, 8, 16] [] (.ite (.tmp 16) (.seq (.reg [
        .op (some 17) none (.mv (.tmp 5)),
        .op (some 4) none (.mv (.tmp 17))])
      (.keep [4] [] (.ret)))
      (.skip)))))) 18)))
  (.keep [] [] (.seq (.reg [
    .op (some 4) none (.mv (.const (.int .i64 (-1))))])
  (.keep [4] [] (.ret))))))
def rs_slices_Index_Span : List CRes := [.tmp 4]
def im_slices_Index_Span : List Nat := [3]
theorem ok_slices_Index_Span : FnOk Try.prog f_slices_Index_Span im_slices_Index_Span cc_slices_Index_Span rs_slices_Index_Span 19 := fnOk1 mixed (by kernel_rfl)
/-- slices.ContainsFunc[[]corpora/api.Span,corpora/api.Span] [L_Span, func_Span_bool] -> [bool] -/
def cc_slices_ContainsFunc_Span : CC :=
  .seq (.reg [
    .op (some 4) none (.mv (.const (.bool false)))])
  (.keep [0, 1] [] (.seq (.reg [
    .op (some 5) none (.mv (.tmp 0)),
    .op (some 6) none (.mv (.tmp 1)),
    .op (some 7) none (.call f_slices_IndexFunc_Span [(.tmp 5), (.tmp 6)]),
    .op (some 8) none (.cmp .geq (.tmp 7) (.const (.int .i64 0))),
    .op (some 4) none (.mv (.tmp 8))])
  (.keep [4] [] (.ret))))
def rs_slices_ContainsFunc_Span : List CRes := [.tmp 4]
def im_slices_ContainsFunc_Span : List Nat := []
theorem ok_slices_ContainsFunc_Span : FnOk Try.prog f_slices_ContainsFunc_Span im_slices_ContainsFunc_Span cc_slices_ContainsFunc_Span rs_slices_ContainsFunc_Span 9 := fnOk1 mixed (by kernel_rfl)
-- slices_IndexFunc_Span range i=8 n=7 c=9 i2=18 id=0: live [0:s, 1:f] changed [] res []
/-- slices.IndexFunc[[]corpora/api.Span,corpora/api.Span] [L_Span, func_Span_bool] -> [int] -/
def cc_slices_IndexFunc_Span : CC :=
  .seq (.reg [
    .op (some 4) none (.mv (.const (.int .i64 0)))])
  (.keep [0, 1] [] (.seq /- 1 -/ (.seq (.reg [
    .op (some 6) none (.mv (.tmp 0)),
    .op (some 7) none (.len (.tmp 6)),
    .op (some 8) none (.mv (.const (.int .i64 0)))])
  (.keep [0, 1, 7, 8] [] (rangeCC 0 8 7 9 1 (.seq (.reg [
      .op (some 10) none (.mv (.tmp 8)),
      .op (some 5) none (.mv (.tmp 10))])
    (.keep [0, 1, 5, 7, 8] [] (.seq (.reg [
      .op (some 11) none (.mv (.tmp 1)),
      .op (some 12) none (.mv (.tmp 0)),
      .op (some 13) none (.mv (.tmp 5)),
      .op (some 14) none (.iaddr 2 (.tmp 12) (.tmp 13)),
      .op (some 15) none (.load true 2 (.tmp 14)),
      .op (some 16) none (.callv (.tmp 11) [(.tmp 15)])])
    (.keep [0, 1, 5, 7, 8, 16] [] (.ite (.tmp 16) (.seq (.reg [
        .op (some 17) none (.mv (.tmp 5)),
        .op (some 4) none (.mv (.tmp 17))])
      (.keep [4] [] (.ret)))
      (.skip)))))) 18)))
  (.keep [] [] (.seq (.reg [
    .op (some 4) none (.mv (.const (.int .i64 (-1))))])
  (.keep [4] [] (.ret))))))
def rs_slices_IndexFunc_Span : List CRes := [.tmp 4]
def im_slices_IndexFunc_Span : List Nat := []
theorem ok_slices_IndexFunc_Span : FnOk Try.prog f_slices_IndexFunc_Span im_slices_IndexFunc_Span cc_slices_IndexFunc_Span rs_slices_IndexFunc_Span 19 := fnOk1 mixed (by kernel_rfl)
-- slices_Concat_Span range i=11 n=10 c=12 i2=22 id=0: live [0:slices, 3:size, 9:] changed [3] res []
-- slices_Concat_Span range i=27 n=26 c=28 i2=34 id=2: live [6:newslice, 25:] changed [6] res [24, 33]
/-- slices.Concat[[]corpora/api.Span,corpora/api.Span] [L_L_Span] -> [L_Span] -/
def cc_slices_Concat_Span : CC :=
  .seq (.reg [
    .op (some 2) none (.mv (.const (.slice none 0 0)))])
  (.keep [0] [] (.seq (.reg [
    .op (some 3) none (.mv (.const (.int .i64 0)))])
  (.keep [0, 3] [] (.seq /- 2 -/ (.seq (.reg [
    .op (some 9) none (.mv (.tmp 0)),
    .op (some 10) none (.len (.tmp 9)),
    .op (some 11) none (.mv (.const (.int .i64 0)))])
  (.keep [0, 3, 9, 10, 11] [] (rangeCC 0 11 10 12 1 (.seq (.reg [
      .op (some 13) none (.iaddr 1 (.tmp 9) (.tmp 11)),
      .op (some 14) none (.load false 1 (.tmp 13)),
      .op (some 5) none (.mv (.tmp 14))])
    (.keep [0, 3, 5, 9, 10, 11] [] (.seq (.reg [
      .op (some 15) none (.mv (.tmp 3)),
      .op (some 16) none (.mv (.tmp 5)),
      .op (some 17) none (.len (.tmp 16)),
      .op (some 18) none (.arith .add (.tmp 15) (.tmp 17)),
      .op (some 3) none (.mv (.tmp 18))])
    (.keep [0, 3, 9, 10, 11] [] (.seq (.reg [
      .op (some 19) none (.mv (.tmp 3)),
      .op (some 20) none (.cmp .lss (.tmp 19) (.const (.int .i64 0)))])
    (.keep [0, 3, 9, 10, 11, 20] [] (.ite (.tmp 20) (.reg [
        .op (some 21) none (.bad),
        .op none none (.bad)])
      (.skip)))))))) 22)))
  (.keep [0, 3] [] (.seq (.reg [
    .op (some 23) none (.mv (.tmp 3)),
    .op (some 24) none (.call f_slices_Grow_Span [(.const (.slice none 0 0)), (.tmp 23)]),
    .op (some 6) none (.mv (.tmp 24))])
  (.keep [0, 6] [24, 33] (.seq /- 8 -/ (.seq (.reg [
    .op (some 25) none (.mv (.tmp 0)),
    .op (some 26) none (.len (.tmp 25)),
    .op (some 27) none (.mv (.const (.int .i64 0)))])
  (.keep [6, 25, 26, 27] [24, 33] (rangeCC 2 27 26 28 3 (.seq (.reg [
      .op (some 29) none (.iaddr 1 (.tmp 25) (.tmp 27)),
      .op (some 30) none (.load false 1 (.tmp 29)),
      .op (some 8) none (.mv (.tmp 30))])
    (.keep [6, 8, 25, 26, 27] [24, 33] (.reg [
      .op (some 31) none (.mv (.tmp 6)),
      .op (some 32) none (.mv (.tmp 8)),
      .op (some 33) none (.append none ty_Span 2 16 (.tmp 31) (.tmp 32)),
      .op (some 6) none (.mv (.tmp 33))]))) 34)))
  (.keep [6] [24, 33] (.seq (.reg [
    .op (some 35) none (.mv (.tmp 6)),
    .op (some 2) none (.mv (.tmp 35))])
  (.keep [2] [24, 33] (.ret))))))))))))
def rs_slices_Concat_Span : List CRes := [.tmp 2]
def im_slices_Concat_Span : List Nat := []
theorem ok_slices_Concat_Span : FnOk Try.prog f_slices_Concat_Span im_slices_Concat_Span cc_slices_Concat_Span rs_slices_Concat_Span 36 := fnOk1 mixed (by kernel_rfl)
/-- slices.Grow[[]corpora/api.Span,corpora/api.Span] [L_Span, int] -> [L_Span] -/
def cc_slices_Grow_Span : CC :=
  .seq (.reg [
    .op (some 4) none (.mv (.const (.slice none 0 0)))])
  (.keep [0, 1] [22] (.seq /- 1 -/ (.seq (.reg [
    .op (some 5) none (.mv (.tmp 1)),
    .op (some 6) none (.cmp .lss (.tmp 5) (.const (.int .i64 0)))])
  (.keep [0, 1, 6] [22] (.ite (.tmp 6) (.reg [
      .op (some 7) none (.bad),
      .op none none (.bad)])
    (.skip))))
  (.keep [0, 1] [22] (.seq (.seq (.reg [
    .op (some 8) none (.mv (.tmp 1)),
    .op (some 9) none (.mv (.tmp 0)),
    .op (some 10) none (.cap (.tmp 9)),
    .op (some 11) none (.mv (.tmp 0)),
    .op (some 12) none (.len (.tmp 11)),
    .op (some 13) none (.arith .sub (.tmp 10) (.tmp 12)),
    .op (some 14) none (.arith .sub (.tmp 8) (.tmp 13)),
    .op (some 1) none (.mv (.tmp 14))])
  (.keep [0, 1] [22] (.seq (.reg [
    .op (some 15) none (.mv (.tmp 1)),
    .op (some 16) none (.cmp .gtr (.tmp 15) (.const (.int .i64 0)))])
  (.keep [0, 1, 16] [22] (.ite (.tmp 16) (.reg [
      .op (some 17) none (.mv (.tmp 0)),
      .op (some 18) none (.mv (.tmp 0)),
      .op (some 19) none (.cap (.tmp 18)),
      .op (some 20) none (.slice 2 (.tmp 17) none (some (.tmp 19))),
      .op (some 21) none (.mv (.tmp 1)),
      .op (some 22) none (.appmk ty_Span 2 16 true [(.int .i64 0), (.int .i64 0)] (.tmp 20) (.tmp 21)),
      .op (some 23) none (.mv (.tmp 0)),
      .op (some 24) none (.len (.tmp 23)),
      .op (some 25) none (.slice 2 (.tmp 22) none (some (.tmp 24))),
      .frz 25 0,
      .op (some 0) none (.mv (.tmp 25))])
    (.skip))))))
  (.keep [0] [22] (.seq (.reg [
    .op (some 26) none (.mv (.tmp 0)),
    .op (some 4) none (.mv (.tmp 26))])
  (.keep [4] [22] (.ret))))))))
def rs_slices_Grow_Span : List CRes := [.tmp 4]
def im_slices_Grow_Span : List Nat := []
theorem ok_slices_Grow_Span : FnOk Try.prog f_slices_Grow_Span im_slices_Grow_Span cc_slices_Grow_Span rs_slices_Grow_Span 27 := fnOk1 mixed (by kernel_rfl)
-- slices_Compact_Span while id=0: live [0:s, 3:k] changed [3] res [0]
-- slices_Compact_Span while id=0: live [0:s, 3:k, 4:s2, 5:k2] changed [3, 5] res [0]
/-- slices.Compact[[]corpora/api.Span,corpora/api.Span] [L_Span] -> [L_Span] -/
def cc_slices_Compact_Span : CC :=
  .seq (.reg [
    .op (some 2) none (.mv (.const (.slice none 0 0)))])
  (.keep [0] [0] (.seq /- 1 -/ (.seq (.reg [
    .op (some 6) none (.mv (.tmp 0)),
    .op (some 7) none (.len (.tmp 6)),
    .op (some 8) none (.cmp .lss (.tmp 7) (.const (.int .i64 2)))])
  (.keep [0, 8] [0] (.ite (.tmp 8) (.seq (.reg [
      .op (some 9) none (.mv (.tmp 0)),
      .op (some 2) none (.mv (.tmp 9))])
    (.keep [2] [0] (.ret)))
    (.skip))))
  (.keep [0] [0] (.seq /- 4 -/ (.seq (.reg [
    .op (some 3) none (.mv (.const (.int .i64 1)))])
  (.keep [0, 3] [0] (.block 0 (.loop 1 (.seq /- 6 -/ (.seq (.reg [
        .op (some 10) none (.mv (.tmp 3)),
        .op (some 11) none (.mv (.tmp 0)),
        .op (some 12) none (.len (.tmp 11)),
        .op (some 13) none (.cmp .lss (.tmp 10) (.tmp 12))])
      (.keep [0, 3, 13] [0] (.ite (.tmp 13) (.skip)
        (.exit 0))))
      (.keep [0, 3] [0] (.seq /- 8 -/ (.block 1 (.seq (.regd [
          .op (some 16) none (.mv (.tmp 0)),
          .op (some 17) none (.mv (.tmp 3)),
          .op (some 18) none (.iaddr 2 (.tmp 16) (.tmp 17)),
          .op (some 19) none (.load true 2 (.tmp 18)),
          .op (some 20) none (.mv (.tmp 0)),
          .op (some 21) none (.mv (.tmp 3)),
          .op (some 22) none (.arith .sub (.tmp 21) (.const (.int .i64 1))),
          .op (some 23) none (.iaddr 2 (.tmp 20) (.tmp 22)),
          .op (some 24) none (.load true 2 (.tmp 23))] [
          .op (some 25) none (.eql false true [.int, .int] (.tmp 19) (.tmp 24))])
        (.keep [0, 3, 25] [0] (.ite (.tmp 25) (.seq (.reg [
            .op (some 26) none (.mv (.tmp 0)),
            .op (some 27) none (.mv (.tmp 3)),
            .op (some 28) none (.slice 2 (.tmp 26) (some (.tmp 27)) none),
            .op (some 4) none (.mv (.tmp 28))])
          (.keep [0, 3, 4] [0] (seqM 11 (.seq (.reg [
            .op (some 5) none (.mv (.const (.int .i64 1)))])
          (.keep [0, 3, 4, 5] [0] (.block 2 (.loop 2 (.seq /- 13 -/ (.seq (.reg [
                .op (some 29) none (.mv (.tmp 5)),
                .op (some 30) none (.mv (.tmp 4)),
                .op (some 31) none (.len (.tmp 30)),
                .op (some 32) none (.cmp .lss (.tmp 29) (.tmp 31))])
              (.keep [0, 3, 4, 5, 32] [0] (.ite (.tmp 32) (.skip)
                (.exit 2))))
              (.keep [0, 3, 4, 5] [0] (.seq /- 15 -/ (.block 3 (.seq (.regd [
                  .op (some 35) none (.mv (.tmp 4)),
                  .op (some 36) none (.mv (.tmp 5)),
                  .op (some 37) none (.iaddr 2 (.tmp 35) (.tmp 36)),
                  .op (some 38) none (.load true 2 (.tmp 37)),
                  .op (some 39) none (.mv (.tmp 4)),
                  .op (some 40) none (.mv (.tmp 5)),
                  .op (some 41) none (.arith .sub (.tmp 40) (.const (.int .i64 1))),
                  .op (some 42) none (.iaddr 2 (.tmp 39) (.tmp 41)),
                  .op (some 43) none (.load true 2 (.tmp 42))] [
                  .op (some 44) none (.eql true true [.int, .int] (.tmp 38) (.tmp 43))])
                (.keep [0, 3, 4, 5, 44] [0] (.ite (.tmp 44) (.seq (.reg [
                    .op (some 45) none (.mv (.tmp 0)),
                    .op (some 46) none (.mv (.tmp 3)),
                    .op (some 47) none (.mv (.tmp 4)),
                    .op (some 48) none (.mv (.tmp 5)),
                    .op (some 49) none (.iaddr 2 (.tmp 47) (.tmp 48)),
                    .op (some 50) none (.load true 2 (.tmp 49)),
                    .op (some 51) none (.iaddr 2 (.tmp 45) (.tmp 46)),
                    .op none none (.store none 2 (.tmp 51) (.tmp 50))])
                  (.keep [0, 3, 4, 5] [0] (.reg [
                    .op (some 52) none (.mv (.tmp 3)),
                    .op (some 53) none (.arith .add (.tmp 52) (.const (.int .i64 1))),
                    .op (some 3) none (.mv (.tmp 53))])))
                  (.skip)))))
              (.keep [0, 3, 4, 5] [0] (.reg [
                .op (some 33) none (.mv (.tmp 5)),
                .op (some 34) none (.arith .add (.tmp 33) (.const (.int .i64 1))),
                .op (some 5) none (.mv (.tmp 34))])))))))))
          (.keep [0, 3] [0] (.seq (.reg [
            .op (some 54) none (.mv (.tmp 0)),
            .op (some 55) none (.mv (.tmp 3)),
            .op (some 56) none (.slice 2 (.tmp 54) (some (.tmp 55)) none),
            .op none none (.clear 2 true [(.int .i64 0), (.int .i64 0)] (.tmp 56))])
          (.keep [0, 3] [0] (.seq (.reg [
            .op (some 57) none (.mv (.tmp 0)),
            .op (some 58) none (.mv (.tmp 3)),
            .op (some 59) none (.slice 2 (.tmp 57) none (some (.tmp 58))),
            .frz 59 0,
            .op (some 2) none (.mv (.tmp 59))])
          (.keep [2] [0] (.ret)))))))))
          (.skip)))))
      (.keep [0, 3] [0] (.reg [
        .op (some 14) none (.mv (.tmp 3)),
        .op (some 15) none (.arith .add (.tmp 14) (.const (.int .i64 1))),
        .op (some 3) none (.mv (.tmp 15))])))))))))
  (.keep [0] [0] (.seq (.reg [
    .op (some 60) none (.mv (.tmp 0)),
    .op (some 2) none (.mv (.tmp 60))])
  (.keep [2] [0] (.ret))))))))
def rs_slices_Compact_Span : List CRes := [.tmp 2]
def im_slices_Compact_Span : List Nat := []
theorem ok_slices_Compact_Span : FnOk Try.prog f_slices_Compact_Span im_slices_Compact_Span cc_slices_Compact_Span rs_slices_Compact_Span 61 := fnOk1 mixed (by kernel_rfl)
-- slices_DeleteFunc_Span while id=0: live [0:s, 1:del, 5:i, 6:j] changed [5, 6] res [0]
/-- slices.DeleteFunc[[]corpora/api.Span,corpora/api.Span] [L_Span, func_Span_bool] -> [L_Span] -/
def cc_slices_DeleteFunc_Span : CC :=
  .seq (.reg [
    .op (some 4) none (.mv (.const (.slice none 0 0)))])
  (.keep [0, 1] [0] (.seq (.reg [
    .op (some 8) none (.mv (.tmp 0)),
    .op (some 9) none (.mv (.tmp 1)),
    .op (some 10) none (.call f_slices_IndexFunc_Span [(.tmp 8), (.tmp 9)]),
    .op (some 5) none (.mv (.tmp 10))])
  (.keep [0, 1, 5] [0] (.seq /- 2 -/ (.seq (.reg [
    .op (some 11) none (.mv (.tmp 5)),
    .op (some 12) none (.eql false false [.int] (.tmp 11) (.const (.int .i64 (-1))))])
  (.keep [0, 1, 5, 12] [0] (.ite (.tmp 12) (.seq (.reg [
      .op (some 13) none (.mv (.tmp 0)),
      .op (some 4) none (.mv (.tmp 13))])
    (.keep [4] [0] (.ret)))
    (.skip))))
  (.keep [0, 1, 5] [0] (.seq /- 5 -/ (.seq (.reg [
    .op (some 14) none (.mv (.tmp 5)),
    .op (some 15) none (.arith .add (.tmp 14) (.const (.int .i64 1))),
    .op (some 6) none (.mv (.tmp 15))])
  (.keep [0, 1, 5, 6] [0] (.block 0 (.loop 1 (.seq /- 7 -/ (.seq (.reg [
        .op (some 16) none (.mv (.tmp 6)),
        .op (some 17) none (.mv (.tmp 0)),
        .op (some 18) none (.len (.tmp 17)),
        .op (some 19) none (.cmp .lss (.tmp 16) (.tmp 18))])
      (.keep [0, 1, 5, 6, 19] [0] (.ite (.tmp 19) (.skip)
        (.exit 0))))
      (.keep [0, 1, 5, 6] [0] (.seq /- 9 -/ (.block 1 (.seq (.reg [
          .op (some 22) none (.mv (.tmp 0)),
          .op (some 23) none (.mv (.tmp 6)),
          .op (some 24) none (.iaddr 2 (.tmp 22) (.tmp 23)),
          .op (some 25) none (.load true 2 (.tmp 24)),
          .op (some 7) none (.alloc ty_Span [(.int .i64 0), (.int .i64 0)]),
          .op none none (.store none 2 (.tmp 7) (.tmp 25))])
        (.keep [0, 1, 5, 6, 7] [0, 7] (.seq (.reg [
          .op (some 26) none (.mv (.tmp 1)),
          .op (some 27) none (.load true 2 (.tmp 7)),
          .op (some 28) none (.callv (.tmp 26) [(.tmp 27)]),
          .op (some 29) none (.not (.tmp 28))])
        (.keep [0, 1, 5, 6, 7, 29] [0, 7] (.ite (.tmp 29) (.seq (.reg [
            .op (some 30) none (.mv (.tmp 0)),
            .op (some 31) none (.mv (.tmp 5)),
            .op (some 32) none (.load true 2 (.tmp 7)),
            .op (some 33) none (.iaddr 2 (.tmp 30) (.tmp 31)),
            .op none none (.store none 2 (.tmp 33) (.tmp 32))])
          (.keep [0, 1, 5, 6] [0] (.reg [
            .op (some 34) none (.mv (.tmp 5)),
            .op (some 35) none (.arith .add (.tmp 34) (.const (.int .i64 1))),
            .op (some 5) none (.mv (.tmp 35))])))
          (.skip)))))))
      (.keep [0, 1, 5, 6] [0] (.reg [
        .op (some 20) none (.mv (.tmp 6)),
        .op (some 21) none (.arith .add (.tmp 20) (.const (.int .i64 1))),
        .op (some 6) none (.mv (.tmp 21))])))))))))
  (.keep [0, 5] [0] (.seq (.reg [
    .op (some 36) none (.mv (.tmp 0)),
    .op (some 37) none (.mv (.tmp 5)),
    .op (some 38) none (.slice 2 (.tmp 36) (some (.tmp 37)) none),
    .op none none (.clear 2 true [(.int .i64 0), (.int .i64 0)] (.tmp 38))])
  (.keep [0, 5] [0] (.seq (.reg [
    .op (some 39) none (.mv (.tmp 0)),
    .op (some 40) none (.mv (.tmp 5)),
    .op (some 41) none (.slice 2 (.tmp 39) none (some (.tmp 40))),
    .frz 41 0,
    .op (some 4) none (.mv (.tmp 41))])
  (.keep [4] [0] (.ret))))))))))))
def rs_slices_DeleteFunc_Span : List CRes := [.tmp 4]
def im_slices_DeleteFunc_Span : List Nat := []
theorem ok_slices_DeleteFunc_Span : FnOk Try.prog f_slices_DeleteFunc_Span im_slices_DeleteFunc_Span cc_slices_DeleteFunc_Span rs_slices_DeleteFunc_Span 42 := fnOk1 mixed (by kernel_rfl)
-- subcorpus_IsList range i=10 n=9 c=11 i2=53 id=0: live [1:l, 2:c, 8:] changed [] res []
/-- corpora/subcorpus.IsList [Corpus, L_Span] -> [bool] -/
def cc_subcorpus_IsList : CC :=
  .seq (.reg [
    .op (some 2) none (.box ty_Corpus true (.tmp 0)),
    .op (some 4) none (.mv (.const (.bool false)))])
  (.keep [1, 2] [] (.seq /- 1 -/ (.seq (.reg [
    .op (some 8) none (.mv (.tmp 1)),
    .op (some 9) none (.len (.tmp 8)),
    .op (some 10) none (.mv (.const (.int .i64 0)))])
  (.keep [1, 2, 8, 9, 10] [] (rangeCC 0 10 9 11 1 (.seq (.reg [
      .op (some 12) none (.mv (.tmp 10)),
      .op (some 13) none (.iaddr 2 (.tmp 8) (.tmp 10)),
      .op (some 14) none (.load true 2 (.tmp 13)),
      .op (some 6) none (.alloc ty_Span [(.int .i64 0), (.int .i64 0)]),
      .op (some 5) none (.mv (.tmp 12)),
      .op none none (.store none 2 (.tmp 6) (.tmp 14))])
    (.keep [1, 2, 5, 6, 8, 9, 10] [6] (.seq (.reg [
      .op (some 15) none (.load true 7 (.tmp 2)),
      .op (some 16) none (.faddr 0 (.tmp 6)),
      .op (some 17) none (.load false 1 (.tmp 16)),
      .op (some 18) none (.call f_corpus_TextAt [(.tmp 15), (.tmp 17)]),
      .op (some 7) none (.mv (.tmp 18))])
    (.keep [1, 2, 5, 6, 7, 8, 9, 10] [6] (.seq (.regd [
      .op (some 19) none (.mv (.tmp 7)),
      .op (some 20) none (.cmp .lss (.tmp 19) (.const (.int .i64 0))),
      .op (some 21) none (.mv (.tmp 20)),
      .op (some 22) (some (21, false)) (.faddr 0 (.tmp 6)),
      .op (some 23) (some (21, false)) (.load false 1 (.tmp 22)),
      .op (some 24) (some (21, false)) (.faddr 1 (.tmp 6)),
      .op (some 25) (some (21, false)) (.load false 1 (.tmp 24)),
      .op (some 26) (some (21, false)) (.cmp .geq (.tmp 23) (.tmp 25)),
      .op (some 27) none (.pick (.tmp 21) (.const (.bool true)) (.tmp 26)),
      .op (some 28) none (.mv (.tmp 27)),
      .op (some 29) (some (28, false)) (.faddr 1 (.tmp 6)),
      .op (some 30) (some (28, false)) (.load false 1 (.tmp 29)),
      .op (some 31) (some (28, false)) (.faddr 2 (.tmp 2)),
      .op (some 32) (some (28, false)) (.load false 1 (.tmp 31)),
      .op (some 33) (some (28, false)) (.mv (.tmp 7)),
      .op (some 34) (some (28, false)) (.iaddr 4 (.tmp 32) (.tmp 33)),
      .op (some 35) (some (28, false)) (.faddr 2 (.tmp 34)),
      .op (some 36) (some (28, false)) (.load false 1 (.tmp 35)),
      .op (some 37) (some (28, false)) (.cmp .gtr (.tmp 30) (.tmp 36)),
      .op (some 38) none (.pick (.tmp 28) (.const (.bool true)) (.tmp 37)),
      .op (some 39) none (.mv (.tmp 38)),
      .op (some 40) (some (39, false)) (.mv (.tmp 5)),
      .op (some 41) (some (39, false)) (.cmp .gtr (.tmp 40) (.const (.int .i64 0))),
      .op (some 42) (some (39, false)) (.mv (.tmp 41)),
      .op (some 43) (some (42, true)) (.mv (.tmp 1)),
      .op (some 44) (some (42, true)) (.mv (.tmp 5)),
      .op (some 45) (some (42, true)) (.arith .sub (.tmp 44) (.const (.int .i64 1))),
      .op (some 46) (some (42, true)) (.iaddr 2 (.tmp 43) (.tmp 45)),
      .op (some 47) (some (42, true)) (.load true 2 (.tmp 46)),
      .op (some 48) (some (42, true)) (.load true 2 (.tmp 6))] [
      .op (some 49) (some (42, true)) (.call f_subcorpus_compare [(.tmp 47), (.tmp 48)]),
      .op (some 50) (some (42, true)) (.cmp .geq (.tmp 49) (.const (.int .i64 0))),
      .op (some 51) (some (39, false)) (.pick (.tmp 42) (.tmp 50) (.const (.bool false))),
      .op (some 52) none (.pick (.tmp 39) (.const (.bool true)) (.tmp 51))])
    (.keep [1, 2, 8, 9, 10, 52] [] (.ite (.tmp 52) (.seq (.reg [
        .op (some 4) none (.mv (.const (.bool false)))])
      (.keep [4] [] (.ret)))
      (.skip)))))))) 53)))
  (.keep [] [] (.seq (.reg [
    .op (some 4) none (.mv (.const (.bool true)))])
  (.keep [4] [] (.ret))))))
def rs_subcorpus_IsList : List CRes := [.tmp 4]
def im_subcorpus_IsList : List Nat := [2]
theorem ok_subcorpus_IsList : FnOk Try.prog f_subcorpus_IsList im_subcorpus_IsList cc_subcorpus_IsList rs_subcorpus_IsList 54 := fnOk1 mixed (by kernel_rfl)
-- corpus_TextAt range i=10 n=9 c=11 i2=26 id=0: live [1:pos, 8:] changed [] res []
/-- corpora/corpus.TextAt [Corpus, int] -> [int] -/
def cc_corpus_TextAt : CC :=
  .seq (.reg [
    .op (some 2) none (.box ty_Corpus true (.tmp 0)),
    .op (some 4) none (.mv (.const (.int .i64 0)))])
  (.keep [1, 2] [] (.seq /- 1 -/ (.seq (.reg [
    .op (some 7) none (.faddr 2 (.tmp 2)),
    .op (some 8) none (.load false 1 (.tmp 7)),
    .op (some 9) none (.len (.tmp 8)),
    .op (some 10) none (.mv (.const (.int .i64 0)))])
  (.keep [1, 8, 9, 10] [] (rangeCC 0 10 9 11 1 (.seq (.reg [
      .op (some 12) none (.mv (.tmp 10)),
      .op (some 13) none (.iaddr 4 (.tmp 8) (.tmp 10)),
      .op (some 14) none (.load true 4 (.tmp 13)),
      .op (some 6) none (.alloc ty_Text [(.string ⟨#[]⟩), (.int .i64 0), (.int .i64 0), (.slice none 0 0)]),
      .op (some 5) none (.mv (.tmp 12)),
      .op none none (.store none 4 (.tmp 6) (.tmp 14))])
    (.keep [1, 5, 6, 8, 9, 10] [6] (.seq (.reg [
      .op (some 15) none (.faddr 1 (.tmp 6)),
      .op (some 16) none (.load false 1 (.tmp 15)),
      .op (some 17) none (.mv (.tmp 1)),
      .op (some 18) none (.cmp .leq (.tmp 16) (.tmp 17)),
      .op (some 19) none (.mv (.tmp 18)),
      .op (some 20) (some (19, true)) (.mv (.tmp 1)),
      .op (some 21) (some (19, true)) (.faddr 2 (.tmp 6)),
      .op (some 22) (some (19, true)) (.load false 1 (.tmp 21)),
      .op (some 23) (some (19, true)) (.cmp .lss (.tmp 20) (.tmp 22)),
      .op (some 24) none (.pick (.tmp 19) (.tmp 23) (.const (.bool false)))])
    (.keep [1, 5, 8, 9, 10, 24] [] (.ite (.tmp 24) (.seq (.reg [
        .op (some 25) none (.mv (.tmp 5)),
        .op (some 4) none (.mv (.tmp 25))])
      (.keep [4] [] (.ret)))
      (.skip)))))) 26)))
  (.keep [] [] (.seq (.reg [
    .op (some 4) none (.mv (.const (.int .i64 (-1))))])
  (.keep [4] [] (.ret))))))
def rs_corpus_TextAt : List CRes := [.tmp 4]
def im_corpus_TextAt : List Nat := [2]
theorem ok_corpus_TextAt : FnOk Try.prog f_corpus_TextAt im_corpus_TextAt cc_corpus_TextAt rs_corpus_TextAt 27 := fnOk1 mixed (by kernel_rfl)
/-- corpora/corporaref04.First [uint8] -> [bool] -/
def cc_r04_First : CC :=
  .seq (.reg [
    .op (some 2) none (.mv (.const (.bool false)))])
  (.keep [0] [] (.seq (.reg [
    .op (some 3) none (.mv (.tmp 0)),
    .op (some 4) none (.eql false false [.int] (.tmp 3) (.const (.int .u8 95))),
    .op (some 5) none (.mv (.tmp 4)),
    .op (some 6) (some (5, false)) (.mv (.tmp 0)),
    .op (some 7) (some (5, false)) (.cmp .geq (.tmp 6) (.const (.int .u8 65))),
    .op (some 8) (some (5, false)) (.mv (.tmp 7)),
    .op (some 9) (some (8, true)) (.mv (.tmp 0)),
    .op (some 10) (some (8, true)) (.cmp .leq (.tmp 9) (.const (.int .u8 90))),
    .op (some 11) (some (5, false)) (.pick (.tmp 8) (.tmp 10) (.const (.bool false))),
    .op (some 12) none (.pick (.tmp 5) (.const (.bool true)) (.tmp 11)),
    .op (some 13) none (.mv (.tmp 12)),
    .op (some 14) (some (13, false)) (.mv (.tmp 0)),
    .op (some 15) (some (13, false)) (.cmp .geq (.tmp 14) (.const (.int .u8 97))),
    .op (some 16) (some (13, false)) (.mv (.tmp 15)),
    .op (some 17) (some (16, true)) (.mv (.tmp 0)),
    .op (some 18) (some (16, true)) (.cmp .leq (.tmp 17) (.const (.int .u8 122))),
    .op (some 19) (some (13, false)) (.pick (.tmp 16) (.tmp 18) (.const (.bool false))),
    .op (some 20) none (.pick (.tmp 13) (.const (.bool true)) (.tmp 19)),
    .op (some 2) none (.mv (.tmp 20))])
  (.keep [2] [] (.ret))))
def rs_r04_First : List CRes := [.tmp 2]
def im_r04_First : List Nat := []
theorem ok_r04_First : FnOk Try.prog f_r04_First im_r04_First cc_r04_First rs_r04_First 21 := fnOk1 mixed (by kernel_rfl)
/-- corpora/corporaref04.Next [uint8] -> [bool] -/
def cc_r04_Next : CC :=
  .seq (.reg [
    .op (some 2) none (.mv (.const (.bool false)))])
  (.keep [0] [] (.seq (.reg [
    .op (some 3) none (.mv (.tmp 0)),
    .op (some 4) none (.call f_r04_First [(.tmp 3)]),
    .op (some 5) none (.mv (.tmp 4)),
    .op (some 6) (some (5, false)) (.mv (.tmp 0)),
    .op (some 7) (some (5, false)) (.cmp .geq (.tmp 6) (.const (.int .u8 48))),
    .op (some 8) (some (5, false)) (.mv (.tmp 7)),
    .op (some 9) (some (8, true)) (.mv (.tmp 0)),
    .op (some 10) (some (8, true)) (.cmp .leq (.tmp 9) (.const (.int .u8 57))),
    .op (some 11) (some (5, false)) (.pick (.tmp 8) (.tmp 10) (.const (.bool false))),
    .op (some 12) none (.pick (.tmp 5) (.const (.bool true)) (.tmp 11)),
    .op (some 13) none (.mv (.tmp 12)),
    .op (some 14) (some (13, false)) (.mv (.tmp 0)),
    .op (some 15) (some (13, false)) (.eql false false [.int] (.tmp 14) (.const (.int .u8 45))),
    .op (some 16) none (.pick (.tmp 13) (.const (.bool true)) (.tmp 15)),
    .op (some 2) none (.mv (.tmp 16))])
  (.keep [2] [] (.ret))))
def rs_r04_Next : List CRes := [.tmp 2]
def im_r04_Next : List Nat := []
theorem ok_r04_Next : FnOk Try.prog f_r04_Next im_r04_Next cc_r04_Next rs_r04_Next 17 := fnOk1 mixed (by kernel_rfl)
-- r04_ValidName while id=0: live [0:s, 3:i] changed [3] res []
/-- corpora/corporaref04.ValidName [string] -> [bool] -/
def cc_r04_ValidName : CC :=
  .seq (.reg [
    .op (some 2) none (.mv (.const (.bool false)))])
  (.keep [0] [] (.seq /- 1 -/ (.seq (.reg [
    .op (some 4) none (.mv (.tmp 0)),
    .op (some 5) none (.slen (.tmp 4)),
    .op (some 6) none (.cmp .lss (.tmp 5) (.const (.int .i64 1))),
    .op (some 7) none (.mv (.tmp 6)),
    .op (some 8) (some (7, false)) (.mv (.tmp 0)),
    .op (some 9) (some (7, false)) (.slen (.tmp 8)),
    .op (some 10) (some (7, false)) (.cmp .gtr (.tmp 9) (.const (.int .i64 32))),
    .op (some 11) none (.pick (.tmp 7) (.const (.bool true)) (.tmp 10)),
    .op (some 12) none (.mv (.tmp 11)),
    .op (some 13) (some (12, false)) (.mv (.tmp 0)),
    .op (some 14) (some (12, false)) (.sidx (.tmp 13) (.const (.int .i64 0))),
    .op (some 15) (some (12, false)) (.call f_r04_First [(.tmp 14)]),
    .op (some 16) (some (12, false)) (.not (.tmp 15)),
    .op (some 17) none (.pick (.tmp 12) (.const (.bool true)) (.tmp 16))])
  (.keep [0, 17] [] (.ite (.tmp 17) (.seq (.reg [
      .op (some 2) none (.mv (.const (.bool false)))])
    (.keep [2] [] (.ret)))
    (.skip))))
  (.keep [0] [] (.seq /- 4 -/ (.seq (.reg [
    .op (some 3) none (.mv (.const (.int .i64 1)))])
  (.keep [0, 3] [] (.block 0 (.loop 1 (.seq /- 6 -/ (.seq (.reg [
        .op (some 18) none (.mv (.tmp 3)),
        .op (some 19) none (.mv (.tmp 0)),
        .op (some 20) none (.slen (.tmp 19)),
        .op (some 21) none (.cmp .lss (.tmp 18) (.tmp 20))])
      (.keep [0, 3, 21] [] (.ite (.tmp 21) (.skip)
        (.exit 0))))
      (.keep [0, 3] [] (.seq /- 8 -/ (.block 1 (.seq (.reg [
          .op (some 24) none (.mv (.tmp 0)),
          .op (some 25) none (.mv (.tmp 3)),
          .op (some 26) none (.sidx (.tmp 24) (.tmp 25)),
          .op (some 27) none (.call f_r04_Next [(.tmp 26)]),
          .op (some 28) none (.not (.tmp 27))])
        (.keep [0, 3, 28] [] (.ite (.tmp 28) (.seq (.reg [
            .op (some 2) none (.mv (.const (.bool false)))])
          (.keep [2] [] (.ret)))
          (.skip)))))
      (.keep [0, 3] [] (.reg [
        .op (some 22) none (.mv (.tmp 3)),
        .op (some 23) none (.arith .add (.tmp 22) (.const (.int .i64 1))),
        .op (some 3) none (.mv (.tmp 23))])))))))))
  (.keep [] [] (.seq (.reg [
    .op (some 2) none (.mv (.const (.bool true)))])
  (.keep [2] [] (.ret))))))))
def rs_r04_ValidName : List CRes := [.tmp 2]
def im_r04_ValidName : List Nat := []
theorem ok_r04_ValidName : FnOk Try.prog f_r04_ValidName im_r04_ValidName cc_r04_ValidName rs_r04_ValidName 29 := fnOk1 mixed (by kernel_rfl)
-- r04_ValidValue range i=14 n=13 c=15 i2=24 id=0: live [12:] changed [] res []
/-- corpora/corporaref04.ValidValue [string] -> [Errno] -/
def cc_r04_ValidValue : CC :=
  .seq (.reg [
    .op (some 2) none (.mv (.const (.int .i64 0)))])
  (.keep [0] [] (.seq /- 1 -/ (.seq (.reg [
    .op (some 5) none (.mv (.tmp 0)),
    .op (some 6) none (.slen (.tmp 5)),
    .op (some 7) none (.cmp .gtr (.tmp 6) (.const (.int .i64 120)))])
  (.keep [0, 7] [] (.ite (.tmp 7) (.seq (.reg [
      .op (some 2) none (.mv (.const (.int .i64 2)))])
    (.keep [2] [] (.ret)))
    (.skip))))
  (.keep [0] [] (.seq /- 4 -/ (.seq (.reg [
    .op (some 8) none (.mv (.tmp 0)),
    .op (some 9) none (.call f_r01_Valid [(.tmp 8)]),
    .op (some 10) none (.not (.tmp 9))])
  (.keep [0, 10] [] (.ite (.tmp 10) (.seq (.reg [
      .op (some 2) none (.mv (.const (.int .i64 7)))])
    (.keep [2] [] (.ret)))
    (.skip))))
  (.keep [0] [] (.seq /- 7 -/ (.seq (.reg [
    .op (some 11) none (.mv (.tmp 0)),
    .op (some 12) none (.sbytes (.tmp 11)),
    .op (some 13) none (.len (.tmp 12)),
    .op (some 14) none (.mv (.const (.int .i64 0)))])
  (.keep [12, 13, 14] [] (rangeCC 0 14 13 15 1 (.seq (.reg [
      .op (some 16) none (.iaddr 1 (.tmp 12) (.tmp 14)),
      .op (some 17) none (.load false 1 (.tmp 16)),
      .op (some 4) none (.mv (.tmp 17))])
    (.keep [4, 12, 13, 14] [] (.seq (.reg [
      .op (some 18) none (.mv (.tmp 4)),
      .op (some 19) none (.cmp .lss (.tmp 18) (.const (.int .u8 32))),
      .op (some 20) none (.mv (.tmp 19)),
      .op (some 21) (some (20, false)) (.mv (.tmp 4)),
      .op (some 22) (some (20, false)) (.eql false false [.int] (.tmp 21) (.const (.int .u8 127))),
      .op (some 23) none (.pick (.tmp 20) (.const (.bool true)) (.tmp 22))])
    (.keep [12, 13, 14, 23] [] (.ite (.tmp 23) (.seq (.reg [
        .op (some 2) none (.mv (.const (.int .i64 14)))])
      (.keep [2] [] (.ret)))
      (.skip)))))) 24)))
  (.keep [] [] (.seq (.reg [
    .op (some 2) none (.mv (.const (.int .i64 0)))])
  (.keep [2] [] (.ret))))))))))
def rs_r04_ValidValue : List CRes := [.tmp 2]
def im_r04_ValidValue : List Nat := []
theorem ok_r04_ValidValue : FnOk Try.prog f_r04_ValidValue im_r04_ValidValue cc_r04_ValidValue rs_r04_ValidValue 25 := fnOk1 mixed (by kernel_rfl)
-- r01_Units while id=0: live [0:s, 3:l, 8:] changed [3] res [8, 36]
-- r01_Units range i=58 n=57 c=59 i2=79 id=2: live [3:l] changed [] res [8, 36]
/-- corpora/corporaref01.Units [string] -> [L_corporaref01_Unit] -/
def cc_r01_Units : CC :=
  .seq (.reg [
    .op (some 2) none (.mv (.const (.slice none 0 0)))])
  (.keep [0] [] (.seq (.reg [
    .op (some 3) none (.mv (.const (.slice none 0 0)))])
  (.keep [0, 3] [8, 36] (seqM 2 (.seq (.reg [
    .op (some 7) none (.mv (.tmp 0)),
    .op (some 8) none (.srange (.tmp 7))])
  (.keep [0, 3, 8] [8, 36] (.block 0 (.loop 1 (.seq (.reg [
        .op (some 9) none (.snext (.tmp 8)),
        .op (some 10) none (.ext (.tmp 9) 0)])
      (.keep [0, 3, 8, 9, 10] [8, 36] (.seq /- 5 -/ (.ite (.tmp 10) (.skip)
        (.exit 0))
      (.keep [0, 3, 8, 9] [8, 36] (.block 1 (.seq (.reg [
          .op (some 11) none (.ext (.tmp 9) 1),
          .op (some 12) none (.ext (.tmp 9) 2),
          .op (some 4) none (.mv (.tmp 11)),
          .op (some 5) none (.mv (.tmp 12))])
        (.keep [0, 3, 4, 5, 8] [8, 36] (seqM 7 (.seq (.reg [
          .op (some 13) none (.mv (.tmp 3)),
          .op (some 14) none (.len (.tmp 13)),
          .op (some 15) none (.cmp .gtr (.tmp 14) (.const (.int .i64 0)))])
        (.keep [0, 3, 4, 5, 8, 15] [8, 36] (.ite (.tmp 15) (.reg [
            .op (some 16) none (.mv (.tmp 3)),
            .op (some 17) none (.mv (.tmp 3)),
            .op (some 18) none (.len (.tmp 17)),
            .op (some 19) none (.arith .sub (.tmp 18) (.const (.int .i64 1))),
            .op (some 20) none (.mv (.tmp 4)),
            .op (some 21) none (.mv (.tmp 3)),
            .op (some 22) none (.mv (.tmp 3)),
            .op (some 23) none (.len (.tmp 22)),
            .op (some 24) none (.arith .sub (.tmp 23) (.const (.int .i64 1))),
            .op (some 25) none (.iaddr 4 (.tmp 21) (.tmp 24)),
            .op (some 26) none (.faddr 1 (.tmp 25)),
            .op (some 27) none (.load false 1 (.tmp 26)),
            .op (some 28) none (.arith .sub (.tmp 20) (.tmp 27)),
            .op (some 29) none (.iaddr 4 (.tmp 16) (.tmp 19)),
            .op (some 30) none (.faddr 2 (.tmp 29)),
            .op none none (.store none 1 (.tmp 30) (.tmp 28))])
          (.skip))))
        (.keep [0, 3, 4, 5, 8] [8, 36] (.reg [
          .op (some 31) none (.mv (.tmp 3)),
          .op (some 32) none (.mv (.tmp 5)),
          .op (some 33) none (.mv (.tmp 4)),
          .op (some 34) none (.build [(.int .i32 0), (.int .i64 0), (.int .i64 0), (.bool false)] [(0, 1, (.tmp 32)), (1, 1, (.tmp 33))]),
          .op (some 35) none (.bslice ty_corporaref01_Unit 4 [(.tmp 34)]),
          .op (some 36) none (.append none ty_corporaref01_Unit 4 32 (.tmp 31) (.tmp 35)),
          .op (some 3) none (.mv (.tmp 36))]))))))))))))))
  (.keep [0, 3] [8, 36] (seqM 9 (.seq (.reg [
    .op (some 37) none (.mv (.tmp 3)),
    .op (some 38) none (.len (.tmp 37)),
    .op (some 39) none (.cmp .gtr (.tmp 38) (.const (.int .i64 0)))])
  (.keep [0, 3, 39] [8, 36] (.ite (.tmp 39) (.reg [
      .op (some 40) none (.mv (.tmp 3)),
      .op (some 41) none (.mv (.tmp 3)),
      .op (some 42) none (.len (.tmp 41)),
      .op (some 43) none (.arith .sub (.tmp 42) (.const (.int .i64 1))),
      .op (some 44) none (.mv (.tmp 0)),
      .op (some 45) none (.slen (.tmp 44)),
      .op (some 46) none (.mv (.tmp 3)),
      .op (some 47) none (.mv (.tmp 3)),
      .op (some 48) none (.len (.tmp 47)),
      .op (some 49) none (.arith .sub (.tmp 48) (.const (.int .i64 1))),
      .op (some 50) none (.iaddr 4 (.tmp 46) (.tmp 49)),
      .op (some 51) none (.faddr 1 (.tmp 50)),
      .op (some 52) none (.load false 1 (.tmp 51)),
      .op (some 53) none (.arith .sub (.tmp 45) (.tmp 52)),
      .op (some 54) none (.iaddr 4 (.tmp 40) (.tmp 43)),
      .op (some 55) none (.faddr 2 (.tmp 54)),
      .op none none (.store none 1 (.tmp 55) (.tmp 53))])
    (.skip))))
  (.keep [3] [8, 36] (.seq /- 11 -/ (.seq (.reg [
    .op (some 56) none (.mv (.tmp 3)),
    .op (some 57) none (.len (.tmp 56)),
    .op (some 58) none (.mv (.const (.int .i64 0)))])
  (.keep [3, 57, 58] [8, 36] (rangeCC 2 58 57 59 3 (.seq (.reg [
      .op (some 60) none (.mv (.tmp 58)),
      .op (some 6) none (.mv (.tmp 60))])
    (.keep [3, 6, 57, 58] [8, 36] (.reg [
      .op (some 61) none (.mv (.tmp 3)),
      .op (some 62) none (.mv (.tmp 6)),
      .op (some 63) none (.mv (.tmp 3)),
      .op (some 64) none (.mv (.tmp 6)),
      .op (some 65) none (.iaddr 4 (.tmp 63) (.tmp 64)),
      .op (some 66) none (.faddr 0 (.tmp 65)),
      .op (some 67) none (.load false 1 (.tmp 66)),
      .op (some 68) none (.eql true false [.int] (.tmp 67) (.const (.int .i32 65533))),
      .op (some 69) none (.mv (.tmp 68)),
      .op (some 70) (some (69, false)) (.mv (.tmp 3)),
      .op (some 71) (some (69, false)) (.mv (.tmp 6)),
      .op (some 72) (some (69, false)) (.iaddr 4 (.tmp 70) (.tmp 71)),
      .op (some 73) (some (69, false)) (.faddr 2 (.tmp 72)),
      .op (some 74) (some (69, false)) (.load false 1 (.tmp 73)),
      .op (some 75) (some (69, false)) (.eql false false [.int] (.tmp 74) (.const (.int .i64 3))),
      .op (some 76) none (.pick (.tmp 69) (.const (.bool true)) (.tmp 75)),
      .op (some 77) none (.iaddr 4 (.tmp 61) (.tmp 62)),
      .op (some 78) none (.faddr 3 (.tmp 77)),
      .op none none (.store none 1 (.tmp 78) (.tmp 76))]))) 79)))
  (.keep [3] [8, 36] (.seq (.reg [
    .op (some 80) none (.mv (.tmp 3)),
    .op (some 2) none (.mv (.tmp 80))])
  (.keep [2] [8, 36] (.ret))))))))))))
def rs_r01_Units : List CRes := [.tmp 2]
def im_r01_Units : List Nat := []
theorem ok_r01_Units : FnOk Try.prog f_r01_Units im_r01_Units cc_r01_Units rs_r01_Units 81 := fnOk1 mixed (by kernel_rfl)
-- r01_Valid range i=8 n=7 c=9 i2=15 id=0: live [6:] changed [] res []
/-- corpora/corporaref01.Valid [string] -> [bool] -/
def cc_r01_Valid : CC :=
  .seq (.reg [
    .op (some 2) none (.mv (.const (.bool false)))])
  (.keep [0] [] (.seq /- 1 -/ (.seq (.reg [
    .op (some 5) none (.mv (.tmp 0)),
    .op (some 6) none (.call f_r01_Units [(.tmp 5)]),
    .op (some 7) none (.len (.tmp 6)),
    .op (some 8) none (.mv (.const (.int .i64 0)))])
  (.keep [6, 7, 8] [] (rangeCC 0 8 7 9 1 (.seq (.reg [
      .op (some 10) none (.iaddr 4 (.tmp 6) (.tmp 8)),
      .op (some 11) none (.load true 4 (.tmp 10)),
      .op (some 4) none (.alloc ty_corporaref01_Unit [(.int .i32 0), (.int .i64 0), (.int .i64 0), (.bool false)]),
      .op none none (.store none 4 (.tmp 4) (.tmp 11))])
    (.keep [4, 6, 7, 8] [4] (.seq (.reg [
      .op (some 12) none (.faddr 3 (.tmp 4)),
      .op (some 13) none (.load false 1 (.tmp 12)),
      .op (some 14) none (.not (.tmp 13))])
    (.keep [6, 7, 8, 14] [] (.ite (.tmp 14) (.seq (.reg [
        .op (some 2) none (.mv (.const (.bool false)))])
      (.keep [2] [] (.ret)))
      (.skip)))))) 15)))
  (.keep [] [] (.seq (.reg [
    .op (some 2) none (.mv (.const (.bool true)))])
  (.keep [2] [] (.ret))))))
def rs_r01_Valid : List CRes := [.tmp 2]
def im_r01_Valid : List Nat := []
theorem ok_r01_Valid : FnOk Try.prog f_r01_Valid im_r01_Valid cc_r01_Valid rs_r01_Valid 16 := fnOk1 mixed (by kernel_rfl)
-- r05_Parse while id=0: live [0:s, 5:n, 6:l, 7:from, 8:i] changed [6, 7, 8] res [49]
-- r05_Parse while id=0: live [6:l, 9:i] changed [9] res [49]
/-- corpora/corporaref05.Parse [string] -> [L_string, Errno] -/
def cc_r05_Parse : CC :=
  .seq (.reg [
    .op (some 2) none (.mv (.const (.slice none 0 0))),
    .op (some 3) none (.mv (.const (.int .i64 0)))])
  (.keep [0] [] (.seq (.seq (.reg [
    .op (some 10) none (.mv (.tmp 0)),
    .op (some 11) none (.call f_r04_ValidValue [(.tmp 10)]),
    .op (some 4) none (.mv (.tmp 11))])
  (.keep [0, 4] [] (.seq (.reg [
    .op (some 12) none (.mv (.tmp 4)),
    .op (some 13) none (.eql true false [.int] (.tmp 12) (.const (.int .i64 0)))])
  (.keep [0, 4, 13] [] (.ite (.tmp 13) (.seq (.reg [
      .op (some 14) none (.mv (.tmp 4)),
      .op (some 2) none (.mv (.const (.slice none 0 0))),
      .op (some 3) none (.mv (.tmp 14))])
    (.keep [2, 3] [49] (.ret)))
    (.skip))))))
  (.keep [0] [] (.seq (.reg [
    .op (some 15) none (.mv (.tmp 0)),
    .op (some 16) none (.slen (.tmp 15)),
    .op (some 5) none (.mv (.tmp 16))])
  (.keep [0, 5] [] (.seq /- 6 -/ (.seq (.reg [
    .op (some 17) none (.mv (.tmp 5)),
    .op (some 18) none (.eql false false [.int] (.tmp 17) (.const (.int .i64 0))),
    .op (some 19) none (.mv (.tmp 18)),
    .op (some 20) (some (19, false)) (.mv (.tmp 0)),
    .op (some 21) (some (19, false)) (.sidx (.tmp 20) (.const (.int .i64 0))),
    .op (some 22) (some (19, false)) (.eql true false [.int] (.tmp 21) (.const (.int .u8 124))),
    .op (some 23) none (.pick (.tmp 19) (.const (.bool true)) (.tmp 22)),
    .op (some 24) none (.mv (.tmp 23)),
    .op (some 25) (some (24, false)) (.mv (.tmp 0)),
    .op (some 26) (some (24, false)) (.mv (.tmp 5)),
    .op (some 27) (some (24, false)) (.arith .sub (.tmp 26) (.const (.int .i64 1))),
    .op (some 28) (some (24, false)) (.sidx (.tmp 25) (.tmp 27)),
    .op (some 29) (some (24, false)) (.eql true false [.int] (.tmp 28) (.const (.int .u8 124))),
    .op (some 30) none (.pick (.tmp 24) (.const (.bool true)) (.tmp 29))])
  (.keep [0, 5, 30] [] (.ite (.tmp 30) (.seq (.reg [
      .op (some 2) none (.mv (.const (.slice none 0 0))),
      .op (some 3) none (.mv (.const (.int .i64 3)))])
    (.keep [2, 3] [49] (.ret)))
    (.skip))))
  (.keep [0, 5] [] (.seq (.reg [
    .op (some 6) none (.mv (.const (.slice none 0 0)))])
  (.keep [0, 5, 6] [49] (.seq (.reg [
    .op (some 7) none (.mv (.const (.int .i64 1)))])
  (.keep [0, 5, 6, 7] [49] (.seq /- 11 -/ (.seq (.reg [
    .op (some 8) none (.mv (.const (.int .i64 1)))])
  (.keep [0, 5, 6, 7, 8] [49] (.block 0 (.loop 1 (.seq /- 13 -/ (.seq (.reg [
        .op (some 31) none (.mv (.tmp 8)),
        .op (some 32) none (.mv (.tmp 5)),
        .op (some 33) none (.cmp .lss (.tmp 31) (.tmp 32))])
      (.keep [0, 5, 6, 7, 8, 33] [49] (.ite (.tmp 33) (.skip)
        (.exit 0))))
      (.keep [0, 5, 6, 7, 8] [49] (.seq /- 15 -/ (.block 1 (.seq /- 16 -/ (.seq (.reg [
          .op (some 36) none (.mv (.tmp 0)),
          .op (some 37) none (.mv (.tmp 8)),
          .op (some 38) none (.sidx (.tmp 36) (.tmp 37)),
          .op (some 39) none (.eql true false [.int] (.tmp 38) (.const (.int .u8 124)))])
        (.keep [0, 5, 6, 7, 8, 39] [49] (.ite (.tmp 39) (.exit 1)
          (.skip))))
        (.keep [0, 5, 6, 7, 8] [49] (.seq /- 18 -/ (.seq (.reg [
          .op (some 40) none (.mv (.tmp 8)),
          .op (some 41) none (.mv (.tmp 7)),
          .op (some 42) none (.eql false false [.int] (.tmp 40) (.tmp 41))])
        (.keep [0, 5, 6, 7, 8, 42] [49] (.ite (.tmp 42) (.seq (.reg [
            .op (some 2) none (.mv (.const (.slice none 0 0))),
            .op (some 3) none (.mv (.const (.int .i64 3)))])
          (.keep [2, 3] [49] (.ret)))
          (.skip))))
        (.keep [0, 5, 6, 7, 8] [49] (.seq (.reg [
          .op (some 43) none (.mv (.tmp 6)),
          .op (some 44) none (.mv (.tmp 0)),
          .op (some 45) none (.mv (.tmp 7)),
          .op (some 46) none (.mv (.tmp 8)),
          .op (some 47) none (.sslice (.tmp 44) (some (.tmp 45)) (some (.tmp 46))),
          .op (some 48) none (.bslice ty_string 1 [(.tmp 47)]),
          .op (some 49) none (.append none ty_string 1 16 (.tmp 43) (.tmp 48)),
          .op (some 6) none (.mv (.tmp 49))])
        (.keep [0, 5, 6, 8] [49] (.reg [
          .op (some 50) none (.mv (.tmp 8)),
          .op (some 51) none (.arith .add (.tmp 50) (.const (.int .i64 1))),
          .op (some 7) none (.mv (.tmp 51))]))))))))
      (.keep [0, 5, 6, 7, 8] [49] (.reg [
        .op (some 34) none (.mv (.tmp 8)),
        .op (some 35) none (.arith .add (.tmp 34) (.const (.int .i64 1))),
        .op (some 8) none (.mv (.tmp 35))])))))))))
  (.keep [6] [49] (.seq /- 22 -/ (.seq (.reg [
    .op (some 9) none (.mv (.const (.int .i64 1)))])
  (.keep [6, 9] [49] (.block 2 (.loop 2 (.seq /- 24 -/ (.seq (.reg [
        .op (some 52) none (.mv (.tmp 9)),
        .op (some 53) none (.mv (.tmp 6)),
        .op (some 54) none (.len (.tmp 53)),
        .op (some 55) none (.cmp .lss (.tmp 52) (.tmp 54))])
      (.keep [6, 9, 55] [49] (.ite (.tmp 55) (.skip)
        (.exit 2))))
      (.keep [6, 9] [49] (.seq /- 26 -/ (.block 3 (.seq (.regd [
          .op (some 58) none (.mv (.tmp 6)),
          .op (some 59) none (.mv (.tmp 9)),
          .op (some 60) none (.arith .sub (.tmp 59) (.const (.int .i64 1))),
          .op (some 61) none (.iaddr 1 (.tmp 58) (.tmp 60)),
          .op (some 62) none (.load false 1 (.tmp 61)),
          .op (some 63) none (.mv (.tmp 6)),
          .op (some 64) none (.mv (.tmp 9)),
          .op (some 65) none (.iaddr 1 (.tmp 63) (.tmp 64)),
          .op (some 66) none (.load false 1 (.tmp 65))] [
          .op (some 67) none (.cmp .geq (.tmp 62) (.tmp 66))])
        (.keep [6, 9, 67] [49] (.ite (.tmp 67) (.seq (.reg [
            .op (some 2) none (.mv (.const (.slice none 0 0))),
            .op (some 3) none (.mv (.const (.int .i64 6)))])
          (.keep [2, 3] [49] (.ret)))
          (.skip)))))
      (.keep [6, 9] [49] (.reg [
        .op (some 56) none (.mv (.tmp 9)),
        .op (some 57) none (.arith .add (.tmp 56) (.const (.int .i64 1))),
        .op (some 9) none (.mv (.tmp 57))])))))))))
  (.keep [6] [49] (.seq (.reg [
    .op (some 68) none (.mv (.tmp 6)),
    .op (some 2) none (.mv (.tmp 68)),
    .op (some 3) none (.mv (.const (.int .i64 0)))])
  (.keep [2, 3] [49] (.ret))))))))))))))))))
def rs_r05_Parse : List CRes := [.tmp 2, .tmp 3]
def im_r05_Parse : List Nat := []
theorem ok_r05_Parse : FnOk Try.prog f_r05_Parse im_r05_Parse cc_r05_Parse rs_r05_Parse 69 := fnOk1 mixed (by kernel_rfl)
/-- corpora/corporaref06.sign [bool] -> [int] -/
def cc_r06_sign : CC :=
  .seq (.reg [
    .op (some 2) none (.mv (.const (.int .i64 0)))])
  (.keep [0] [] (.seq /- 1 -/ (.seq (.reg [
    .op (some 3) none (.mv (.tmp 0))])
  (.keep [3] [] (.ite (.tmp 3) (.seq (.reg [
      .op (some 2) none (.mv (.const (.int .i64 (-1))))])
    (.keep [2] [] (.ret)))
    (.skip))))
  (.keep [] [] (.seq (.reg [
    .op (some 2) none (.mv (.const (.int .i64 1)))])
  (.keep [2] [] (.ret))))))
def rs_r06_sign : List CRes := [.tmp 2]
def im_r06_sign : List Nat := []
theorem ok_r06_sign : FnOk Try.prog f_r06_sign im_r06_sign cc_r06_sign rs_r06_sign 4 := fnOk1 mixed (by kernel_rfl)
/-- corpora/corporaref06.compare [string, string] -> [int] -/
def cc_r06_compare : CC :=
  .seq (.reg [
    .op (some 4) none (.mv (.const (.int .i64 0)))])
  (.keep [0, 1] [] (.seq /- 1 -/ (.block 0 (.seq (.reg [
      .op (some 6) none (.mv (.tmp 0)),
      .op (some 7) none (.mv (.tmp 1)),
      .op (some 8) none (.cmp .lss (.tmp 6) (.tmp 7)),
      .op (some 5) none (.mv (.tmp 8))])
    (.keep [0, 1, 5] [] (.ite (.tmp 5) (.seq (.reg [
        .op (some 4) none (.mv (.const (.int .i64 (-1))))])
      (.keep [4] [] (.ret)))
      (.seq (.reg [
        .op (some 10) none (.mv (.tmp 0)),
        .op (some 11) none (.mv (.tmp 1)),
        .op (some 12) none (.cmp .gtr (.tmp 10) (.tmp 11)),
        .op (some 9) none (.mv (.tmp 12))])
      (.keep [9] [] (.ite (.tmp 9) (.seq (.reg [
          .op (some 4) none (.mv (.const (.int .i64 1)))])
        (.keep [4] [] (.ret)))
        (.skip))))))))
  (.keep [] [] (.seq (.reg [
    .op (some 4) none (.mv (.const (.int .i64 0)))])
  (.keep [4] [] (.ret))))))
def rs_r06_compare : List CRes := [.tmp 4]
def im_r06_compare : List Nat := []
theorem ok_r06_compare : FnOk Try.prog f_r06_compare im_r06_compare cc_r06_compare rs_r06_compare 13 := fnOk1 mixed (by kernel_rfl)
-- r06_CompareRegions while id=0: live [2:a, 3:b, 5:i] changed [5] res []
/-- corpora/corporaref06.CompareRegions [Region, Region] -> [int] -/
def cc_r06_CompareRegions : CC :=
  .seq (.reg [
    .op (some 2) none (.box ty_Region true (.tmp 0)),
    .op (some 3) none (.box ty_Region true (.tmp 1)),
    .op (some 4) none (.mv (.const (.int .i64 0)))])
  (.keep [2, 3] [] (.seq /- 1 -/ (.block 0 (.seq (.reg [
      .op (some 7) none (.faddr 1 (.tmp 2)),
      .op (some 8) none (.load false 1 (.tmp 7)),
      .op (some 9) none (.faddr 1 (.tmp 3)),
      .op (some 10) none (.load false 1 (.tmp 9)),
      .op (some 11) none (.eql true false [.int] (.tmp 8) (.tmp 10)),
      .op (some 6) none (.mv (.tmp 11))])
    (.keep [2, 3, 6] [] (.ite (.tmp 6) (.seq (.reg [
        .op (some 12) none (.faddr 1 (.tmp 2)),
        .op (some 13) none (.load false 1 (.tmp 12)),
        .op (some 14) none (.faddr 1 (.tmp 3)),
        .op (some 15) none (.load false 1 (.tmp 14)),
        .op (some 16) none (.cmp .lss (.tmp 13) (.tmp 15)),
        .op (some 17) none (.call f_r06_sign [(.tmp 16)]),
        .op (some 4) none (.mv (.tmp 17))])
      (.keep [4] [] (.ret)))
      (.seq (.reg [
        .op (some 19) none (.faddr 2 (.tmp 2)),
        .op (some 20) none (.load false 1 (.tmp 19)),
        .op (some 21) none (.faddr 2 (.tmp 3)),
        .op (some 22) none (.load false 1 (.tmp 21)),
        .op (some 23) none (.eql true false [.int] (.tmp 20) (.tmp 22)),
        .op (some 18) none (.mv (.tmp 23))])
      (.keep [2, 3, 18] [] (.ite (.tmp 18) (.seq (.reg [
          .op (some 24) none (.faddr 2 (.tmp 2)),
          .op (some 25) none (.load false 1 (.tmp 24)),
          .op (some 26) none (.faddr 2 (.tmp 3)),
          .op (some 27) none (.load false 1 (.tmp 26)),
          .op (some 28) none (.cmp .gtr (.tmp 25) (.tmp 27)),
          .op (some 29) none (.call f_r06_sign [(.tmp 28)]),
          .op (some 4) none (.mv (.tmp 29))])
        (.keep [4] [] (.ret)))
        (.seq (.reg [
          .op (some 31) none (.faddr 0 (.tmp 2)),
          .op (some 32) none (.load false 1 (.tmp 31)),
          .op (some 33) none (.faddr 0 (.tmp 3)),
          .op (some 34) none (.load false 1 (.tmp 33)),
          .op (some 35) none (.eql true false [.str] (.tmp 32) (.tmp 34)),
          .op (some 30) none (.mv (.tmp 35))])
        (.keep [2, 3, 30] [] (.ite (.tmp 30) (.seq (.reg [
            .op (some 36) none (.faddr 0 (.tmp 2)),
            .op (some 37) none (.load false 1 (.tmp 36)),
            .op (some 38) none (.faddr 0 (.tmp 3)),
            .op (some 39) none (.load false 1 (.tmp 38)),
            .op (some 40) none (.call f_r06_compare [(.tmp 37), (.tmp 39)]),
            .op (some 4) none (.mv (.tmp 40))])
          (.keep [4] [] (.ret)))
          (.skip)))))))))))
  (.keep [2, 3] [] (.seq /- 8 -/ (.seq (.reg [
    .op (some 5) none (.mv (.const (.int .i64 0)))])
  (.keep [2, 3, 5] [] (.block 1 (.loop 1 (.seq /- 10 -/ (.seq (.reg [
        .op (some 41) none (.mv (.tmp 5)),
        .op (some 42) none (.faddr 3 (.tmp 2)),
        .op (some 43) none (.load false 1 (.tmp 42)),
        .op (some 44) none (.len (.tmp 43)),
        .op (some 45) none (.cmp .lss (.tmp 41) (.tmp 44)),
        .op (some 46) none (.mv (.tmp 45)),
        .op (some 47) (some (46, true)) (.mv (.tmp 5)),
        .op (some 48) (some (46, true)) (.faddr 3 (.tmp 3)),
        .op (some 49) (some (46, true)) (.load false 1 (.tmp 48)),
        .op (some 50) (some (46, true)) (.len (.tmp 49)),
        .op (some 51) (some (46, true)) (.cmp .lss (.tmp 47) (.tmp 50)),
        .op (some 52) none (.pick (.tmp 46) (.tmp 51) (.const (.bool false)))])
      (.keep [2, 3, 5, 52] [] (.ite (.tmp 52) (.skip)
        (.exit 1))))
      (.keep [2, 3, 5] [] (.seq /- 12 -/ (.block 2 (.seq /- 13 -/ (.seq (.regd [
          .op (some 55) none (.faddr 3 (.tmp 2)),
          .op (some 56) none (.load false 1 (.tmp 55)),
          .op (some 57) none (.mv (.tmp 5)),
          .op (some 58) none (.iaddr 2 (.tmp 56) (.tmp 57)),
          .op (some 59) none (.faddr 0 (.tmp 58)),
          .op (some 60) none (.load false 1 (.tmp 59)),
          .op (some 61) none (.faddr 3 (.tmp 3)),
          .op (some 62) none (.load false 1 (.tmp 61)),
          .op (some 63) none (.mv (.tmp 5)),
          .op (some 64) none (.iaddr 2 (.tmp 62) (.tmp 63)),
          .op (some 65) none (.faddr 0 (.tmp 64)),
          .op (some 66) none (.load false 1 (.tmp 65))] [
          .op (some 67) none (.eql true false [.str] (.tmp 60) (.tmp 66))])
        (.keep [2, 3, 5, 67] [] (.ite (.tmp 67) (.seq (.regd [
            .op (some 68) none (.faddr 3 (.tmp 2)),
            .op (some 69) none (.load false 1 (.tmp 68)),
            .op (some 70) none (.mv (.tmp 5)),
            .op (some 71) none (.iaddr 2 (.tmp 69) (.tmp 70)),
            .op (some 72) none (.faddr 0 (.tmp 71)),
            .op (some 73) none (.load false 1 (.tmp 72)),
            .op (some 74) none (.faddr 3 (.tmp 3)),
            .op (some 75) none (.load false 1 (.tmp 74)),
            .op (some 76) none (.mv (.tmp 5)),
            .op (some 77) none (.iaddr 2 (.tmp 75) (.tmp 76)),
            .op (some 78) none (.faddr 0 (.tmp 77)),
            .op (some 79) none (.load false 1 (.tmp 78))] [
            .op (some 80) none (.call f_r06_compare [(.tmp 73), (.tmp 79)]),
            .op (some 4) none (.mv (.tmp 80))])
          (.keep [4] [] (.ret)))
          (.skip))))
        (.keep [2, 3, 5] [] (.seq (.regd [
          .op (some 81) none (.faddr 3 (.tmp 2)),
          .op (some 82) none (.load false 1 (.tmp 81)),
          .op (some 83) none (.mv (.tmp 5)),
          .op (some 84) none (.iaddr 2 (.tmp 82) (.tmp 83)),
          .op (some 85) none (.faddr 1 (.tmp 84)),
          .op (some 86) none (.load false 1 (.tmp 85)),
          .op (some 87) none (.faddr 3 (.tmp 3)),
          .op (some 88) none (.load false 1 (.tmp 87)),
          .op (some 89) none (.mv (.tmp 5)),
          .op (some 90) none (.iaddr 2 (.tmp 88) (.tmp 89)),
          .op (some 91) none (.faddr 1 (.tmp 90)),
          .op (some 92) none (.load false 1 (.tmp 91))] [
          .op (some 93) none (.eql true false [.str] (.tmp 86) (.tmp 92))])
        (.keep [2, 3, 5, 93] [] (.ite (.tmp 93) (.seq (.regd [
            .op (some 94) none (.faddr 3 (.tmp 2)),
            .op (some 95) none (.load false 1 (.tmp 94)),
            .op (some 96) none (.mv (.tmp 5)),
            .op (some 97) none (.iaddr 2 (.tmp 95) (.tmp 96)),
            .op (some 98) none (.faddr 1 (.tmp 97)),
            .op (some 99) none (.load false 1 (.tmp 98)),
            .op (some 100) none (.faddr 3 (.tmp 3)),
            .op (some 101) none (.load false 1 (.tmp 100)),
            .op (some 102) none (.mv (.tmp 5)),
            .op (some 103) none (.iaddr 2 (.tmp 101) (.tmp 102)),
            .op (some 104) none (.faddr 1 (.tmp 103)),
            .op (some 105) none (.load false 1 (.tmp 104))] [
            .op (some 106) none (.call f_r06_compare [(.tmp 99), (.tmp 105)]),
            .op (some 4) none (.mv (.tmp 106))])
          (.keep [4] [] (.ret)))
          (.skip)))))))
      (.keep [2, 3, 5] [] (.reg [
        .op (some 53) none (.mv (.tmp 5)),
        .op (some 54) none (.arith .add (.tmp 53) (.const (.int .i64 1))),
        .op (some 5) none (.mv (.tmp 54))])))))))))
  (.keep [2, 3] [] (.seq /- 18 -/ (.seq (.reg [
    .op (some 107) none (.faddr 3 (.tmp 2)),
    .op (some 108) none (.load false 1 (.tmp 107)),
    .op (some 109) none (.len (.tmp 108)),
    .op (some 110) none (.faddr 3 (.tmp 3)),
    .op (some 111) none (.load false 1 (.tmp 110)),
    .op (some 112) none (.len (.tmp 111)),
    .op (some 113) none (.eql true false [.int] (.tmp 109) (.tmp 112))])
  (.keep [2, 3, 113] [] (.ite (.tmp 113) (.seq (.reg [
      .op (some 114) none (.faddr 3 (.tmp 2)),
      .op (some 115) none (.load false 1 (.tmp 114)),
      .op (some 116) none (.len (.tmp 115)),
      .op (some 117) none (.faddr 3 (.tmp 3)),
      .op (some 118) none (.load false 1 (.tmp 117)),
      .op (some 119) none (.len (.tmp 118)),
      .op (some 120) none (.cmp .lss (.tmp 116) (.tmp 119)),
      .op (some 121) none (.call f_r06_sign [(.tmp 120)]),
      .op (some 4) none (.mv (.tmp 121))])
    (.keep [4] [] (.ret)))
    (.skip))))
  (.keep [] [] (.seq (.reg [
    .op (some 4) none (.mv (.const (.int .i64 0)))])
  (.keep [4] [] (.ret))))))))))
def rs_r06_CompareRegions : List CRes := [.tmp 4]
def im_r06_CompareRegions : List Nat := [2, 3]
theorem ok_r06_CompareRegions : FnOk Try.prog f_r06_CompareRegions im_r06_CompareRegions cc_r06_CompareRegions rs_r06_CompareRegions 122 := fnOk1 mixed (by kernel_rfl)
-- r06_SortRegions range i=9 n=8 c=10 i2=45 id=0: live [3:m, 7:] changed [3] res [32]
-- r06_SortRegions while id=0: live [3:m, 5:x, 6:k, 7:, 8:, 9:] changed [6] res [5, 32]
/-- corpora/corporaref06.SortRegions [L_Region] -> [L_Region] -/
def cc_r06_SortRegions : CC :=
  .seq (.reg [
    .op (some 2) none (.mv (.const (.slice none 0 0)))])
  (.keep [0] [] (.seq (.reg [
    .op (some 3) none (.mv (.const (.slice none 0 0)))])
  (.keep [0, 3] [32] (.seq /- 2 -/ (.seq (.reg [
    .op (some 7) none (.mv (.tmp 0)),
    .op (some 8) none (.len (.tmp 7)),
    .op (some 9) none (.mv (.const (.int .i64 0)))])
  (.keep [3, 7, 8, 9] [32] (rangeCC 0 9 8 10 1 (.seq (.reg [
      .op (some 11) none (.iaddr 4 (.tmp 7) (.tmp 9)),
      .op (some 12) none (.load true 4 (.tmp 11)),
      .op (some 5) none (.alloc ty_Region [(.string ⟨#[]⟩), (.int .i64 0), (.int .i64 0), (.slice none 0 0)]),
      .op none none (.store none 4 (.tmp 5) (.tmp 12))])
    (.keep [3, 5, 7, 8, 9] [5, 32] (.seq (.reg [
      .op (some 13) none (.mv (.tmp 3)),
      .op (some 14) none (.len (.tmp 13)),
      .op (some 6) none (.mv (.tmp 14))])
    (.keep [3, 5, 6, 7, 8, 9] [5, 32] (seqM 6 (.block 2 (.loop 1 (.seq /- 7 -/ (.seq (.regd [
          .op (some 15) none (.mv (.tmp 6)),
          .op (some 16) none (.cmp .gtr (.tmp 15) (.const (.int .i64 0))),
          .op (some 17) none (.mv (.tmp 16)),
          .op (some 18) (some (17, true)) (.mv (.tmp 3)),
          .op (some 19) (some (17, true)) (.mv (.tmp 6)),
          .op (some 20) (some (17, true)) (.arith .sub (.tmp 19) (.const (.int .i64 1))),
          .op (some 21) (some (17, true)) (.iaddr 4 (.tmp 18) (.tmp 20)),
          .op (some 22) (some (17, true)) (.load true 4 (.tmp 21)),
          .op (some 23) (some (17, true)) (.load true 4 (.tmp 5))] [
          .op (some 24) (some (17, true)) (.call f_r06_CompareRegions [(.tmp 22), (.tmp 23)]),
          .op (some 25) (some (17, true)) (.cmp .gtr (.tmp 24) (.const (.int .i64 0))),
          .op (some 26) none (.pick (.tmp 17) (.tmp 25) (.const (.bool false)))])
        (.keep [3, 5, 6, 7, 8, 9, 26] [5, 32] (.ite (.tmp 26) (.skip)
          (.exit 2))))
        (.keep [3, 5, 6, 7, 8, 9] [5, 32] (.block 3 (.reg [
            .op (some 27) none (.mv (.tmp 6)),
            .op (some 28) none (.arith .sub (.tmp 27) (.const (.int .i64 1))),
            .op (some 6) none (.mv (.tmp 28))]))))))
    (.keep [3, 5, 6, 7, 8, 9] [5, 32] (.seq (.reg [
      .op (some 29) none (.mv (.tmp 3)),
      .op (some 30) none (.build [(.string ⟨#[]⟩), (.int .i64 0), (.int .i64 0), (.slice none 0 0)] []),
      .op (some 31) none (.bslice ty_Region 4 [(.tmp 30)]),
      .op (some 32) none (.append none ty_Region 4 56 (.tmp 29) (.tmp 31)),
      .op (some 3) none (.mv (.tmp 32))])
    (.keep [3, 5, 6, 7, 8, 9] [5, 32] (.seq (.regd [
      .op (some 33) none (.mv (.tmp 3)),
      .op (some 34) none (.mv (.tmp 6)),
      .op (some 35) none (.arith .add (.tmp 34) (.const (.int .i64 1))),
      .op (some 36) none (.slice 4 (.tmp 33) (some (.tmp 35)) none),
      .op (some 37) none (.mv (.tmp 3)),
      .op (some 38) none (.mv (.tmp 6)),
      .op (some 39) none (.slice 4 (.tmp 37) (some (.tmp 38)) none)] [
      .op (some 40) none (.copy 4 (.tmp 36) (.tmp 39))])
    (.keep [3, 5, 6, 7, 8, 9] [5, 32] (.reg [
      .op (some 41) none (.mv (.tmp 3)),
      .op (some 42) none (.mv (.tmp 6)),
      .op (some 43) none (.load true 4 (.tmp 5)),
      .op (some 44) none (.iaddr 4 (.tmp 41) (.tmp 42)),
      .op none none (.store none 4 (.tmp 44) (.tmp 43))]))))))))))) 45)))
  (.keep [3] [32] (.seq (.reg [
    .op (some 46) none (.mv (.tmp 3)),
    .op (some 2) none (.mv (.tmp 46))])
  (.keep [2] [32] (.ret))))))))
def rs_r06_SortRegions : List CRes := [.tmp 2]
def im_r06_SortRegions : List Nat := []
theorem ok_r06_SortRegions : FnOk Try.prog f_r06_SortRegions im_r06_SortRegions cc_r06_SortRegions rs_r06_SortRegions 47 := fnOk1 mixed (by kernel_rfl)
/-- corpora/corporaref06.Value [Attribute, string] -> [Errno] -/
def cc_r06_Value : CC :=
  .seq (.reg [
    .op (some 2) none (.box ty_Attribute true (.tmp 0)),
    .op (some 4) none (.mv (.const (.int .i64 0)))])
  (.keep [1, 2] [] (.seq /- 1 -/ (.seq (.reg [
    .op (some 7) none (.faddr 1 (.tmp 2)),
    .op (some 8) none (.load false 1 (.tmp 7))])
  (.keep [1, 8] [] (.ite (.tmp 8) (.seq (.reg [
      .op (some 10) none (.mv (.tmp 1)),
      .op (some 11) none (.call f_r05_Parse [(.tmp 10)]),
      .op (some 9) none (.mv (.tmp 11)),
      .op (some 12) none (.ext (.tmp 9) 0),
      .op (some 13) none (.ext (.tmp 9) 1),
      .op (some 5) none (.mv (.tmp 12)),
      .op (some 6) none (.mv (.tmp 13))])
    (.keep [6] [] (.seq (.reg [
      .op (some 14) none (.mv (.tmp 6)),
      .op (some 4) none (.mv (.tmp 14))])
    (.keep [4] [] (.ret)))))
    (.skip))))
  (.keep [1] [] (.seq (.reg [
    .op (some 15) none (.mv (.tmp 1)),
    .op (some 16) none (.call f_r04_ValidValue [(.tmp 15)]),
    .op (some 4) none (.mv (.tmp 16))])
  (.keep [4] [] (.ret))))))
def rs_r06_Value : List CRes := [.tmp 4]
def im_r06_Value : List Nat := [2]
theorem ok_r06_Value : FnOk Try.prog f_r06_Value im_r06_Value cc_r06_Value rs_r06_Value 17 := fnOk1 mixed (by kernel_rfl)
-- r06_pairs range i=11 n=10 c=12 i2=41 id=0: live [0:l, 9:] changed [] res []
/-- corpora/corporaref06.pairs [L_Pair] -> [Errno] -/
def cc_r06_pairs : CC :=
  .seq (.reg [
    .op (some 2) none (.mv (.const (.int .i64 0)))])
  (.keep [0] [] (.seq /- 1 -/ (.seq (.reg [
    .op (some 6) none (.mv (.tmp 0)),
    .op (some 7) none (.len (.tmp 6)),
    .op (some 8) none (.cmp .gtr (.tmp 7) (.const (.int .i64 8)))])
  (.keep [0, 8] [] (.ite (.tmp 8) (.seq (.reg [
      .op (some 2) none (.mv (.const (.int .i64 2)))])
    (.keep [2] [] (.ret)))
    (.skip))))
  (.keep [0] [] (.seq /- 4 -/ (.seq (.reg [
    .op (some 9) none (.mv (.tmp 0)),
    .op (some 10) none (.len (.tmp 9)),
    .op (some 11) none (.mv (.const (.int .i64 0)))])
  (.keep [0, 9, 10, 11] [] (rangeCC 0 11 10 12 1 (.seq (.reg [
      .op (some 13) none (.mv (.tmp 11)),
      .op (some 14) none (.iaddr 2 (.tmp 9) (.tmp 11)),
      .op (some 15) none (.load true 2 (.tmp 14)),
      .op (some 4) none (.alloc ty_Pair [(.string ⟨#[]⟩), (.string ⟨#[]⟩)]),
      .op (some 3) none (.mv (.tmp 13)),
      .op none none (.store none 2 (.tmp 4) (.tmp 15))])
    (.keep [0, 3, 4, 9, 10, 11] [4] (.seq /- 7 -/ (.block 2 (.seq (.reg [
        .op (some 17) none (.faddr 0 (.tmp 4)),
        .op (some 18) none (.load false 1 (.tmp 17)),
        .op (some 19) none (.call f_r04_ValidName [(.tmp 18)]),
        .op (some 20) none (.not (.tmp 19)),
        .op (some 16) none (.mv (.tmp 20))])
      (.keep [0, 3, 4, 9, 10, 11, 16] [4] (.ite (.tmp 16) (.seq (.reg [
          .op (some 2) none (.mv (.const (.int .i64 4)))])
        (.keep [2] [] (.ret)))
        (.seq (.regd [
          .op (some 22) none (.mv (.tmp 3)),
          .op (some 23) none (.cmp .gtr (.tmp 22) (.const (.int .i64 0))),
          .op (some 24) none (.mv (.tmp 23)),
          .op (some 25) (some (24, true)) (.mv (.tmp 0)),
          .op (some 26) (some (24, true)) (.mv (.tmp 3)),
          .op (some 27) (some (24, true)) (.arith .sub (.tmp 26) (.const (.int .i64 1))),
          .op (some 28) (some (24, true)) (.iaddr 2 (.tmp 25) (.tmp 27)),
          .op (some 29) (some (24, true)) (.faddr 0 (.tmp 28)),
          .op (some 30) (some (24, true)) (.load false 1 (.tmp 29)),
          .op (some 31) (some (24, true)) (.faddr 0 (.tmp 4)),
          .op (some 32) (some (24, true)) (.load false 1 (.tmp 31))] [
          .op (some 33) (some (24, true)) (.cmp .geq (.tmp 30) (.tmp 32)),
          .op (some 34) none (.pick (.tmp 24) (.tmp 33) (.const (.bool false))),
          .op (some 21) none (.mv (.tmp 34))])
        (.keep [0, 4, 9, 10, 11, 21] [4] (.ite (.tmp 21) (.seq (.reg [
            .op (some 2) none (.mv (.const (.int .i64 6)))])
          (.keep [2] [] (.ret)))
          (.skip))))))))
    (.keep [0, 4, 9, 10, 11] [4] (.seq (.reg [
      .op (some 35) none (.faddr 1 (.tmp 4)),
      .op (some 36) none (.load false 1 (.tmp 35)),
      .op (some 37) none (.call f_r04_ValidValue [(.tmp 36)]),
      .op (some 5) none (.mv (.tmp 37))])
    (.keep [0, 5, 9, 10, 11] [] (.seq (.reg [
      .op (some 38) none (.mv (.tmp 5)),
      .op (some 39) none (.eql true false [.int] (.tmp 38) (.const (.int .i64 0)))])
    (.keep [0, 5, 9, 10, 11, 39] [] (.ite (.tmp 39) (.seq (.reg [
        .op (some 40) none (.mv (.tmp 5)),
        .op (some 2) none (.mv (.tmp 40))])
      (.keep [2] [] (.ret)))
      (.skip)))))))))) 41)))
  (.keep [] [] (.seq (.reg [
    .op (some 2) none (.mv (.const (.int .i64 0)))])
  (.keep [2] [] (.ret))))))))
def rs_r06_pairs : List CRes := [.tmp 2]
def im_r06_pairs : List Nat := []
theorem ok_r06_pairs : FnOk Try.prog f_r06_pairs im_r06_pairs cc_r06_pairs rs_r06_pairs 42 := fnOk1 mixed (by kernel_rfl)
-- r06_within range i=12 n=11 c=13 i2=31 id=0: live [1:begin, 2:end, 10:] changed [] res []
/-- corpora/corporaref06.within [Corpus, int, int] -> [bool] -/
def cc_r06_within : CC :=
  .seq (.reg [
    .op (some 3) none (.box ty_Corpus true (.tmp 0)),
    .op (some 6) none (.mv (.const (.bool false)))])
  (.keep [1, 2, 3] [] (.seq /- 1 -/ (.seq (.reg [
    .op (some 9) none (.faddr 2 (.tmp 3)),
    .op (some 10) none (.load false 1 (.tmp 9)),
    .op (some 11) none (.len (.tmp 10)),
    .op (some 12) none (.mv (.const (.int .i64 0)))])
  (.keep [1, 2, 10, 11, 12] [] (rangeCC 0 12 11 13 1 (.seq (.reg [
      .op (some 14) none (.iaddr 4 (.tmp 10) (.tmp 12)),
      .op (some 15) none (.load true 4 (.tmp 14)),
      .op (some 8) none (.alloc ty_Text [(.string ⟨#[]⟩), (.int .i64 0), (.int .i64 0), (.slice none 0 0)]),
      .op none none (.store none 4 (.tmp 8) (.tmp 15))])
    (.keep [1, 2, 8, 10, 11, 12] [8] (.seq (.reg [
      .op (some 16) none (.faddr 1 (.tmp 8)),
      .op (some 17) none (.load false 1 (.tmp 16)),
      .op (some 18) none (.mv (.tmp 1)),
      .op (some 19) none (.cmp .leq (.tmp 17) (.tmp 18)),
      .op (some 20) none (.mv (.tmp 19)),
      .op (some 21) (some (20, true)) (.mv (.tmp 1)),
      .op (some 22) (some (20, true)) (.mv (.tmp 2)),
      .op (some 23) (some (20, true)) (.cmp .lss (.tmp 21) (.tmp 22)),
      .op (some 24) none (.pick (.tmp 20) (.tmp 23) (.const (.bool false))),
      .op (some 25) none (.mv (.tmp 24)),
      .op (some 26) (some (25, true)) (.mv (.tmp 2)),
      .op (some 27) (some (25, true)) (.faddr 2 (.tmp 8)),
      .op (some 28) (some (25, true)) (.load false 1 (.tmp 27)),
      .op (some 29) (some (25, true)) (.cmp .leq (.tmp 26) (.tmp 28)),
      .op (some 30) none (.pick (.tmp 25) (.tmp 29) (.const (.bool false)))])
    (.keep [1, 2, 10, 11, 12, 30] [] (.ite (.tmp 30) (.seq (.reg [
        .op (some 6) none (.mv (.const (.bool true)))])
      (.keep [6] [] (.ret)))
      (.skip)))))) 31)))
  (.keep [] [] (.seq (.reg [
    .op (some 6) none (.mv (.const (.bool false)))])
  (.keep [6] [] (.ret))))))
def rs_r06_within : List CRes := [.tmp 6]
def im_r06_within : List Nat := [3]
theorem ok_r06_within : FnOk Try.prog f_r06_within im_r06_within cc_r06_within rs_r06_within 32 := fnOk1 mixed (by kernel_rfl)
-- r06_bare range i=8 n=7 c=9 i2=23 id=0: live [0:heads, 1:relations] changed [] res []
/-- corpora/corporaref06.bare [L_int, L_string] -> [bool] -/
def cc_r06_bare : CC :=
  .seq (.reg [
    .op (some 4) none (.mv (.const (.bool false)))])
  (.keep [0, 1] [] (.seq /- 1 -/ (.seq (.reg [
    .op (some 6) none (.mv (.tmp 0)),
    .op (some 7) none (.len (.tmp 6)),
    .op (some 8) none (.mv (.const (.int .i64 0)))])
  (.keep [0, 1, 7, 8] [] (rangeCC 0 8 7 9 1 (.seq (.reg [
      .op (some 10) none (.mv (.tmp 8)),
      .op (some 5) none (.mv (.tmp 10))])
    (.keep [0, 1, 5, 7, 8] [] (.seq (.reg [
      .op (some 11) none (.mv (.tmp 0)),
      .op (some 12) none (.mv (.tmp 5)),
      .op (some 13) none (.iaddr 1 (.tmp 11) (.tmp 12)),
      .op (some 14) none (.load false 1 (.tmp 13)),
      .op (some 15) none (.eql true false [.int] (.tmp 14) (.const (.int .i64 (-1)))),
      .op (some 16) none (.mv (.tmp 15)),
      .op (some 17) (some (16, false)) (.mv (.tmp 1)),
      .op (some 18) (some (16, false)) (.mv (.tmp 5)),
      .op (some 19) (some (16, false)) (.iaddr 1 (.tmp 17) (.tmp 18)),
      .op (some 20) (some (16, false)) (.load false 1 (.tmp 19)),
      .op (some 21) (some (16, false)) (.eql true false [.str] (.tmp 20) (.const (.string ⟨#[]⟩))),
      .op (some 22) none (.pick (.tmp 16) (.const (.bool true)) (.tmp 21))])
    (.keep [0, 1, 7, 8, 22] [] (.ite (.tmp 22) (.seq (.reg [
        .op (some 4) none (.mv (.const (.bool false)))])
      (.keep [4] [] (.ret)))
      (.skip)))))) 23)))
  (.keep [] [] (.seq (.reg [
    .op (some 4) none (.mv (.const (.bool true)))])
  (.keep [4] [] (.ret))))))
def rs_r06_bare : List CRes := [.tmp 4]
def im_r06_bare : List Nat := []
theorem ok_r06_bare : FnOk Try.prog f_r06_bare im_r06_bare cc_r06_bare rs_r06_bare 24 := fnOk1 mixed (by kernel_rfl)
-- r06_TextAt range i=10 n=9 c=11 i2=26 id=0: live [1:pos, 8:] changed [] res []
/-- corpora/corporaref06.TextAt [Corpus, int] -> [int] -/
def cc_r06_TextAt : CC :=
  .seq (.reg [
    .op (some 2) none (.box ty_Corpus true (.tmp 0)),
    .op (some 4) none (.mv (.const (.int .i64 0)))])
  (.keep [1, 2] [] (.seq /- 1 -/ (.seq (.reg [
    .op (some 7) none (.faddr 2 (.tmp 2)),
    .op (some 8) none (.load false 1 (.tmp 7)),
    .op (some 9) none (.len (.tmp 8)),
    .op (some 10) none (.mv (.const (.int .i64 0)))])
  (.keep [1, 8, 9, 10] [] (rangeCC 0 10 9 11 1 (.seq (.reg [
      .op (some 12) none (.mv (.tmp 10)),
      .op (some 13) none (.iaddr 4 (.tmp 8) (.tmp 10)),
      .op (some 14) none (.load true 4 (.tmp 13)),
      .op (some 6) none (.alloc ty_Text [(.string ⟨#[]⟩), (.int .i64 0), (.int .i64 0), (.slice none 0 0)]),
      .op (some 5) none (.mv (.tmp 12)),
      .op none none (.store none 4 (.tmp 6) (.tmp 14))])
    (.keep [1, 5, 6, 8, 9, 10] [6] (.seq (.reg [
      .op (some 15) none (.faddr 1 (.tmp 6)),
      .op (some 16) none (.load false 1 (.tmp 15)),
      .op (some 17) none (.mv (.tmp 1)),
      .op (some 18) none (.cmp .leq (.tmp 16) (.tmp 17)),
      .op (some 19) none (.mv (.tmp 18)),
      .op (some 20) (some (19, true)) (.mv (.tmp 1)),
      .op (some 21) (some (19, true)) (.faddr 2 (.tmp 6)),
      .op (some 22) (some (19, true)) (.load false 1 (.tmp 21)),
      .op (some 23) (some (19, true)) (.cmp .lss (.tmp 20) (.tmp 22)),
      .op (some 24) none (.pick (.tmp 19) (.tmp 23) (.const (.bool false)))])
    (.keep [1, 5, 8, 9, 10, 24] [] (.ite (.tmp 24) (.seq (.reg [
        .op (some 25) none (.mv (.tmp 5)),
        .op (some 4) none (.mv (.tmp 25))])
      (.keep [4] [] (.ret)))
      (.skip)))))) 26)))
  (.keep [] [] (.seq (.reg [
    .op (some 4) none (.mv (.const (.int .i64 (-1))))])
  (.keep [4] [] (.ret))))))
def rs_r06_TextAt : List CRes := [.tmp 4]
def im_r06_TextAt : List Nat := [2]
theorem ok_r06_TextAt : FnOk Try.prog f_r06_TextAt im_r06_TextAt cc_r06_TextAt rs_r06_TextAt 27 := fnOk1 mixed (by kernel_rfl)
-- r06_cyclic range i=9 n=8 c=10 i2=26 id=0: live [0:heads, 1:i, 5:at] changed [5] res []
/-- corpora/corporaref06.cyclic [L_int, int] -> [bool] -/
def cc_r06_cyclic : CC :=
  .seq (.reg [
    .op (some 4) none (.mv (.const (.bool false)))])
  (.keep [0, 1] [] (.seq (.reg [
    .op (some 6) none (.mv (.tmp 1)),
    .op (some 5) none (.mv (.tmp 6))])
  (.keep [0, 1, 5] [] (.seq /- 2 -/ (.seq (.reg [
    .op (some 7) none (.mv (.tmp 0)),
    .op (some 8) none (.len (.tmp 7)),
    .op (some 9) none (.mv (.const (.int .i64 0)))])
  (.keep [0, 1, 5, 8, 9] [] (rangeCC 0 9 8 10 1 (.seq (.reg [
      .op (some 11) none (.mv (.tmp 0)),
      .op (some 12) none (.mv (.tmp 5)),
      .op (some 13) none (.iaddr 1 (.tmp 11) (.tmp 12)),
      .op (some 14) none (.load false 1 (.tmp 13)),
      .op (some 5) none (.mv (.tmp 14))])
    (.keep [0, 1, 5, 8, 9] [] (.seq /- 5 -/ (.seq (.reg [
      .op (some 15) none (.mv (.tmp 5)),
      .op (some 16) none (.cmp .lss (.tmp 15) (.const (.int .i64 0))),
      .op (some 17) none (.mv (.tmp 16)),
      .op (some 18) (some (17, false)) (.mv (.tmp 5)),
      .op (some 19) (some (17, false)) (.mv (.tmp 0)),
      .op (some 20) (some (17, false)) (.len (.tmp 19)),
      .op (some 21) (some (17, false)) (.cmp .geq (.tmp 18) (.tmp 20)),
      .op (some 22) none (.pick (.tmp 17) (.const (.bool true)) (.tmp 21))])
    (.keep [0, 1, 5, 8, 9, 22] [] (.ite (.tmp 22) (.seq (.reg [
        .op (some 4) none (.mv (.const (.bool false)))])
      (.keep [4] [] (.ret)))
      (.skip))))
    (.keep [0, 1, 5, 8, 9] [] (.seq (.reg [
      .op (some 23) none (.mv (.tmp 5)),
      .op (some 24) none (.mv (.tmp 1)),
      .op (some 25) none (.eql false false [.int] (.tmp 23) (.tmp 24))])
    (.keep [0, 1, 5, 8, 9, 25] [] (.ite (.tmp 25) (.seq (.reg [
        .op (some 4) none (.mv (.const (.bool true)))])
      (.keep [4] [] (.ret)))
      (.skip)))))))) 26)))
  (.keep [] [] (.seq (.reg [
    .op (some 4) none (.mv (.const (.bool false)))])
  (.keep [4] [] (.ret))))))))
def rs_r06_cyclic : List CRes := [.tmp 4]
def im_r06_cyclic : List Nat := []
theorem ok_r06_cyclic : FnOk Try.prog f_r06_cyclic im_r06_cyclic cc_r06_cyclic rs_r06_cyclic 27 := fnOk1 mixed (by kernel_rfl)
-- r06_Attributes range i=16 n=15 c=17 i2=41 id=0: live [0:l, 14:] changed [] res []
-- r06_Attributes range i=30 n=29 c=31 i2=40 id=2: live [0:l, 4:i, 5:a, 14:, 15:, 16:, 28:] changed [] res [5]
/-- corpora/corporaref06.Attributes [L_Attribute] -> [int, Errno] -/
def cc_r06_Attributes : CC :=
  .seq (.reg [
    .op (some 2) none (.mv (.const (.int .i64 0))),
    .op (some 3) none (.mv (.const (.int .i64 0)))])
  (.keep [0] [] (.seq /- 1 -/ (.seq (.reg [
    .op (some 8) none (.mv (.tmp 0)),
    .op (some 9) none (.len (.tmp 8)),
    .op (some 10) none (.eql false false [.int] (.tmp 9) (.const (.int .i64 0)))])
  (.keep [0, 10] [] (.ite (.tmp 10) (.seq (.reg [
      .op (some 2) none (.mv (.const (.int .i64 0))),
      .op (some 3) none (.mv (.const (.int .i64 15)))])
    (.keep [2, 3] [] (.ret)))
    (.skip))))
  (.keep [0] [] (.seq /- 4 -/ (.seq (.reg [
    .op (some 11) none (.mv (.tmp 0)),
    .op (some 12) none (.len (.tmp 11)),
    .op (some 13) none (.cmp .gtr (.tmp 12) (.const (.int .i64 8)))])
  (.keep [0, 13] [] (.ite (.tmp 13) (.seq (.reg [
      .op (some 2) none (.mv (.const (.int .i64 0))),
      .op (some 3) none (.mv (.const (.int .i64 2)))])
    (.keep [2, 3] [] (.ret)))
    (.skip))))
  (.keep [0] [] (.seq /- 7 -/ (.seq (.reg [
    .op (some 14) none (.mv (.tmp 0)),
    .op (some 15) none (.len (.tmp 14)),
    .op (some 16) none (.mv (.const (.int .i64 0)))])
  (.keep [0, 14, 15, 16] [] (rangeCC 0 16 15 17 1 (.seq (.reg [
      .op (some 18) none (.mv (.tmp 16)),
      .op (some 19) none (.iaddr 2 (.tmp 14) (.tmp 16)),
      .op (some 20) none (.load true 2 (.tmp 19)),
      .op (some 5) none (.alloc ty_Attribute [(.string ⟨#[]⟩), (.bool false)]),
      .op (some 4) none (.mv (.tmp 18)),
      .op none none (.store none 2 (.tmp 5) (.tmp 20))])
    (.keep [0, 4, 5, 14, 15, 16] [5] (.seq /- 10 -/ (.seq (.reg [
      .op (some 21) none (.faddr 0 (.tmp 5)),
      .op (some 22) none (.load false 1 (.tmp 21)),
      .op (some 23) none (.call f_r04_ValidName [(.tmp 22)]),
      .op (some 24) none (.not (.tmp 23))])
    (.keep [0, 4, 5, 14, 15, 16, 24] [5] (.ite (.tmp 24) (.seq (.reg [
        .op (some 25) none (.mv (.tmp 4)),
        .op (some 2) none (.mv (.tmp 25)),
        .op (some 3) none (.mv (.const (.int .i64 4)))])
      (.keep [2, 3] [] (.ret)))
      (.skip))))
    (.keep [0, 4, 5, 14, 15, 16] [5] (.seq (.reg [
      .op (some 26) none (.mv (.tmp 0)),
      .op (some 27) none (.mv (.tmp 4)),
      .op (some 28) none (.slice 2 (.tmp 26) none (some (.tmp 27))),
      .op (some 29) none (.len (.tmp 28)),
      .op (some 30) none (.mv (.const (.int .i64 0)))])
    (.keep [0, 4, 5, 14, 15, 16, 28, 29, 30] [5] (rangeCC 2 30 29 31 3 (.seq (.reg [
        .op (some 32) none (.iaddr 2 (.tmp 28) (.tmp 30)),
        .op (some 33) none (.load true 2 (.tmp 32)),
        .op (some 7) none (.alloc ty_Attribute [(.string ⟨#[]⟩), (.bool false)]),
        .op none none (.store none 2 (.tmp 7) (.tmp 33))])
      (.keep [0, 4, 5, 7, 14, 15, 16, 28, 29, 30] [5, 7] (.seq (.reg [
        .op (some 34) none (.faddr 0 (.tmp 5)),
        .op (some 35) none (.load false 1 (.tmp 34)),
        .op (some 36) none (.faddr 0 (.tmp 7)),
        .op (some 37) none (.load false 1 (.tmp 36)),
        .op (some 38) none (.eql false false [.str] (.tmp 35) (.tmp 37))])
      (.keep [0, 4, 5, 14, 15, 16, 28, 29, 30, 38] [5] (.ite (.tmp 38) (.seq (.reg [
          .op (some 39) none (.mv (.tmp 4)),
          .op (some 2) none (.mv (.tmp 39)),
          .op (some 3) none (.mv (.const (.int .i64 5)))])
        (.keep [2, 3] [] (.ret)))
        (.skip)))))) 40))))))) 41)))
  (.keep [] [] (.seq (.reg [
    .op (some 2) none (.mv (.const (.int .i64 0))),
    .op (some 3) none (.mv (.const (.int .i64 0)))])
  (.keep [2, 3] [] (.ret))))))))))
def rs_r06_Attributes : List CRes := [.tmp 2, .tmp 3]
def im_r06_Attributes : List Nat := []
theorem ok_r06_Attributes : FnOk Try.prog f_r06_Attributes im_r06_Attributes cc_r06_Attributes rs_r06_Attributes 42 := fnOk1 mixed (by kernel_rfl)
-- r06_tokens range i=16 n=15 c=17 i2=47 id=0: live [1:c, 14:] changed [] res []
-- r06_tokens range i=30 n=29 c=31 i2=46 id=2: live [1:c, 4:i, 14:, 15:, 16:, 28:] changed [] res []
/-- corpora/corporaref06.tokens [Corpus] -> [int, Errno] -/
def cc_r06_tokens : CC :=
  .seq (.reg [
    .op (some 1) none (.box ty_Corpus true (.tmp 0)),
    .op (some 2) none (.mv (.const (.int .i64 0))),
    .op (some 3) none (.mv (.const (.int .i64 0)))])
  (.keep [1] [] (.seq /- 1 -/ (.seq (.reg [
    .op (some 9) none (.faddr 1 (.tmp 1)),
    .op (some 10) none (.load false 1 (.tmp 9)),
    .op (some 11) none (.len (.tmp 10)),
    .op (some 12) none (.cmp .gtr (.tmp 11) (.const (.int .i64 4096)))])
  (.keep [1, 12] [] (.ite (.tmp 12) (.seq (.reg [
      .op (some 2) none (.mv (.const (.int .i64 0))),
      .op (some 3) none (.mv (.const (.int .i64 2)))])
    (.keep [2, 3] [] (.ret)))
    (.skip))))
  (.keep [1] [] (.seq /- 4 -/ (.seq (.reg [
    .op (some 13) none (.faddr 1 (.tmp 1)),
    .op (some 14) none (.load false 1 (.tmp 13)),
    .op (some 15) none (.len (.tmp 14)),
    .op (some 16) none (.mv (.const (.int .i64 0)))])
  (.keep [1, 14, 15, 16] [] (rangeCC 0 16 15 17 1 (.seq (.reg [
      .op (some 18) none (.mv (.tmp 16)),
      .op (some 19) none (.iaddr 1 (.tmp 14) (.tmp 16)),
      .op (some 20) none (.load false 1 (.tmp 19)),
      .op (some 4) none (.mv (.tmp 18)),
      .op (some 5) none (.mv (.tmp 20))])
    (.keep [1, 4, 5, 14, 15, 16] [] (.seq /- 7 -/ (.seq (.reg [
      .op (some 21) none (.mv (.tmp 5)),
      .op (some 22) none (.len (.tmp 21)),
      .op (some 23) none (.faddr 0 (.tmp 1)),
      .op (some 24) none (.load false 1 (.tmp 23)),
      .op (some 25) none (.len (.tmp 24)),
      .op (some 26) none (.eql true false [.int] (.tmp 22) (.tmp 25))])
    (.keep [1, 4, 5, 14, 15, 16, 26] [] (.ite (.tmp 26) (.seq (.reg [
        .op (some 27) none (.mv (.tmp 4)),
        .op (some 2) none (.mv (.tmp 27)),
        .op (some 3) none (.mv (.const (.int .i64 15)))])
      (.keep [2, 3] [] (.ret)))
      (.skip))))
    (.keep [1, 4, 5, 14, 15, 16] [] (.seq (.reg [
      .op (some 28) none (.mv (.tmp 5)),
      .op (some 29) none (.len (.tmp 28)),
      .op (some 30) none (.mv (.const (.int .i64 0)))])
    (.keep [1, 4, 14, 15, 16, 28, 29, 30] [] (rangeCC 2 30 29 31 3 (.seq (.reg [
        .op (some 32) none (.mv (.tmp 30)),
        .op (some 33) none (.iaddr 1 (.tmp 28) (.tmp 30)),
        .op (some 34) none (.load false 1 (.tmp 33)),
        .op (some 6) none (.mv (.tmp 32)),
        .op (some 7) none (.mv (.tmp 34))])
      (.keep [1, 4, 6, 7, 14, 15, 16, 28, 29, 30] [] (.seq (.reg [
        .op (some 35) none (.faddr 0 (.tmp 1)),
        .op (some 36) none (.load false 1 (.tmp 35)),
        .op (some 37) none (.mv (.tmp 6)),
        .op (some 38) none (.iaddr 2 (.tmp 36) (.tmp 37)),
        .op (some 39) none (.load true 2 (.tmp 38)),
        .op (some 40) none (.mv (.tmp 7)),
        .op (some 41) none (.call f_r06_Value [(.tmp 39), (.tmp 40)]),
        .op (some 8) none (.mv (.tmp 41))])
      (.keep [1, 4, 8, 14, 15, 16, 28, 29, 30] [] (.seq (.reg [
        .op (some 42) none (.mv (.tmp 8)),
        .op (some 43) none (.eql true false [.int] (.tmp 42) (.const (.int .i64 0)))])
      (.keep [1, 4, 8, 14, 15, 16, 28, 29, 30, 43] [] (.ite (.tmp 43) (.seq (.reg [
          .op (some 44) none (.mv (.tmp 4)),
          .op (some 45) none (.mv (.tmp 8)),
          .op (some 2) none (.mv (.tmp 44)),
          .op (some 3) none (.mv (.tmp 45))])
        (.keep [2, 3] [] (.ret)))
        (.skip)))))))) 46))))))) 47)))
  (.keep [] [] (.seq (.reg [
    .op (some 2) none (.mv (.const (.int .i64 0))),
    .op (some 3) none (.mv (.const (.int .i64 0)))])
  (.keep [2, 3] [] (.ret))))))))
def rs_r06_tokens : List CRes := [.tmp 2, .tmp 3]
def im_r06_tokens : List Nat := [1]
theorem ok_r06_tokens : FnOk Try.prog f_r06_tokens im_r06_tokens cc_r06_tokens rs_r06_tokens 48 := fnOk1 mixed (by kernel_rfl)
-- r06_texts range i=28 n=27 c=29 i2=95 id=0: live [1:c, 4:n, 5:end, 26:] changed [5] res []
-- r06_texts range i=43 n=42 c=44 i2=53 id=2: live [1:c, 4:n, 5:end, 6:i, 7:t, 26:, 27:, 28:, 41:] changed [] res [7]
/-- corpora/corporaref06.texts [Corpus] -> [int, Errno] -/
def cc_r06_texts : CC :=
  .seq (.reg [
    .op (some 1) none (.box ty_Corpus true (.tmp 0)),
    .op (some 2) none (.mv (.const (.int .i64 0))),
    .op (some 3) none (.mv (.const (.int .i64 0)))])
  (.keep [1] [] (.seq (.reg [
    .op (some 11) none (.faddr 1 (.tmp 1)),
    .op (some 12) none (.load false 1 (.tmp 11)),
    .op (some 13) none (.len (.tmp 12)),
    .op (some 4) none (.mv (.tmp 13))])
  (.keep [1, 4] [] (.seq /- 2 -/ (.seq (.reg [
    .op (some 14) none (.faddr 2 (.tmp 1)),
    .op (some 15) none (.load false 1 (.tmp 14)),
    .op (some 16) none (.len (.tmp 15)),
    .op (some 17) none (.cmp .gtr (.tmp 16) (.const (.int .i64 64)))])
  (.keep [1, 4, 17] [] (.ite (.tmp 17) (.seq (.reg [
      .op (some 2) none (.mv (.const (.int .i64 0))),
      .op (some 3) none (.mv (.const (.int .i64 2)))])
    (.keep [2, 3] [] (.ret)))
    (.skip))))
  (.keep [1, 4] [] (.seq /- 5 -/ (.seq (.reg [
    .op (some 18) none (.faddr 2 (.tmp 1)),
    .op (some 19) none (.load false 1 (.tmp 18)),
    .op (some 20) none (.len (.tmp 19)),
    .op (some 21) none (.eql false false [.int] (.tmp 20) (.const (.int .i64 0))),
    .op (some 22) none (.mv (.tmp 4)),
    .op (some 23) none (.eql false false [.int] (.tmp 22) (.const (.int .i64 0))),
    .op (some 24) none (.eql true false [.bool] (.tmp 21) (.tmp 23))])
  (.keep [1, 4, 24] [] (.ite (.tmp 24) (.seq (.reg [
      .op (some 2) none (.mv (.const (.int .i64 0))),
      .op (some 3) none (.mv (.const (.int .i64 15)))])
    (.keep [2, 3] [] (.ret)))
    (.skip))))
  (.keep [1, 4] [] (.seq (.reg [
    .op (some 5) none (.mv (.const (.int .i64 0)))])
  (.keep [1, 4, 5] [] (.seq /- 9 -/ (.seq (.reg [
    .op (some 25) none (.faddr 2 (.tmp 1)),
    .op (some 26) none (.load false 1 (.tmp 25)),
    .op (some 27) none (.len (.tmp 26)),
    .op (some 28) none (.mv (.const (.int .i64 0)))])
  (.keep [1, 4, 5, 26, 27, 28] [] (rangeCC 0 28 27 29 1 (.seq (.reg [
      .op (some 30) none (.mv (.tmp 28)),
      .op (some 31) none (.iaddr 4 (.tmp 26) (.tmp 28)),
      .op (some 32) none (.load true 4 (.tmp 31)),
      .op (some 7) none (.alloc ty_Text [(.string ⟨#[]⟩), (.int .i64 0), (.int .i64 0), (.slice none 0 0)]),
      .op (some 6) none (.mv (.tmp 30)),
      .op none none (.store none 4 (.tmp 7) (.tmp 32))])
    (.keep [1, 4, 5, 6, 7, 26, 27, 28] [7] (.seq /- 12 -/ (.seq (.reg [
      .op (some 33) none (.faddr 0 (.tmp 7)),
      .op (some 34) none (.load false 1 (.tmp 33)),
      .op (some 35) none (.call f_r04_ValidName [(.tmp 34)]),
      .op (some 36) none (.not (.tmp 35))])
    (.keep [1, 4, 5, 6, 7, 26, 27, 28, 36] [7] (.ite (.tmp 36) (.seq (.reg [
        .op (some 37) none (.mv (.tmp 6)),
        .op (some 2) none (.mv (.tmp 37)),
        .op (some 3) none (.mv (.const (.int .i64 4)))])
      (.keep [2, 3] [] (.ret)))
      (.skip))))
    (.keep [1, 4, 5, 6, 7, 26, 27, 28] [7] (.seq /- 15 -/ (.seq (.reg [
      .op (some 38) none (.faddr 2 (.tmp 1)),
      .op (some 39) none (.load false 1 (.tmp 38)),
      .op (some 40) none (.mv (.tmp 6)),
      .op (some 41) none (.slice 4 (.tmp 39) none (some (.tmp 40))),
      .op (some 42) none (.len (.tmp 41)),
      .op (some 43) none (.mv (.const (.int .i64 0)))])
    (.keep [1, 4, 5, 6, 7, 26, 27, 28, 41, 42, 43] [7] (rangeCC 2 43 42 44 3 (.seq (.reg [
        .op (some 45) none (.iaddr 4 (.tmp 41) (.tmp 43)),
        .op (some 46) none (.load true 4 (.tmp 45)),
        .op (some 9) none (.alloc ty_Text [(.string ⟨#[]⟩), (.int .i64 0), (.int .i64 0), (.slice none 0 0)]),
        .op none none (.store none 4 (.tmp 9) (.tmp 46))])
      (.keep [1, 4, 5, 6, 7, 9, 26, 27, 28, 41, 42, 43] [7, 9] (.seq (.reg [
        .op (some 47) none (.faddr 0 (.tmp 9)),
        .op (some 48) none (.load false 1 (.tmp 47)),
        .op (some 49) none (.faddr 0 (.tmp 7)),
        .op (some 50) none (.load false 1 (.tmp 49)),
        .op (some 51) none (.eql false false [.str] (.tmp 48) (.tmp 50))])
      (.keep [1, 4, 5, 6, 7, 26, 27, 28, 41, 42, 43, 51] [7] (.ite (.tmp 51) (.seq (.reg [
          .op (some 52) none (.mv (.tmp 6)),
          .op (some 2) none (.mv (.tmp 52)),
          .op (some 3) none (.mv (.const (.int .i64 5)))])
        (.keep [2, 3] [] (.ret)))
        (.skip)))))) 53)))
    (.keep [1, 4, 5, 6, 7, 26, 27, 28] [7] (.seq /- 20 -/ (.seq (.reg [
      .op (some 54) none (.faddr 1 (.tmp 7)),
      .op (some 55) none (.load false 1 (.tmp 54)),
      .op (some 56) none (.mv (.tmp 5)),
      .op (some 57) none (.eql true false [.int] (.tmp 55) (.tmp 56)),
      .op (some 58) none (.mv (.tmp 57)),
      .op (some 59) (some (58, false)) (.faddr 2 (.tmp 7)),
      .op (some 60) (some (58, false)) (.load false 1 (.tmp 59)),
      .op (some 61) (some (58, false)) (.faddr 1 (.tmp 7)),
      .op (some 62) (some (58, false)) (.load false 1 (.tmp 61)),
      .op (some 63) (some (58, false)) (.cmp .leq (.tmp 60) (.tmp 62)),
      .op (some 64) none (.pick (.tmp 58) (.const (.bool true)) (.tmp 63)),
      .op (some 65) none (.mv (.tmp 64)),
      .op (some 66) (some (65, false)) (.faddr 2 (.tmp 7)),
      .op (some 67) (some (65, false)) (.load false 1 (.tmp 66)),
      .op (some 68) (some (65, false)) (.mv (.tmp 4)),
      .op (some 69) (some (65, false)) (.cmp .gtr (.tmp 67) (.tmp 68)),
      .op (some 70) none (.pick (.tmp 65) (.const (.bool true)) (.tmp 69)),
      .op (some 71) none (.mv (.tmp 70)),
      .op (some 72) (some (71, false)) (.mv (.tmp 6)),
      .op (some 73) (some (71, false)) (.faddr 2 (.tmp 1)),
      .op (some 74) (some (71, false)) (.load false 1 (.tmp 73)),
      .op (some 75) (some (71, false)) (.len (.tmp 74)),
      .op (some 76) (some (71, false)) (.arith .sub (.tmp 75) (.const (.int .i64 1))),
      .op (some 77) (some (71, false)) (.eql false false [.int] (.tmp 72) (.tmp 76)),
      .op (some 78) (some (71, false)) (.mv (.tmp 77)),
      .op (some 79) (some (78, true)) (.faddr 2 (.tmp 7)),
      .op (some 80) (some (78, true)) (.load false 1 (.tmp 79)),
      .op (some 81) (some (78, true)) (.mv (.tmp 4)),
      .op (some 82) (some (78, true)) (.eql true false [.int] (.tmp 80) (.tmp 81)),
      .op (some 83) (some (71, false)) (.pick (.tmp 78) (.tmp 82) (.const (.bool false))),
      .op (some 84) none (.pick (.tmp 71) (.const (.bool true)) (.tmp 83))])
    (.keep [1, 4, 6, 7, 26, 27, 28, 84] [7] (.ite (.tmp 84) (.seq (.reg [
        .op (some 85) none (.mv (.tmp 6)),
        .op (some 2) none (.mv (.tmp 85)),
        .op (some 3) none (.mv (.const (.int .i64 8)))])
      (.keep [2, 3] [] (.ret)))
      (.skip))))
    (.keep [1, 4, 6, 7, 26, 27, 28] [7] (.seq (.seq (.reg [
      .op (some 86) none (.faddr 3 (.tmp 7)),
      .op (some 87) none (.load false 1 (.tmp 86)),
      .op (some 88) none (.call f_r06_pairs [(.tmp 87)]),
      .op (some 10) none (.mv (.tmp 88))])
    (.keep [1, 4, 6, 7, 10, 26, 27, 28] [7] (.seq (.reg [
      .op (some 89) none (.mv (.tmp 10)),
      .op (some 90) none (.eql true false [.int] (.tmp 89) (.const (.int .i64 0)))])
    (.keep [1, 4, 6, 7, 10, 26, 27, 28, 90] [7] (.ite (.tmp 90) (.seq (.reg [
        .op (some 91) none (.mv (.tmp 6)),
        .op (some 92) none (.mv (.tmp 10)),
        .op (some 2) none (.mv (.tmp 91)),
        .op (some 3) none (.mv (.tmp 92))])
      (.keep [2, 3] [] (.ret)))
      (.skip))))))
    (.keep [1, 4, 7, 26, 27, 28] [7] (.reg [
      .op (some 93) none (.faddr 2 (.tmp 7)),
      .op (some 94) none (.load false 1 (.tmp 93)),
      .op (some 5) none (.mv (.tmp 94))]))))))))))) 95)))
  (.keep [] [] (.seq (.reg [
    .op (some 2) none (.mv (.const (.int .i64 0))),
    .op (some 3) none (.mv (.const (.int .i64 0)))])
  (.keep [2, 3] [] (.ret))))))))))))))
def rs_r06_texts : List CRes := [.tmp 2, .tmp 3]
def im_r06_texts : List Nat := [1]
theorem ok_r06_texts : FnOk Try.prog f_r06_texts im_r06_texts cc_r06_texts rs_r06_texts 96 := fnOk1 mixed (by kernel_rfl)
-- r06_regions range i=17 n=16 c=18 i2=142 id=0: live [1:c, 15:] changed [] res []
-- r06_regions range i=64 n=63 c=65 i2=138 id=3: live [1:c, 4:i, 5:x, 7:deep, 15:, 16:, 17:, 62:] changed [7] res [5]
/-- corpora/corporaref06.regions [Corpus] -> [int, Errno] -/
def cc_r06_regions : CC :=
  .seq (.reg [
    .op (some 1) none (.box ty_Corpus true (.tmp 0)),
    .op (some 2) none (.mv (.const (.int .i64 0))),
    .op (some 3) none (.mv (.const (.int .i64 0)))])
  (.keep [1] [] (.seq /- 1 -/ (.seq (.reg [
    .op (some 10) none (.faddr 3 (.tmp 1)),
    .op (some 11) none (.load false 1 (.tmp 10)),
    .op (some 12) none (.len (.tmp 11)),
    .op (some 13) none (.cmp .gtr (.tmp 12) (.const (.int .i64 1024)))])
  (.keep [1, 13] [] (.ite (.tmp 13) (.seq (.reg [
      .op (some 2) none (.mv (.const (.int .i64 0))),
      .op (some 3) none (.mv (.const (.int .i64 2)))])
    (.keep [2, 3] [] (.ret)))
    (.skip))))
  (.keep [1] [] (.seq /- 4 -/ (.seq (.reg [
    .op (some 14) none (.faddr 3 (.tmp 1)),
    .op (some 15) none (.load false 1 (.tmp 14)),
    .op (some 16) none (.len (.tmp 15)),
    .op (some 17) none (.mv (.const (.int .i64 0)))])
  (.keep [1, 15, 16, 17] [] (rangeCC 0 17 16 18 1 (.seq (.reg [
      .op (some 19) none (.mv (.tmp 17)),
      .op (some 20) none (.iaddr 4 (.tmp 15) (.tmp 17)),
      .op (some 21) none (.load true 4 (.tmp 20)),
      .op (some 5) none (.alloc ty_Region [(.string ⟨#[]⟩), (.int .i64 0), (.int .i64 0), (.slice none 0 0)]),
      .op (some 4) none (.mv (.tmp 19)),
      .op none none (.store none 4 (.tmp 5) (.tmp 21))])
    (.keep [1, 4, 5, 15, 16, 17] [5] (.seq /- 7 -/ (.block 2 (.seq (.reg [
        .op (some 23) none (.faddr 0 (.tmp 5)),
        .op (some 24) none (.load false 1 (.tmp 23)),
        .op (some 25) none (.call f_r04_ValidName [(.tmp 24)]),
        .op (some 26) none (.not (.tmp 25)),
        .op (some 22) none (.mv (.tmp 26))])
      (.keep [1, 4, 5, 15, 16, 17, 22] [5] (.ite (.tmp 22) (.seq (.reg [
          .op (some 27) none (.mv (.tmp 4)),
          .op (some 2) none (.mv (.tmp 27)),
          .op (some 3) none (.mv (.const (.int .i64 4)))])
        (.keep [2, 3] [] (.ret)))
        (.seq (.reg [
          .op (some 29) none (.load true 7 (.tmp 1)),
          .op (some 30) none (.faddr 1 (.tmp 5)),
          .op (some 31) none (.load false 1 (.tmp 30)),
          .op (some 32) none (.faddr 2 (.tmp 5)),
          .op (some 33) none (.load false 1 (.tmp 32)),
          .op (some 34) none (.call f_r06_within [(.tmp 29), (.tmp 31), (.tmp 33)]),
          .op (some 35) none (.not (.tmp 34)),
          .op (some 28) none (.mv (.tmp 35))])
        (.keep [1, 4, 5, 15, 16, 17, 28] [5] (.ite (.tmp 28) (.seq (.reg [
            .op (some 36) none (.mv (.tmp 4)),
            .op (some 2) none (.mv (.tmp 36)),
            .op (some 3) none (.mv (.const (.int .i64 8)))])
          (.keep [2, 3] [] (.ret)))
          (.skip))))))))
    (.keep [1, 4, 5, 15, 16, 17] [5] (.seq (.seq (.reg [
      .op (some 37) none (.faddr 3 (.tmp 5)),
      .op (some 38) none (.load false 1 (.tmp 37)),
      .op (some 39) none (.call f_r06_pairs [(.tmp 38)]),
      .op (some 6) none (.mv (.tmp 39))])
    (.keep [1, 4, 5, 6, 15, 16, 17] [5] (.seq (.reg [
      .op (some 40) none (.mv (.tmp 6)),
      .op (some 41) none (.eql true false [.int] (.tmp 40) (.const (.int .i64 0)))])
    (.keep [1, 4, 5, 6, 15, 16, 17, 41] [5] (.ite (.tmp 41) (.seq (.reg [
        .op (some 42) none (.mv (.tmp 4)),
        .op (some 43) none (.mv (.tmp 6)),
        .op (some 2) none (.mv (.tmp 42)),
        .op (some 3) none (.mv (.tmp 43))])
      (.keep [2, 3] [] (.ret)))
      (.skip))))))
    (.keep [1, 4, 5, 15, 16, 17] [5] (.seq /- 16 -/ (.seq (.regd [
      .op (some 44) none (.mv (.tmp 4)),
      .op (some 45) none (.cmp .gtr (.tmp 44) (.const (.int .i64 0))),
      .op (some 46) none (.mv (.tmp 45)),
      .op (some 47) (some (46, true)) (.faddr 3 (.tmp 1)),
      .op (some 48) (some (46, true)) (.load false 1 (.tmp 47)),
      .op (some 49) (some (46, true)) (.mv (.tmp 4)),
      .op (some 50) (some (46, true)) (.arith .sub (.tmp 49) (.const (.int .i64 1))),
      .op (some 51) (some (46, true)) (.iaddr 4 (.tmp 48) (.tmp 50)),
      .op (some 52) (some (46, true)) (.load true 4 (.tmp 51)),
      .op (some 53) (some (46, true)) (.load true 4 (.tmp 5))] [
      .op (some 54) (some (46, true)) (.call f_r06_CompareRegions [(.tmp 52), (.tmp 53)]),
      .op (some 55) (some (46, true)) (.cmp .gtr (.tmp 54) (.const (.int .i64 0))),
      .op (some 56) none (.pick (.tmp 46) (.tmp 55) (.const (.bool false)))])
    (.keep [1, 4, 5, 15, 16, 17, 56] [5] (.ite (.tmp 56) (.seq (.reg [
        .op (some 57) none (.mv (.tmp 4)),
        .op (some 2) none (.mv (.tmp 57)),
        .op (some 3) none (.mv (.const (.int .i64 6)))])
      (.keep [2, 3] [] (.ret)))
      (.skip))))
    (.keep [1, 4, 5, 15, 16, 17] [5] (.seq (.reg [
      .op (some 7) none (.mv (.const (.int .i64 0)))])
    (.keep [1, 4, 5, 7, 15, 16, 17] [5] (.seq /- 20 -/ (.seq (.reg [
      .op (some 58) none (.faddr 3 (.tmp 1)),
      .op (some 59) none (.load false 1 (.tmp 58)),
      .op (some 60) none (.mv (.tmp 4)),
      .op (some 61) none (.arith .add (.tmp 60) (.const (.int .i64 1))),
      .op (some 62) none (.slice 4 (.tmp 59) none (some (.tmp 61))),
      .op (some 63) none (.len (.tmp 62)),
      .op (some 64) none (.mv (.const (.int .i64 0)))])
    (.keep [1, 4, 5, 7, 15, 16, 17, 62, 63, 64] [5] (rangeCC 3 64 63 65 4 (.seq (.reg [
        .op (some 66) none (.mv (.tmp 64)),
        .op (some 67) none (.iaddr 4 (.tmp 62) (.tmp 64)),
        .op (some 68) none (.load true 4 (.tmp 67)),
        .op (some 9) none (.alloc ty_Region [(.string ⟨#[]⟩), (.int .i64 0), (.int .i64 0), (.slice none 0 0)]),
        .op (some 8) none (.mv (.tmp 66)),
        .op none none (.store none 4 (.tmp 9) (.tmp 68))])
      (.keep [1, 4, 5, 7, 8, 9, 15, 16, 17, 62, 63, 64] [5, 9] (.seq /- 23 -/ (.seq (.reg [
        .op (some 69) none (.faddr 1 (.tmp 9)),
        .op (some 70) none (.load false 1 (.tmp 69)),
        .op (some 71) none (.faddr 1 (.tmp 5)),
        .op (some 72) none (.load false 1 (.tmp 71)),
        .op (some 73) none (.cmp .leq (.tmp 70) (.tmp 72)),
        .op (some 74) none (.mv (.tmp 73)),
        .op (some 75) (some (74, true)) (.faddr 1 (.tmp 5)),
        .op (some 76) (some (74, true)) (.load false 1 (.tmp 75)),
        .op (some 77) (some (74, true)) (.faddr 2 (.tmp 9)),
        .op (some 78) (some (74, true)) (.load false 1 (.tmp 77)),
        .op (some 79) (some (74, true)) (.cmp .lss (.tmp 76) (.tmp 78)),
        .op (some 80) none (.pick (.tmp 74) (.tmp 79) (.const (.bool false)))])
      (.keep [1, 4, 5, 7, 8, 9, 15, 16, 17, 62, 63, 64, 80] [5, 9] (.ite (.tmp 80) (.reg [
          .op (some 81) none (.mv (.tmp 7)),
          .op (some 82) none (.arith .add (.tmp 81) (.const (.int .i64 1))),
          .op (some 7) none (.mv (.tmp 82))])
        (.skip))))
      (.keep [1, 4, 5, 7, 8, 9, 15, 16, 17, 62, 63, 64] [5, 9] (.seq (.reg [
        .op (some 83) none (.mv (.tmp 8)),
        .op (some 84) none (.mv (.tmp 4)),
        .op (some 85) none (.cmp .lss (.tmp 83) (.tmp 84)),
        .op (some 86) none (.mv (.tmp 85)),
        .op (some 87) (some (86, true)) (.faddr 0 (.tmp 9)),
        .op (some 88) (some (86, true)) (.load false 1 (.tmp 87)),
        .op (some 89) (some (86, true)) (.faddr 0 (.tmp 5)),
        .op (some 90) (some (86, true)) (.load false 1 (.tmp 89)),
        .op (some 91) (some (86, true)) (.eql false false [.str] (.tmp 88) (.tmp 90)),
        .op (some 92) none (.pick (.tmp 86) (.tmp 91) (.const (.bool false))),
        .op (some 93) none (.mv (.tmp 92)),
        .op (some 94) (some (93, true)) (.faddr 1 (.tmp 9)),
        .op (some 95) (some (93, true)) (.load false 1 (.tmp 94)),
        .op (some 96) (some (93, true)) (.faddr 2 (.tmp 5)),
        .op (some 97) (some (93, true)) (.load false 1 (.tmp 96)),
        .op (some 98) (some (93, true)) (.cmp .lss (.tmp 95) (.tmp 97)),
        .op (some 99) none (.pick (.tmp 93) (.tmp 98) (.const (.bool false))),
        .op (some 100) none (.mv (.tmp 99)),
        .op (some 101) (some (100, true)) (.faddr 1 (.tmp 5)),
        .op (some 102) (some (100, true)) (.load false 1 (.tmp 101)),
        .op (some 103) (some (100, true)) (.faddr 2 (.tmp 9)),
        .op (some 104) (some (100, true)) (.load false 1 (.tmp 103)),
        .op (some 105) (some (100, true)) (.cmp .lss (.tmp 102) (.tmp 104)),
        .op (some 106) none (.pick (.tmp 100) (.tmp 105) (.const (.bool false))),
        .op (some 107) none (.mv (.tmp 106)),
        .op (some 108) (some (107, true)) (.faddr 1 (.tmp 9)),
        .op (some 109) (some (107, true)) (.load false 1 (.tmp 108)),
        .op (some 110) (some (107, true)) (.faddr 1 (.tmp 5)),
        .op (some 111) (some (107, true)) (.load false 1 (.tmp 110)),
        .op (some 112) (some (107, true)) (.cmp .leq (.tmp 109) (.tmp 111)),
        .op (some 113) (some (107, true)) (.mv (.tmp 112)),
        .op (some 114) (some (113, true)) (.faddr 2 (.tmp 5)),
        .op (some 115) (some (113, true)) (.load false 1 (.tmp 114)),
        .op (some 116) (some (113, true)) (.faddr 2 (.tmp 9)),
        .op (some 117) (some (113, true)) (.load false 1 (.tmp 116)),
        .op (some 118) (some (113, true)) (.cmp .leq (.tmp 115) (.tmp 117)),
        .op (some 119) (some (107, true)) (.pick (.tmp 113) (.tmp 118) (.const (.bool false))),
        .op (some 120) (some (107, true)) (.not (.tmp 119)),
        .op (some 121) none (.pick (.tmp 107) (.tmp 120) (.const (.bool false))),
        .op (some 122) none (.mv (.tmp 121)),
        .op (some 123) (some (122, true)) (.faddr 1 (.tmp 5)),
        .op (some 124) (some (122, true)) (.load false 1 (.tmp 123)),
        .op (some 125) (some (122, true)) (.faddr 1 (.tmp 9)),
        .op (some 126) (some (122, true)) (.load false 1 (.tmp 125)),
        .op (some 127) (some (122, true)) (.cmp .leq (.tmp 124) (.tmp 126)),
        .op (some 128) (some (122, true)) (.mv (.tmp 127)),
        .op (some 129) (some (128, true)) (.faddr 2 (.tmp 9)),
        .op (some 130) (some (128, true)) (.load false 1 (.tmp 129)),
        .op (some 131) (some (128, true)) (.faddr 2 (.tmp 5)),
        .op (some 132) (some (128, true)) (.load false 1 (.tmp 131)),
        .op (some 133) (some (128, true)) (.cmp .leq (.tmp 130) (.tmp 132)),
        .op (some 134) (some (122, true)) (.pick (.tmp 128) (.tmp 133) (.const (.bool false))),
        .op (some 135) (some (122, true)) (.not (.tmp 134)),
        .op (some 136) none (.pick (.tmp 122) (.tmp 135) (.const (.bool false)))])
      (.keep [1, 4, 5, 7, 15, 16, 17, 62, 63, 64, 136] [5] (.ite (.tmp 136) (.seq (.reg [
          .op (some 137) none (.mv (.tmp 4)),
          .op (some 2) none (.mv (.tmp 137)),
          .op (some 3) none (.mv (.const (.int .i64 13)))])
        (.keep [2, 3] [] (.ret)))
        (.skip)))))))) 138)))
    (.keep [1, 4, 7, 15, 16, 17] [] (.seq (.reg [
      .op (some 139) none (.mv (.tmp 7)),
      .op (some 140) none (.cmp .gtr (.tmp 139) (.const (.int .i64 40)))])
    (.keep [1, 4, 15, 16, 17, 140] [] (.ite (.tmp 140) (.seq (.reg [
        .op (some 141) none (.mv (.tmp 4)),
        .op (some 2) none (.mv (.tmp 141)),
        .op (some 3) none (.mv (.const (.int .i64 2)))])
      (.keep [2, 3] [] (.ret)))
      (.skip)))))))))))))))) 142)))
  (.keep [] [] (.seq (.reg [
    .op (some 2) none (.mv (.const (.int .i64 0))),
    .op (some 3) none (.mv (.const (.int .i64 0)))])
  (.keep [2, 3] [] (.ret))))))))
def rs_r06_regions : List CRes := [.tmp 2, .tmp 3]
def im_r06_regions : List Nat := [1]
theorem ok_r06_regions : FnOk Try.prog f_r06_regions im_r06_regions cc_r06_regions rs_r06_regions 143 := fnOk1 mixed (by kernel_rfl)
-- r06_Nodes range i=20 n=19 c=21 i2=127 id=0: live [0:l, 3:c, 6:depth, 18:] changed [] res [17]
-- r06_Nodes while id=0: live [0:l, 3:c, 6:depth, 7:i, 8:x, 9:k, 18:, 19:, 20:] changed [9] res [8, 17]
-- r06_Nodes while id=0: live [0:l, 3:c, 6:depth, 7:i, 8:x, 11:s, 18:, 19:, 20:] changed [11] res [8, 17]
/-- corpora/corporaref06.Nodes [L_Node, Corpus] -> [int, Errno] -/
def cc_r06_Nodes : CC :=
  .seq (.reg [
    .op (some 3) none (.box ty_Corpus true (.tmp 1)),
    .op (some 4) none (.mv (.const (.int .i64 0))),
    .op (some 5) none (.mv (.const (.int .i64 0)))])
  (.keep [0, 3] [] (.seq /- 1 -/ (.seq (.reg [
    .op (some 12) none (.mv (.tmp 0)),
    .op (some 13) none (.len (.tmp 12)),
    .op (some 14) none (.cmp .gtr (.tmp 13) (.const (.int .i64 2048)))])
  (.keep [0, 3, 14] [] (.ite (.tmp 14) (.seq (.reg [
      .op (some 4) none (.mv (.const (.int .i64 0))),
      .op (some 5) none (.mv (.const (.int .i64 2)))])
    (.keep [4, 5] [] (.ret)))
    (.skip))))
  (.keep [0, 3] [] (.seq (.reg [
    .op (some 15) none (.mv (.tmp 0)),
    .op (some 16) none (.len (.tmp 15)),
    .op (some 17) none (.mkslice ty_int 1 8 false [(.int .i64 0)] (.tmp 16) (.tmp 16)),
    .op (some 6) none (.mv (.tmp 17))])
  (.keep [0, 3, 6] [17] (.seq /- 5 -/ (.seq (.reg [
    .op (some 18) none (.mv (.tmp 0)),
    .op (some 19) none (.len (.tmp 18)),
    .op (some 20) none (.mv (.const (.int .i64 0)))])
  (.keep [0, 3, 6, 18, 19, 20] [17] (rangeCC 0 20 19 21 1 (.seq (.reg [
      .op (some 22) none (.mv (.tmp 20)),
      .op (some 23) none (.iaddr 4 (.tmp 18) (.tmp 20)),
      .op (some 24) none (.load true 4 (.tmp 23)),
      .op (some 8) none (.alloc ty_Node [(.string ⟨#[]⟩), (.int .i64 0), (.int .i64 0), (.int .i64 0)]),
      .op (some 7) none (.mv (.tmp 22)),
      .op none none (.store none 4 (.tmp 8) (.tmp 24))])
    (.keep [0, 3, 6, 7, 8, 18, 19, 20] [8, 17] (.seq /- 8 -/ (.block 2 (.seq (.reg [
        .op (some 26) none (.faddr 0 (.tmp 8)),
        .op (some 27) none (.load false 1 (.tmp 26)),
        .op (some 28) none (.call f_r04_ValidName [(.tmp 27)]),
        .op (some 29) none (.not (.tmp 28)),
        .op (some 25) none (.mv (.tmp 29))])
      (.keep [0, 3, 6, 7, 8, 18, 19, 20, 25] [8, 17] (.ite (.tmp 25) (.seq (.reg [
          .op (some 30) none (.mv (.tmp 7)),
          .op (some 4) none (.mv (.tmp 30)),
          .op (some 5) none (.mv (.const (.int .i64 4)))])
        (.keep [4, 5] [] (.ret)))
        (.seq (.reg [
          .op (some 32) none (.load true 7 (.tmp 3)),
          .op (some 33) none (.faddr 1 (.tmp 8)),
          .op (some 34) none (.load false 1 (.tmp 33)),
          .op (some 35) none (.faddr 2 (.tmp 8)),
          .op (some 36) none (.load false 1 (.tmp 35)),
          .op (some 37) none (.call f_r06_within [(.tmp 32), (.tmp 34), (.tmp 36)]),
          .op (some 38) none (.not (.tmp 37)),
          .op (some 31) none (.mv (.tmp 38))])
        (.keep [0, 3, 6, 7, 8, 18, 19, 20, 31] [8, 17] (.ite (.tmp 31) (.seq (.reg [
            .op (some 39) none (.mv (.tmp 7)),
            .op (some 4) none (.mv (.tmp 39)),
            .op (some 5) none (.mv (.const (.int .i64 8)))])
          (.keep [4, 5] [] (.ret)))
          (.skip))))))))
    (.keep [0, 3, 6, 7, 8, 18, 19, 20] [8, 17] (.seq (.reg [
      .op (some 40) none (.mv (.tmp 7)),
      .op (some 41) none (.arith .sub (.tmp 40) (.const (.int .i64 1))),
      .op (some 9) none (.mv (.tmp 41))])
    (.keep [0, 3, 6, 7, 8, 9, 18, 19, 20] [8, 17] (seqM 14 (.block 3 (.loop 1 (.seq /- 15 -/ (.seq (.reg [
          .op (some 42) none (.mv (.tmp 9)),
          .op (some 43) none (.cmp .geq (.tmp 42) (.const (.int .i64 0))),
          .op (some 44) none (.mv (.tmp 43)),
          .op (some 45) (some (44, true)) (.mv (.tmp 9)),
          .op (some 46) (some (44, true)) (.faddr 3 (.tmp 8)),
          .op (some 47) (some (44, true)) (.load false 1 (.tmp 46)),
          .op (some 48) (some (44, true)) (.eql true false [.int] (.tmp 45) (.tmp 47)),
          .op (some 49) none (.pick (.tmp 44) (.tmp 48) (.const (.bool false)))])
        (.keep [0, 3, 6, 7, 8, 9, 18, 19, 20, 49] [8, 17] (.ite (.tmp 49) (.skip)
          (.exit 3))))
        (.keep [0, 3, 6, 7, 8, 9, 18, 19, 20] [8, 17] (.block 4 (.reg [
            .op (some 50) none (.mv (.tmp 0)),
            .op (some 51) none (.mv (.tmp 9)),
            .op (some 52) none (.iaddr 4 (.tmp 50) (.tmp 51)),
            .op (some 53) none (.faddr 3 (.tmp 52)),
            .op (some 54) none (.load false 1 (.tmp 53)),
            .op (some 9) none (.mv (.tmp 54))]))))))
    (.keep [0, 3, 6, 7, 8, 9, 18, 19, 20] [8, 17] (seqM 17 (.seq (.reg [
      .op (some 55) none (.mv (.tmp 9)),
      .op (some 56) none (.cmp .lss (.tmp 55) (.const (.int .i64 0))),
      .op (some 57) none (.mv (.tmp 56)),
      .op (some 58) (some (57, true)) (.faddr 3 (.tmp 8)),
      .op (some 59) (some (57, true)) (.load false 1 (.tmp 58)),
      .op (some 60) (some (57, true)) (.eql true false [.int] (.tmp 59) (.const (.int .i64 (-1)))),
      .op (some 61) none (.pick (.tmp 57) (.tmp 60) (.const (.bool false)))])
    (.keep [0, 3, 6, 7, 8, 18, 19, 20, 61] [8, 17] (.ite (.tmp 61) (.seq (.reg [
        .op (some 62) none (.mv (.tmp 7)),
        .op (some 4) none (.mv (.tmp 62)),
        .op (some 5) none (.mv (.const (.int .i64 6)))])
      (.keep [4, 5] [] (.ret)))
      (.skip))))
    (.keep [0, 3, 6, 7, 8, 18, 19, 20] [8, 17] (seqM 20 (.seq (.reg [
      .op (some 63) none (.faddr 3 (.tmp 8)),
      .op (some 64) none (.load false 1 (.tmp 63)),
      .op (some 65) none (.cmp .geq (.tmp 64) (.const (.int .i64 0)))])
    (.keep [0, 3, 6, 7, 8, 18, 19, 20, 65] [8, 17] (.ite (.tmp 65) (.seq (.reg [
        .op (some 66) none (.mv (.tmp 0)),
        .op (some 67) none (.faddr 3 (.tmp 8)),
        .op (some 68) none (.load false 1 (.tmp 67)),
        .op (some 69) none (.iaddr 4 (.tmp 66) (.tmp 68)),
        .op (some 70) none (.load true 4 (.tmp 69)),
        .op (some 10) none (.alloc ty_Node [(.string ⟨#[]⟩), (.int .i64 0), (.int .i64 0), (.int .i64 0)]),
        .op none none (.store none 4 (.tmp 10) (.tmp 70))])
      (.keep [0, 3, 6, 7, 8, 10, 18, 19, 20] [8, 10, 17] (.seq /- 23 -/ (.seq (.reg [
        .op (some 71) none (.faddr 1 (.tmp 8)),
        .op (some 72) none (.load false 1 (.tmp 71)),
        .op (some 73) none (.faddr 1 (.tmp 10)),
        .op (some 74) none (.load false 1 (.tmp 73)),
        .op (some 75) none (.cmp .lss (.tmp 72) (.tmp 74)),
        .op (some 76) none (.mv (.tmp 75)),
        .op (some 77) (some (76, false)) (.faddr 2 (.tmp 8)),
        .op (some 78) (some (76, false)) (.load false 1 (.tmp 77)),
        .op (some 79) (some (76, false)) (.faddr 2 (.tmp 10)),
        .op (some 80) (some (76, false)) (.load false 1 (.tmp 79)),
        .op (some 81) (some (76, false)) (.cmp .gtr (.tmp 78) (.tmp 80)),
        .op (some 82) none (.pick (.tmp 76) (.const (.bool true)) (.tmp 81))])
      (.keep [0, 3, 6, 7, 8, 18, 19, 20, 82] [8, 17] (.ite (.tmp 82) (.seq (.reg [
          .op (some 83) none (.mv (.tmp 7)),
          .op (some 4) none (.mv (.tmp 83)),
          .op (some 5) none (.mv (.const (.int .i64 8)))])
        (.keep [4, 5] [] (.ret)))
        (.skip))))
      (.keep [0, 3, 6, 7, 8, 18, 19, 20] [8, 17] (.reg [
        .op (some 84) none (.mv (.tmp 6)),
        .op (some 85) none (.mv (.tmp 7)),
        .op (some 86) none (.mv (.tmp 6)),
        .op (some 87) none (.faddr 3 (.tmp 8)),
        .op (some 88) none (.load false 1 (.tmp 87)),
        .op (some 89) none (.iaddr 1 (.tmp 86) (.tmp 88)),
        .op (some 90) none (.load false 1 (.tmp 89)),
        .op (some 91) none (.iaddr 1 (.tmp 84) (.tmp 85)),
        .op none none (.store none 1 (.tmp 91) (.tmp 90))])))))
      (.skip))))
    (.keep [0, 3, 6, 7, 8, 18, 19, 20] [8, 17] (seqM 26 (.seq (.reg [
      .op (some 92) none (.mv (.tmp 7)),
      .op (some 93) none (.arith .sub (.tmp 92) (.const (.int .i64 1))),
      .op (some 11) none (.mv (.tmp 93))])
    (.keep [0, 3, 6, 7, 8, 11, 18, 19, 20] [8, 17] (.block 5 (.loop 2 (.seq /- 28 -/ (.seq (.reg [
          .op (some 94) none (.mv (.tmp 11)),
          .op (some 95) none (.cmp .geq (.tmp 94) (.const (.int .i64 0)))])
        (.keep [0, 3, 6, 7, 8, 11, 18, 19, 20, 95] [8, 17] (.ite (.tmp 95) (.skip)
          (.exit 5))))
        (.keep [0, 3, 6, 7, 8, 11, 18, 19, 20] [8, 17] (.seq /- 30 -/ (.block 6 (.seq (.regd [
            .op (some 98) none (.mv (.tmp 0)),
            .op (some 99) none (.mv (.tmp 11)),
            .op (some 100) none (.iaddr 4 (.tmp 98) (.tmp 99)),
            .op (some 101) none (.faddr 3 (.tmp 100)),
            .op (some 102) none (.load false 1 (.tmp 101)),
            .op (some 103) none (.faddr 3 (.tmp 8)),
            .op (some 104) none (.load false 1 (.tmp 103))] [
            .op (some 105) none (.eql false false [.int] (.tmp 102) (.tmp 104))])
          (.keep [0, 3, 6, 7, 8, 11, 18, 19, 20, 105] [8, 17] (.ite (.tmp 105) (.seq /- 32 -/ (.seq (.regd [
              .op (some 106) none (.faddr 1 (.tmp 8)),
              .op (some 107) none (.load false 1 (.tmp 106)),
              .op (some 108) none (.mv (.tmp 0)),
              .op (some 109) none (.mv (.tmp 11)),
              .op (some 110) none (.iaddr 4 (.tmp 108) (.tmp 109)),
              .op (some 111) none (.faddr 2 (.tmp 110)),
              .op (some 112) none (.load false 1 (.tmp 111))] [
              .op (some 113) none (.cmp .lss (.tmp 107) (.tmp 112))])
            (.keep [0, 3, 6, 7, 18, 19, 20, 113] [17] (.ite (.tmp 113) (.seq (.reg [
                .op (some 114) none (.mv (.tmp 7)),
                .op (some 4) none (.mv (.tmp 114)),
                .op (some 5) none (.mv (.const (.int .i64 8)))])
              (.keep [4, 5] [] (.ret)))
              (.skip))))
            (.keep [0, 3, 6, 7, 18, 19, 20] [17] (.exit 5)))
            (.skip)))))
        (.keep [0, 3, 6, 7, 8, 11, 18, 19, 20] [8, 17] (.reg [
          .op (some 96) none (.mv (.tmp 11)),
          .op (some 97) none (.arith .sub (.tmp 96) (.const (.int .i64 1))),
          .op (some 11) none (.mv (.tmp 97))])))))))))
    (.keep [0, 3, 6, 7, 18, 19, 20] [17] (.seq (.reg [
      .op (some 115) none (.mv (.tmp 6)),
      .op (some 116) none (.mv (.tmp 7)),
      .op (some 117) none (.iaddr 1 (.tmp 115) (.tmp 116)),
      .op (some 118) none (.load false 1 (.tmp 117)),
      .op (some 119) none (.arith .add (.tmp 118) (.const (.int .i64 1))),
      .op (some 120) none (.iaddr 1 (.tmp 115) (.tmp 116)),
      .op none none (.store none 1 (.tmp 120) (.tmp 119))])
    (.keep [0, 3, 6, 7, 18, 19, 20] [17] (.seq (.reg [
      .op (some 121) none (.mv (.tmp 6)),
      .op (some 122) none (.mv (.tmp 7)),
      .op (some 123) none (.iaddr 1 (.tmp 121) (.tmp 122)),
      .op (some 124) none (.load false 1 (.tmp 123)),
      .op (some 125) none (.cmp .gtr (.tmp 124) (.const (.int .i64 40)))])
    (.keep [0, 3, 6, 7, 18, 19, 20, 125] [17] (.ite (.tmp 125) (.seq (.reg [
        .op (some 126) none (.mv (.tmp 7)),
        .op (some 4) none (.mv (.tmp 126)),
        .op (some 5) none (.mv (.const (.int .i64 2)))])
      (.keep [4, 5] [] (.ret)))
      (.skip)))))))))))))))))))) 127)))
  (.keep [] [] (.seq (.reg [
    .op (some 4) none (.mv (.const (.int .i64 0))),
    .op (some 5) none (.mv (.const (.int .i64 0)))])
  (.keep [4, 5] [] (.ret))))))))))
def rs_r06_Nodes : List CRes := [.tmp 4, .tmp 5]
def im_r06_Nodes : List Nat := [3]
theorem ok_r06_Nodes : FnOk Try.prog f_r06_Nodes im_r06_Nodes cc_r06_Nodes rs_r06_Nodes 128 := fnOk1 mixed (by kernel_rfl)
-- r06_heads range i=38 n=37 c=39 i2=85 id=0: live [1:c, 4:n, 36:] changed [] res []
/-- corpora/corporaref06.heads [Corpus] -> [int, Errno] -/
def cc_r06_heads : CC :=
  .seq (.reg [
    .op (some 1) none (.box ty_Corpus true (.tmp 0)),
    .op (some 2) none (.mv (.const (.int .i64 0))),
    .op (some 3) none (.mv (.const (.int .i64 0)))])
  (.keep [1] [] (.seq (.reg [
    .op (some 7) none (.faddr 5 (.tmp 1)),
    .op (some 8) none (.load false 1 (.tmp 7)),
    .op (some 9) none (.len (.tmp 8)),
    .op (some 4) none (.mv (.tmp 9))])
  (.keep [1, 4] [] (seqM 2 (.seq (.reg [
    .op (some 10) none (.mv (.tmp 4)),
    .op (some 11) none (.faddr 6 (.tmp 1)),
    .op (some 12) none (.load false 1 (.tmp 11)),
    .op (some 13) none (.len (.tmp 12)),
    .op (some 14) none (.eql true false [.int] (.tmp 10) (.tmp 13)),
    .op (some 15) none (.mv (.tmp 14)),
    .op (some 16) (some (15, false)) (.mv (.tmp 4)),
    .op (some 17) (some (15, false)) (.eql true false [.int] (.tmp 16) (.const (.int .i64 0))),
    .op (some 18) (some (15, false)) (.mv (.tmp 17)),
    .op (some 19) (some (18, true)) (.mv (.tmp 4)),
    .op (some 20) (some (18, true)) (.faddr 1 (.tmp 1)),
    .op (some 21) (some (18, true)) (.load false 1 (.tmp 20)),
    .op (some 22) (some (18, true)) (.len (.tmp 21)),
    .op (some 23) (some (18, true)) (.eql true false [.int] (.tmp 19) (.tmp 22)),
    .op (some 24) (some (15, false)) (.pick (.tmp 18) (.tmp 23) (.const (.bool false))),
    .op (some 25) none (.pick (.tmp 15) (.const (.bool true)) (.tmp 24))])
  (.keep [1, 4, 25] [] (.ite (.tmp 25) (.seq (.reg [
      .op (some 2) none (.mv (.const (.int .i64 0))),
      .op (some 3) none (.mv (.const (.int .i64 15)))])
    (.keep [2, 3] [] (.ret)))
    (.skip))))
  (.keep [1, 4] [] (seqM 5 (.seq (.reg [
    .op (some 26) none (.mv (.tmp 4)),
    .op (some 27) none (.cmp .gtr (.tmp 26) (.const (.int .i64 0))),
    .op (some 28) none (.mv (.tmp 27)),
    .op (some 29) (some (28, true)) (.faddr 5 (.tmp 1)),
    .op (some 30) (some (28, true)) (.load false 1 (.tmp 29)),
    .op (some 31) (some (28, true)) (.faddr 6 (.tmp 1)),
    .op (some 32) (some (28, true)) (.load false 1 (.tmp 31)),
    .op (some 33) (some (28, true)) (.call f_r06_bare [(.tmp 30), (.tmp 32)]),
    .op (some 34) none (.pick (.tmp 28) (.tmp 33) (.const (.bool false)))])
  (.keep [1, 4, 34] [] (.ite (.tmp 34) (.seq (.reg [
      .op (some 2) none (.mv (.const (.int .i64 0))),
      .op (some 3) none (.mv (.const (.int .i64 14)))])
    (.keep [2, 3] [] (.ret)))
    (.skip))))
  (.keep [1, 4] [] (.seq /- 8 -/ (.seq (.reg [
    .op (some 35) none (.faddr 5 (.tmp 1)),
    .op (some 36) none (.load false 1 (.tmp 35)),
    .op (some 37) none (.len (.tmp 36)),
    .op (some 38) none (.mv (.const (.int .i64 0)))])
  (.keep [1, 4, 36, 37, 38] [] (rangeCC 0 38 37 39 1 (.seq (.reg [
      .op (some 40) none (.mv (.tmp 38)),
      .op (some 41) none (.iaddr 1 (.tmp 36) (.tmp 38)),
      .op (some 42) none (.load false 1 (.tmp 41)),
      .op (some 5) none (.mv (.tmp 40)),
      .op (some 6) none (.mv (.tmp 42))])
    (.keep [1, 4, 5, 6, 36, 37, 38] [] (seqM 11 (.seq (.regd [
      .op (some 43) none (.mv (.tmp 6)),
      .op (some 44) none (.eql true false [.int] (.tmp 43) (.const (.int .i64 (-1)))),
      .op (some 45) none (.mv (.tmp 44)),
      .op (some 46) (some (45, true)) (.mv (.tmp 6)),
      .op (some 47) (some (45, true)) (.cmp .lss (.tmp 46) (.const (.int .i64 0))),
      .op (some 48) (some (45, true)) (.mv (.tmp 47)),
      .op (some 49) (some (48, false)) (.mv (.tmp 6)),
      .op (some 50) (some (48, false)) (.mv (.tmp 4)),
      .op (some 51) (some (48, false)) (.cmp .geq (.tmp 49) (.tmp 50)),
      .op (some 52) (some (45, true)) (.pick (.tmp 48) (.const (.bool true)) (.tmp 51)),
      .op (some 53) (some (45, true)) (.mv (.tmp 52)),
      .op (some 54) (some (53, false)) (.load true 7 (.tmp 1)),
      .op (some 55) (some (53, false)) (.mv (.tmp 6)),
      .op (some 56) (some (53, false)) (.call f_r06_TextAt [(.tmp 54), (.tmp 55)]),
      .op (some 57) (some (53, false)) (.load true 7 (.tmp 1)),
      .op (some 58) (some (53, false)) (.mv (.tmp 5))] [
      .op (some 59) (some (53, false)) (.call f_r06_TextAt [(.tmp 57), (.tmp 58)]),
      .op (some 60) (some (53, false)) (.eql true false [.int] (.tmp 56) (.tmp 59)),
      .op (some 61) (some (45, true)) (.pick (.tmp 53) (.const (.bool true)) (.tmp 60)),
      .op (some 62) none (.pick (.tmp 45) (.tmp 61) (.const (.bool false)))])
    (.keep [1, 4, 5, 36, 37, 38, 62] [] (.ite (.tmp 62) (.seq (.reg [
        .op (some 63) none (.mv (.tmp 5)),
        .op (some 2) none (.mv (.tmp 63)),
        .op (some 3) none (.mv (.const (.int .i64 8)))])
      (.keep [2, 3] [] (.ret)))
      (.skip))))
    (.keep [1, 4, 5, 36, 37, 38] [] (seqM 14 (.seq (.reg [
      .op (some 64) none (.faddr 6 (.tmp 1)),
      .op (some 65) none (.load false 1 (.tmp 64)),
      .op (some 66) none (.mv (.tmp 5)),
      .op (some 67) none (.iaddr 1 (.tmp 65) (.tmp 66)),
      .op (some 68) none (.load false 1 (.tmp 67)),
      .op (some 69) none (.eql true false [.str] (.tmp 68) (.const (.string ⟨#[]⟩))),
      .op (some 70) none (.mv (.tmp 69)),
      .op (some 71) (some (70, true)) (.faddr 6 (.tmp 1)),
      .op (some 72) (some (70, true)) (.load false 1 (.tmp 71)),
      .op (some 73) (some (70, true)) (.mv (.tmp 5)),
      .op (some 74) (some (70, true)) (.iaddr 1 (.tmp 72) (.tmp 73)),
      .op (some 75) (some (70, true)) (.load false 1 (.tmp 74)),
      .op (some 76) (some (70, true)) (.call f_r04_ValidName [(.tmp 75)]),
      .op (some 77) (some (70, true)) (.not (.tmp 76)),
      .op (some 78) none (.pick (.tmp 70) (.tmp 77) (.const (.bool false)))])
    (.keep [1, 4, 5, 36, 37, 38, 78] [] (.ite (.tmp 78) (.seq (.reg [
        .op (some 79) none (.mv (.tmp 5)),
        .op (some 2) none (.mv (.tmp 79)),
        .op (some 3) none (.mv (.const (.int .i64 4)))])
      (.keep [2, 3] [] (.ret)))
      (.skip))))
    (.keep [1, 4, 5, 36, 37, 38] [] (.seq (.reg [
      .op (some 80) none (.faddr 5 (.tmp 1)),
      .op (some 81) none (.load false 1 (.tmp 80)),
      .op (some 82) none (.mv (.tmp 5)),
      .op (some 83) none (.call f_r06_cyclic [(.tmp 81), (.tmp 82)])])
    (.keep [1, 4, 5, 36, 37, 38, 83] [] (.ite (.tmp 83) (.seq (.reg [
        .op (some 84) none (.mv (.tmp 5)),
        .op (some 2) none (.mv (.tmp 84)),
        .op (some 3) none (.mv (.const (.int .i64 12)))])
      (.keep [2, 3] [] (.ret)))
      (.skip)))))))))) 85)))
  (.keep [] [] (.seq (.reg [
    .op (some 2) none (.mv (.const (.int .i64 0))),
    .op (some 3) none (.mv (.const (.int .i64 0)))])
  (.keep [2, 3] [] (.ret))))))))))))
def rs_r06_heads : List CRes := [.tmp 2, .tmp 3]
def im_r06_heads : List Nat := [1]
theorem ok_r06_heads : FnOk Try.prog f_r06_heads im_r06_heads cc_r06_heads rs_r06_heads 86 := fnOk1 mixed (by kernel_rfl)
/-- corpora/corporaref06.Validate [Corpus] -> [int, int, Errno] -/
def cc_r06_Validate : CC :=
  .seq (.reg [
    .op (some 1) none (.box ty_Corpus true (.tmp 0)),
    .op (some 2) none (.mv (.const (.int .i64 0))),
    .op (some 3) none (.mv (.const (.int .i64 0))),
    .op (some 4) none (.mv (.const (.int .i64 0)))])
  (.keep [1] [] (.seq (.seq (.reg [
    .op (some 18) none (.faddr 0 (.tmp 1)),
    .op (some 19) none (.load false 1 (.tmp 18)),
    .op (some 20) none (.call f_r06_Attributes [(.tmp 19)]),
    .op (some 17) none (.mv (.tmp 20)),
    .op (some 21) none (.ext (.tmp 17) 0),
    .op (some 22) none (.ext (.tmp 17) 1),
    .op (some 5) none (.mv (.tmp 21)),
    .op (some 6) none (.mv (.tmp 22))])
  (.keep [1, 5, 6] [] (.seq (.reg [
    .op (some 23) none (.mv (.tmp 6)),
    .op (some 24) none (.eql true false [.int] (.tmp 23) (.const (.int .i64 0)))])
  (.keep [1, 5, 6, 24] [] (.ite (.tmp 24) (.seq (.reg [
      .op (some 25) none (.mv (.tmp 5)),
      .op (some 26) none (.mv (.tmp 6)),
      .op (some 2) none (.mv (.const (.int .i64 1))),
      .op (some 3) none (.mv (.tmp 25)),
      .op (some 4) none (.mv (.tmp 26))])
    (.keep [2, 3, 4] [] (.ret)))
    (.skip))))))
  (.keep [1] [] (.seq (.seq (.reg [
    .op (some 28) none (.load true 7 (.tmp 1)),
    .op (some 29) none (.call f_r06_tokens [(.tmp 28)]),
    .op (some 27) none (.mv (.tmp 29)),
    .op (some 30) none (.ext (.tmp 27) 0),
    .op (some 31) none (.ext (.tmp 27) 1),
    .op (some 7) none (.mv (.tmp 30)),
    .op (some 8) none (.mv (.tmp 31))])
  (.keep [1, 7, 8] [] (.seq (.reg [
    .op (some 32) none (.mv (.tmp 8)),
    .op (some 33) none (.eql true false [.int] (.tmp 32) (.const (.int .i64 0)))])
  (.keep [1, 7, 8, 33] [] (.ite (.tmp 33) (.seq (.reg [
      .op (some 34) none (.mv (.tmp 7)),
      .op (some 35) none (.mv (.tmp 8)),
      .op (some 2) none (.mv (.const (.int .i64 2))),
      .op (some 3) none (.mv (.tmp 34)),
      .op (some 4) none (.mv (.tmp 35))])
    (.keep [2, 3, 4] [] (.ret)))
    (.skip))))))
  (.keep [1] [] (.seq (.seq (.reg [
    .op (some 37) none (.load true 7 (.tmp 1)),
    .op (some 38) none (.call f_r06_texts [(.tmp 37)]),
    .op (some 36) none (.mv (.tmp 38)),
    .op (some 39) none (.ext (.tmp 36) 0),
    .op (some 40) none (.ext (.tmp 36) 1),
    .op (some 9) none (.mv (.tmp 39)),
    .op (some 10) none (.mv (.tmp 40))])
  (.keep [1, 9, 10] [] (.seq (.reg [
    .op (some 41) none (.mv (.tmp 10)),
    .op (some 42) none (.eql true false [.int] (.tmp 41) (.const (.int .i64 0)))])
  (.keep [1, 9, 10, 42] [] (.ite (.tmp 42) (.seq (.reg [
      .op (some 43) none (.mv (.tmp 9)),
      .op (some 44) none (.mv (.tmp 10)),
      .op (some 2) none (.mv (.const (.int .i64 3))),
      .op (some 3) none (.mv (.tmp 43)),
      .op (some 4) none (.mv (.tmp 44))])
    (.keep [2, 3, 4] [] (.ret)))
    (.skip))))))
  (.keep [1] [] (.seq (.seq (.reg [
    .op (some 46) none (.load true 7 (.tmp 1)),
    .op (some 47) none (.call f_r06_regions [(.tmp 46)]),
    .op (some 45) none (.mv (.tmp 47)),
    .op (some 48) none (.ext (.tmp 45) 0),
    .op (some 49) none (.ext (.tmp 45) 1),
    .op (some 11) none (.mv (.tmp 48)),
    .op (some 12) none (.mv (.tmp 49))])
  (.keep [1, 11, 12] [] (.seq (.reg [
    .op (some 50) none (.mv (.tmp 12)),
    .op (some 51) none (.eql true false [.int] (.tmp 50) (.const (.int .i64 0)))])
  (.keep [1, 11, 12, 51] [] (.ite (.tmp 51) (.seq (.reg [
      .op (some 52) none (.mv (.tmp 11)),
      .op (some 53) none (.mv (.tmp 12)),
      .op (some 2) none (.mv (.const (.int .i64 4))),
      .op (some 3) none (.mv (.tmp 52)),
      .op (some 4) none (.mv (.tmp 53))])
    (.keep [2, 3, 4] [] (.ret)))
    (.skip))))))
  (.keep [1] [] (.seq (.seq (.reg [
    .op (some 55) none (.faddr 4 (.tmp 1)),
    .op (some 56) none (.load false 1 (.tmp 55)),
    .op (some 57) none (.load true 7 (.tmp 1)),
    .op (some 58) none (.call f_r06_Nodes [(.tmp 56), (.tmp 57)]),
    .op (some 54) none (.mv (.tmp 58)),
    .op (some 59) none (.ext (.tmp 54) 0),
    .op (some 60) none (.ext (.tmp 54) 1),
    .op (some 13) none (.mv (.tmp 59)),
    .op (some 14) none (.mv (.tmp 60))])
  (.keep [1, 13, 14] [] (.seq (.reg [
    .op (some 61) none (.mv (.tmp 14)),
    .op (some 62) none (.eql true false [.int] (.tmp 61) (.const (.int .i64 0)))])
  (.keep [1, 13, 14, 62] [] (.ite (.tmp 62) (.seq (.reg [
      .op (some 63) none (.mv (.tmp 13)),
      .op (some 64) none (.mv (.tmp 14)),
      .op (some 2) none (.mv (.const (.int .i64 5))),
      .op (some 3) none (.mv (.tmp 63)),
      .op (some 4) none (.mv (.tmp 64))])
    (.keep [2, 3, 4] [] (.ret)))
    (.skip))))))
  (.keep [1] [] (.seq (.seq (.reg [
    .op (some 66) none (.load true 7 (.tmp 1)),
    .op (some 67) none (.call f_r06_heads [(.tmp 66)]),
    .op (some 65) none (.mv (.tmp 67)),
    .op (some 68) none (.ext (.tmp 65) 0),
    .op (some 69) none (.ext (.tmp 65) 1),
    .op (some 15) none (.mv (.tmp 68)),
    .op (some 16) none (.mv (.tmp 69))])
  (.keep [15, 16] [] (.seq (.reg [
    .op (some 70) none (.mv (.tmp 16)),
    .op (some 71) none (.eql true false [.int] (.tmp 70) (.const (.int .i64 0)))])
  (.keep [15, 16, 71] [] (.ite (.tmp 71) (.seq (.reg [
      .op (some 72) none (.mv (.tmp 15)),
      .op (some 73) none (.mv (.tmp 16)),
      .op (some 2) none (.mv (.const (.int .i64 6))),
      .op (some 3) none (.mv (.tmp 72)),
      .op (some 4) none (.mv (.tmp 73))])
    (.keep [2, 3, 4] [] (.ret)))
    (.skip))))))
  (.keep [] [] (.seq (.reg [
    .op (some 2) none (.mv (.const (.int .i64 0))),
    .op (some 3) none (.mv (.const (.int .i64 0))),
    .op (some 4) none (.mv (.const (.int .i64 0)))])
  (.keep [2, 3, 4] [] (.ret))))))))))))))))
def rs_r06_Validate : List CRes := [.tmp 2, .tmp 3, .tmp 4]
def im_r06_Validate : List Nat := [1]
theorem ok_r06_Validate : FnOk Try.prog f_r06_Validate im_r06_Validate cc_r06_Validate rs_r06_Validate 74 := fnOk1 mixed (by kernel_rfl)
/-- corpora/corporaref06.Valid [Corpus] -> [bool] -/
def cc_r06_Valid : CC :=
  .seq (.reg [
    .op (some 1) none (.box ty_Corpus true (.tmp 0)),
    .op (some 2) none (.mv (.const (.bool false)))])
  (.keep [1] [] (.seq (.reg [
    .op (some 7) none (.load true 7 (.tmp 1)),
    .op (some 8) none (.call f_r06_Validate [(.tmp 7)]),
    .op (some 6) none (.mv (.tmp 8)),
    .op (some 9) none (.ext (.tmp 6) 0),
    .op (some 10) none (.ext (.tmp 6) 1),
    .op (some 11) none (.ext (.tmp 6) 2),
    .op (some 3) none (.mv (.tmp 9)),
    .op (some 4) none (.mv (.tmp 10)),
    .op (some 5) none (.mv (.tmp 11))])
  (.keep [5] [] (.seq (.reg [
    .op (some 12) none (.mv (.tmp 5)),
    .op (some 13) none (.eql false false [.int] (.tmp 12) (.const (.int .i64 0))),
    .op (some 2) none (.mv (.tmp 13))])
  (.keep [2] [] (.ret))))))
def rs_r06_Valid : List CRes := [.tmp 2]
def im_r06_Valid : List Nat := [1]
theorem ok_r06_Valid : FnOk Try.prog f_r06_Valid im_r06_Valid cc_r06_Valid rs_r06_Valid 14 := fnOk1 mixed (by kernel_rfl)
-- r06_sameAttributes range i=13 n=12 c=14 i2=25 id=0: live [0:a, 1:b] changed [] res []
/-- corpora/corporaref06.sameAttributes [L_Attribute, L_Attribute] -> [bool] -/
def cc_r06_sameAttributes : CC :=
  .seq (.reg [
    .op (some 4) none (.mv (.const (.bool false)))])
  (.keep [0, 1] [] (.seq /- 1 -/ (.seq (.reg [
    .op (some 6) none (.mv (.tmp 0)),
    .op (some 7) none (.len (.tmp 6)),
    .op (some 8) none (.mv (.tmp 1)),
    .op (some 9) none (.len (.tmp 8)),
    .op (some 10) none (.eql true false [.int] (.tmp 7) (.tmp 9))])
  (.keep [0, 1, 10] [] (.ite (.tmp 10) (.seq (.reg [
      .op (some 4) none (.mv (.const (.bool false)))])
    (.keep [4] [] (.ret)))
    (.skip))))
  (.keep [0, 1] [] (.seq /- 4 -/ (.seq (.reg [
    .op (some 11) none (.mv (.tmp 0)),
    .op (some 12) none (.len (.tmp 11)),
    .op (some 13) none (.mv (.const (.int .i64 0)))])
  (.keep [0, 1, 12, 13] [] (rangeCC 0 13 12 14 1 (.seq (.reg [
      .op (some 15) none (.mv (.tmp 13)),
      .op (some 5) none (.mv (.tmp 15))])
    (.keep [0, 1, 5, 12, 13] [] (.seq (.regd [
      .op (some 16) none (.mv (.tmp 0)),
      .op (some 17) none (.mv (.tmp 5)),
      .op (some 18) none (.iaddr 2 (.tmp 16) (.tmp 17)),
      .op (some 19) none (.load true 2 (.tmp 18)),
      .op (some 20) none (.mv (.tmp 1)),
      .op (some 21) none (.mv (.tmp 5)),
      .op (some 22) none (.iaddr 2 (.tmp 20) (.tmp 21)),
      .op (some 23) none (.load true 2 (.tmp 22))] [
      .op (some 24) none (.eql true true [.str, .bool] (.tmp 19) (.tmp 23))])
    (.keep [0, 1, 12, 13, 24] [] (.ite (.tmp 24) (.seq (.reg [
        .op (some 4) none (.mv (.const (.bool false)))])
      (.keep [4] [] (.ret)))
      (.skip)))))) 25)))
  (.keep [] [] (.seq (.reg [
    .op (some 4) none (.mv (.const (.bool true)))])
  (.keep [4] [] (.ret))))))))
def rs_r06_sameAttributes : List CRes := [.tmp 4]
def im_r06_sameAttributes : List Nat := []
theorem ok_r06_sameAttributes : FnOk Try.prog f_r06_sameAttributes im_r06_sameAttributes cc_r06_sameAttributes rs_r06_sameAttributes 26 := fnOk1 mixed (by kernel_rfl)
-- r06_FindText range i=10 n=9 c=11 i2=20 id=0: live [1:name, 8:] changed [] res []
/-- corpora/corporaref06.FindText [Corpus, string] -> [int] -/
def cc_r06_FindText : CC :=
  .seq (.reg [
    .op (some 2) none (.box ty_Corpus true (.tmp 0)),
    .op (some 4) none (.mv (.const (.int .i64 0)))])
  (.keep [1, 2] [] (.seq /- 1 -/ (.seq (.reg [
    .op (some 7) none (.faddr 2 (.tmp 2)),
    .op (some 8) none (.load false 1 (.tmp 7)),
    .op (some 9) none (.len (.tmp 8)),
    .op (some 10) none (.mv (.const (.int .i64 0)))])
  (.keep [1, 8, 9, 10] [] (rangeCC 0 10 9 11 1 (.seq (.reg [
      .op (some 12) none (.mv (.tmp 10)),
      .op (some 13) none (.iaddr 4 (.tmp 8) (.tmp 10)),
      .op (some 14) none (.load true 4 (.tmp 13)),
      .op (some 6) none (.alloc ty_Text [(.string ⟨#[]⟩), (.int .i64 0), (.int .i64 0), (.slice none 0 0)]),
      .op (some 5) none (.mv (.tmp 12)),
      .op none none (.store none 4 (.tmp 6) (.tmp 14))])
    (.keep [1, 5, 6, 8, 9, 10] [6] (.seq (.reg [
      .op (some 15) none (.faddr 0 (.tmp 6)),
      .op (some 16) none (.load false 1 (.tmp 15)),
      .op (some 17) none (.mv (.tmp 1)),
      .op (some 18) none (.eql false false [.str] (.tmp 16) (.tmp 17))])
    (.keep [1, 5, 8, 9, 10, 18] [] (.ite (.tmp 18) (.seq (.reg [
        .op (some 19) none (.mv (.tmp 5)),
        .op (some 4) none (.mv (.tmp 19))])
      (.keep [4] [] (.ret)))
      (.skip)))))) 20)))
  (.keep [] [] (.seq (.reg [
    .op (some 4) none (.mv (.const (.int .i64 (-1))))])
  (.keep [4] [] (.ret))))))
def rs_r06_FindText : List CRes := [.tmp 4]
def im_r06_FindText : List Nat := [2]
theorem ok_r06_FindText : FnOk Try.prog f_r06_FindText im_r06_FindText cc_r06_FindText rs_r06_FindText 21 := fnOk1 mixed (by kernel_rfl)
-- r06_allHeads range i=20 n=19 c=21 i2=26 id=0: live [1:c, 4:l] changed [] res [17]
/-- corpora/corporaref06.allHeads [Corpus] -> [L_int, L_string] -/
def cc_r06_allHeads : CC :=
  .seq (.reg [
    .op (some 1) none (.box ty_Corpus true (.tmp 0)),
    .op (some 2) none (.mv (.const (.slice none 0 0))),
    .op (some 3) none (.mv (.const (.slice none 0 0)))])
  (.keep [1] [] (.seq /- 1 -/ (.seq (.reg [
    .op (some 6) none (.faddr 5 (.tmp 1)),
    .op (some 7) none (.load false 1 (.tmp 6)),
    .op (some 8) none (.len (.tmp 7)),
    .op (some 9) none (.cmp .gtr (.tmp 8) (.const (.int .i64 0)))])
  (.keep [1, 9] [] (.ite (.tmp 9) (.seq (.regd [
      .op (some 10) none (.faddr 5 (.tmp 1)),
      .op (some 11) none (.load false 1 (.tmp 10)),
      .op (some 12) none (.faddr 6 (.tmp 1)),
      .op (some 13) none (.load false 1 (.tmp 12)),
      .op (some 2) none (.mv (.tmp 11))] [
      .op (some 3) none (.mv (.tmp 13))])
    (.keep [2, 3] [17, 31] (.ret)))
    (.skip))))
  (.keep [1] [] (.seq (.reg [
    .op (some 14) none (.faddr 1 (.tmp 1)),
    .op (some 15) none (.load false 1 (.tmp 14)),
    .op (some 16) none (.len (.tmp 15)),
    .op (some 17) none (.mkslice ty_int 1 8 false [(.int .i64 0)] (.tmp 16) (.tmp 16)),
    .op (some 4) none (.mv (.tmp 17))])
  (.keep [1, 4] [17] (.seq /- 5 -/ (.seq (.reg [
    .op (some 18) none (.mv (.tmp 4)),
    .op (some 19) none (.len (.tmp 18)),
    .op (some 20) none (.mv (.const (.int .i64 0)))])
  (.keep [1, 4, 19, 20] [17] (rangeCC 0 20 19 21 1 (.seq (.reg [
      .op (some 22) none (.mv (.tmp 20)),
      .op (some 5) none (.mv (.tmp 22))])
    (.keep [1, 4, 5, 19, 20] [17] (.reg [
      .op (some 23) none (.mv (.tmp 4)),
      .op (some 24) none (.mv (.tmp 5)),
      .op (some 25) none (.iaddr 1 (.tmp 23) (.tmp 24)),
      .op none none (.store none 1 (.tmp 25) (.const (.int .i64 (-1))))]))) 26)))
  (.keep [1, 4] [17] (.seq (.regd [
    .op (some 27) none (.mv (.tmp 4)),
    .op (some 28) none (.faddr 1 (.tmp 1)),
    .op (some 29) none (.load false 1 (.tmp 28)),
    .op (some 30) none (.len (.tmp 29)),
    .op (some 31) none (.mkslice ty_string 1 16 false [(.string ⟨#[]⟩)] (.tmp 30) (.tmp 30)),
    .op (some 2) none (.mv (.tmp 27))] [
    .op (some 3) none (.mv (.tmp 31))])
  (.keep [2, 3] [17, 31] (.ret))))))))))
def rs_r06_allHeads : List CRes := [.tmp 2, .tmp 3]
def im_r06_allHeads : List Nat := [1]
theorem ok_r06_allHeads : FnOk Try.prog f_r06_allHeads im_r06_allHeads cc_r06_allHeads rs_r06_allHeads 32 := fnOk1 mixed (by kernel_rfl)
-- r06_Concat range i=39 n=38 c=40 i2=49 id=0: live [2:a, 3:b, 4:, 37:] changed [] res [4, 93, 97, 100, 104, 107, 141, 144, 178, 181, 247, 249, 251, 269]
-- r06_Concat while id=0: live [2:a, 3:b, 4:, 8:n, 9:m, 10:c, 11:i] changed [11] res [4, 10, 93, 97, 100, 104, 107, 141, 144, 178, 181, 247, 249, 251, 269]
-- r06_Concat while id=0: live [2:a, 3:b, 4:, 8:n, 9:m, 10:c, 12:i] changed [12] res [4, 10, 93, 97, 100, 104, 107, 141, 144, 178, 181, 247, 249, 251, 269]
-- r06_Concat while id=0: live [2:a, 3:b, 4:, 8:n, 9:m, 10:c, 13:i] changed [13] res [4, 10, 93, 97, 100, 104, 107, 141, 144, 178, 181, 247, 249, 251, 269]
-- r06_Concat range i=256 n=255 c=257 i2=271 id=8: live [4:, 8:n, 10:c, 254:] changed [] res [4, 10, 93, 97, 100, 104, 107, 141, 144, 178, 181, 247, 249, 251, 269]
/-- corpora/corporaref06.Concat [Corpus, Corpus] -> [Corpus, Errno] -/
def cc_r06_Concat : CC :=
  .seq (.reg [
    .op (some 2) none (.box ty_Corpus true (.tmp 0)),
    .op (some 3) none (.box ty_Corpus true (.tmp 1)),
    .op (some 4) none (.alloc ty_Corpus [(.slice none 0 0), (.slice none 0 0), (.slice none 0 0), (.slice none 0 0), (.slice none 0 0), (.slice none 0 0), (.slice none 0 0)]),
    .op (some 5) none (.mv (.const (.int .i64 0)))])
  (.keep [2, 3, 4] [4, 93, 97, 100, 104, 107, 141, 144, 178, 181, 247, 249, 251, 269] (.seq /- 1 -/ (.seq (.reg [
    .op (some 20) none (.load true 7 (.tmp 2)),
    .op (some 21) none (.call f_r06_Valid [(.tmp 20)]),
    .op (some 22) none (.not (.tmp 21)),
    .op (some 23) none (.mv (.tmp 22)),
    .op (some 24) (some (23, false)) (.load true 7 (.tmp 3)),
    .op (some 25) (some (23, false)) (.call f_r06_Valid [(.tmp 24)]),
    .op (some 26) (some (23, false)) (.not (.tmp 25)),
    .op (some 27) none (.pick (.tmp 23) (.const (.bool true)) (.tmp 26))])
  (.keep [2, 3, 4, 27] [4, 93, 97, 100, 104, 107, 141, 144, 178, 181, 247, 249, 251, 269] (.ite (.tmp 27) (.seq (.reg [
      .op (some 28) none (.build [(.slice none 0 0), (.slice none 0 0), (.slice none 0 0), (.slice none 0 0), (.slice none 0 0), (.slice none 0 0), (.slice none 0 0)] []),
      .op none none (.store none 7 (.tmp 4) (.tmp 28)),
      .op (some 5) none (.mv (.const (.int .i64 1)))])
    (.keep [4, 5] [4, 93, 97, 100, 104, 107, 141, 144, 178, 181, 247, 249, 251, 269] (.ret)))
    (.skip))))
  (.keep [2, 3, 4] [4, 93, 97, 100, 104, 107, 141, 144, 178, 181, 247, 249, 251, 269] (.seq /- 4 -/ (.seq (.reg [
    .op (some 29) none (.faddr 0 (.tmp 2)),
    .op (some 30) none (.load false 1 (.tmp 29)),
    .op (some 31) none (.faddr 0 (.tmp 3)),
    .op (some 32) none (.load false 1 (.tmp 31)),
    .op (some 33) none (.call f_r06_sameAttributes [(.tmp 30), (.tmp 32)]),
    .op (some 34) none (.not (.tmp 33))])
  (.keep [2, 3, 4, 34] [4, 93, 97, 100, 104, 107, 141, 144, 178, 181, 247, 249, 251, 269] (.ite (.tmp 34) (.seq (.reg [
      .op (some 35) none (.build [(.slice none 0 0), (.slice none 0 0), (.slice none 0 0), (.slice none 0 0), (.slice none 0 0), (.slice none 0 0), (.slice none 0 0)] []),
      .op none none (.store none 7 (.tmp 4) (.tmp 35)),
      .op (some 5) none (.mv (.const (.int .i64 17)))])
    (.keep [4, 5] [4, 93, 97, 100, 104, 107, 141, 144, 178, 181, 247, 249, 251, 269] (.ret)))
    (.skip))))
  (.keep [2, 3, 4] [4, 93, 97, 100, 104, 107, 141, 144, 178, 181, 247, 249, 251, 269] (seqM 7 (.seq (.reg [
    .op (some 36) none (.faddr 2 (.tmp 3)),
    .op (some 37) none (.load false 1 (.tmp 36)),
    .op (some 38) none (.len (.tmp 37)),
    .op (some 39) none (.mv (.const (.int .i64 0)))])
  (.keep [2, 3, 4, 37, 38, 39] [4, 93, 97, 100, 104, 107, 141, 144, 178, 181, 247, 249, 251, 269] (rangeCC 0 39 38 40 1 (.seq (.reg [
      .op (some 41) none (.iaddr 4 (.tmp 37) (.tmp 39)),
      .op (some 42) none (.load true 4 (.tmp 41)),
      .op (some 7) none (.alloc ty_Text [(.string ⟨#[]⟩), (.int .i64 0), (.int .i64 0), (.slice none 0 0)]),
      .op none none (.store none 4 (.tmp 7) (.tmp 42))])
    (.keep [2, 3, 4, 7, 37, 38, 39] [4, 7, 93, 97, 100, 104, 107, 141, 144, 178, 181, 247, 249, 251, 269] (.seq (.reg [
      .op (some 43) none (.load true 7 (.tmp 2)),
      .op (some 44) none (.faddr 0 (.tmp 7)),
      .op (some 45) none (.load false 1 (.tmp 44)),
      .op (some 46) none (.call f_r06_FindText [(.tmp 43), (.tmp 45)]),
      .op (some 47) none (.cmp .geq (.tmp 46) (.const (.int .i64 0)))])
    (.keep [2, 3, 4, 37, 38, 39, 47] [4, 93, 97, 100, 104, 107, 141, 144, 178, 181, 247, 249, 251, 269] (.ite (.tmp 47) (.seq (.reg [
        .op (some 48) none (.build [(.slice none 0 0), (.slice none 0 0), (.slice none 0 0), (.slice none 0 0), (.slice none 0 0), (.slice none 0 0), (.slice none 0 0)] []),
        .op none none (.store none 7 (.tmp 4) (.tmp 48)),
        .op (some 5) none (.mv (.const (.int .i64 5)))])
      (.keep [4, 5] [4, 93, 97, 100, 104, 107, 141, 144, 178, 181, 247, 249, 251, 269] (.ret)))
      (.skip)))))) 49)))
  (.keep [2, 3, 4] [4, 93, 97, 100, 104, 107, 141, 144, 178, 181, 247, 249, 251, 269] (.seq (.regd [
    .op (some 50) none (.faddr 1 (.tmp 2)),
    .op (some 51) none (.load false 1 (.tmp 50)),
    .op (some 52) none (.len (.tmp 51)),
    .op (some 53) none (.faddr 4 (.tmp 2)),
    .op (some 54) none (.load false 1 (.tmp 53)),
    .op (some 55) none (.len (.tmp 54)),
    .op (some 8) none (.mv (.tmp 52))] [
    .op (some 9) none (.mv (.tmp 55))])
  (.keep [2, 3, 4, 8, 9] [4, 93, 97, 100, 104, 107, 141, 144, 178, 181, 247, 249, 251, 269] (seqM 13 (.seq (.reg [
    .op (some 56) none (.mv (.tmp 8)),
    .op (some 57) none (.faddr 1 (.tmp 3)),
    .op (some 58) none (.load false 1 (.tmp 57)),
    .op (some 59) none (.len (.tmp 58)),
    .op (some 60) none (.arith .add (.tmp 56) (.tmp 59)),
    .op (some 61) none (.cmp .gtr (.tmp 60) (.const (.int .i64 4096))),
    .op (some 62) none (.mv (.tmp 61)),
    .op (some 63) (some (62, false)) (.faddr 2 (.tmp 2)),
    .op (some 64) (some (62, false)) (.load false 1 (.tmp 63)),
    .op (some 65) (some (62, false)) (.len (.tmp 64)),
    .op (some 66) (some (62, false)) (.faddr 2 (.tmp 3)),
    .op (some 67) (some (62, false)) (.load false 1 (.tmp 66)),
    .op (some 68) (some (62, false)) (.len (.tmp 67)),
    .op (some 69) (some (62, false)) (.arith .add (.tmp 65) (.tmp 68)),
    .op (some 70) (some (62, false)) (.cmp .gtr (.tmp 69) (.const (.int .i64 64))),
    .op (some 71) none (.pick (.tmp 62) (.const (.bool true)) (.tmp 70)),
    .op (some 72) none (.mv (.tmp 71)),
    .op (some 73) (some (72, false)) (.faddr 3 (.tmp 2)),
    .op (some 74) (some (72, false)) (.load false 1 (.tmp 73)),
    .op (some 75) (some (72, false)) (.len (.tmp 74)),
    .op (some 76) (some (72, false)) (.faddr 3 (.tmp 3)),
    .op (some 77) (some (72, false)) (.load false 1 (.tmp 76)),
    .op (some 78) (some (72, false)) (.len (.tmp 77)),
    .op (some 79) (some (72, false)) (.arith .add (.tmp 75) (.tmp 78)),
    .op (some 80) (some (72, false)) (.cmp .gtr (.tmp 79) (.const (.int .i64 1024))),
    .op (some 81) none (.pick (.tmp 72) (.const (.bool true)) (.tmp 80)),
    .op (some 82) none (.mv (.tmp 81)),
    .op (some 83) (some (82, false)) (.mv (.tmp 9)),
    .op (some 84) (some (82, false)) (.faddr 4 (.tmp 3)),
    .op (some 85) (some (82, false)) (.load false 1 (.tmp 84)),
    .op (some 86) (some (82, false)) (.len (.tmp 85)),
    .op (some 87) (some (82, false)) (.arith .add (.tmp 83) (.tmp 86)),
    .op (some 88) (some (82, false)) (.cmp .gtr (.tmp 87) (.const (.int .i64 2048))),
    .op (some 89) none (.pick (.tmp 82) (.const (.bool true)) (.tmp 88))])
  (.keep [2, 3, 4, 8, 9, 89] [4, 93, 97, 100, 104, 107, 141, 144, 178, 181, 247, 249, 251, 269] (.ite (.tmp 89) (.seq (.reg [
      .op (some 90) none (.build [(.slice none 0 0), (.slice none 0 0), (.slice none 0 0), (.slice none 0 0), (.slice none 0 0), (.slice none 0 0), (.slice none 0 0)] []),
      .op none none (.store none 7 (.tmp 4) (.tmp 90)),
      .op (some 5) none (.mv (.const (.int .i64 2)))])
    (.keep [4, 5] [4, 93, 97, 100, 104, 107, 141, 144, 178, 181, 247, 249, 251, 269] (.ret)))
    (.skip))))
  (.keep [2, 3, 4, 8, 9] [4, 93, 97, 100, 104, 107, 141, 144, 178, 181, 247, 249, 251, 269] (.seq (.reg [
    .op (some 91) none (.faddr 0 (.tmp 2)),
    .op (some 92) none (.load false 1 (.tmp 91)),
    .op (some 93) none (.append none ty_Attribute 2 24 (.const (.slice none 0 0)) (.tmp 92)),
    .op (some 94) none (.build [(.slice none 0 0), (.slice none 0 0), (.slice none 0 0), (.slice none 0 0), (.slice none 0 0), (.slice none 0 0), (.slice none 0 0)] [(0, 1, (.tmp 93))]),
    .op (some 10) none (.alloc ty_Corpus [(.slice none 0 0), (.slice none 0 0), (.slice none 0 0), (.slice none 0 0), (.slice none 0 0), (.slice none 0 0), (.slice none 0 0)]),
    .op none none (.store none 7 (.tmp 10) (.tmp 94))])
  (.keep [2, 3, 4, 8, 9, 10] [4, 10, 93, 97, 100, 104, 107, 141, 144, 178, 181, 247, 249, 251, 269] (.seq (.regd [
    .op (some 95) none (.faddr 1 (.tmp 2)),
    .op (some 96) none (.load false 1 (.tmp 95)),
    .op (some 97) none (.append none ty_L_string 1 24 (.const (.slice none 0 0)) (.tmp 96)),
    .op (some 98) none (.faddr 1 (.tmp 3)),
    .op (some 99) none (.load false 1 (.tmp 98))] [
    .op (some 100) none (.append (some 97) ty_L_string 1 24 (.tmp 97) (.tmp 99)),
    .op (some 101) none (.faddr 1 (.tmp 10)),
    .op none none (.store (some 10) 1 (.tmp 101) (.tmp 100))])
  (.keep [2, 3, 4, 8, 9, 10] [4, 10, 93, 97, 100, 104, 107, 141, 144, 178, 181, 247, 249, 251, 269] (.seq (.regd [
    .op (some 102) none (.faddr 2 (.tmp 2)),
    .op (some 103) none (.load false 1 (.tmp 102)),
    .op (some 104) none (.append none ty_Text 4 56 (.const (.slice none 0 0)) (.tmp 103)),
    .op (some 105) none (.faddr 2 (.tmp 3)),
    .op (some 106) none (.load false 1 (.tmp 105))] [
    .op (some 107) none (.append (some 104) ty_Text 4 56 (.tmp 104) (.tmp 106)),
    .op (some 108) none (.faddr 2 (.tmp 10)),
    .op none none (.store (some 10) 1 (.tmp 108) (.tmp 107))])
  (.keep [2, 3, 4, 8, 9, 10] [4, 10, 93, 97, 100, 104, 107, 141, 144, 178, 181, 247, 249, 251, 269] (seqM 19 (.seq (.reg [
    .op (some 109) none (.faddr 2 (.tmp 2)),
    .op (some 110) none (.load false 1 (.tmp 109)),
    .op (some 111) none (.len (.tmp 110)),
    .op (some 11) none (.mv (.tmp 111))])
  (.keep [2, 3, 4, 8, 9, 10, 11] [4, 10, 93, 97, 100, 104, 107, 141, 144, 178, 181, 247, 249, 251, 269] (.block 2 (.loop 1 (.seq /- 21 -/ (.seq (.reg [
        .op (some 112) none (.mv (.tmp 11)),
        .op (some 113) none (.faddr 2 (.tmp 10)),
        .op (some 114) none (.load false 1 (.tmp 113)),
        .op (some 115) none (.len (.tmp 114)),
        .op (some 116) none (.cmp .lss (.tmp 112) (.tmp 115))])
      (.keep [2, 3, 4, 8, 9, 10, 11, 116] [4, 10, 93, 97, 100, 104, 107, 141, 144, 178, 181, 247, 249, 251, 269] (.ite (.tmp 116) (.skip)
        (.exit 2))))
      (.keep [2, 3, 4, 8, 9, 10, 11] [4, 10, 93, 97, 100, 104, 107, 141, 144, 178, 181, 247, 249, 251, 269] (.seq /- 23 -/ (.block 3 (.seq (.reg [
          .op (some 119) none (.faddr 2 (.tmp 10)),
          .op (some 120) none (.load false 1 (.tmp 119)),
          .op (some 121) none (.mv (.tmp 11)),
          .op (some 122) none (.iaddr 4 (.tmp 120) (.tmp 121)),
          .op (some 123) none (.faddr 1 (.tmp 122)),
          .op (some 124) none (.load false 1 (.tmp 123)),
          .op (some 125) none (.mv (.tmp 8)),
          .op (some 126) none (.arith .add (.tmp 124) (.tmp 125)),
          .op (some 127) none (.iaddr 4 (.tmp 120) (.tmp 121)),
          .op (some 128) none (.faddr 1 (.tmp 127)),
          .op none none (.store none 1 (.tmp 128) (.tmp 126))])
        (.keep [2, 3, 4, 8, 9, 10, 11] [4, 10, 93, 97, 100, 104, 107, 141, 144, 178, 181, 247, 249, 251, 269] (.reg [
          .op (some 129) none (.faddr 2 (.tmp 10)),
          .op (some 130) none (.load false 1 (.tmp 129)),
          .op (some 131) none (.mv (.tmp 11)),
          .op (some 132) none (.iaddr 4 (.tmp 130) (.tmp 131)),
          .op (some 133) none (.faddr 2 (.tmp 132)),
          .op (some 134) none (.load false 1 (.tmp 133)),
          .op (some 135) none (.mv (.tmp 8)),
          .op (some 136) none (.arith .add (.tmp 134) (.tmp 135)),
          .op (some 137) none (.iaddr 4 (.tmp 130) (.tmp 131)),
          .op (some 138) none (.faddr 2 (.tmp 137)),
          .op none none (.store none 1 (.tmp 138) (.tmp 136))]))))
      (.keep [2, 3, 4, 8, 9, 10, 11] [4, 10, 93, 97, 100, 104, 107, 141, 144, 178, 181, 247, 249, 251, 269] (.reg [
        .op (some 117) none (.mv (.tmp 11)),
        .op (some 118) none (.arith .add (.tmp 117) (.const (.int .i64 1))),
        .op (some 11) none (.mv (.tmp 118))])))))))))
  (.keep [2, 3, 4, 8, 9, 10] [4, 10, 93, 97, 100, 104, 107, 141, 144, 178, 181, 247, 249, 251, 269] (.seq (.regd [
    .op (some 139) none (.faddr 3 (.tmp 2)),
    .op (some 140) none (.load false 1 (.tmp 139)),
    .op (some 141) none (.append none ty_Region 4 56 (.const (.slice none 0 0)) (.tmp 140)),
    .op (some 142) none (.faddr 3 (.tmp 3)),
    .op (some 143) none (.load false 1 (.tmp 142))] [
    .op (some 144) none (.append (some 141) ty_Region 4 56 (.tmp 141) (.tmp 143)),
    .op (some 145) none (.faddr 3 (.tmp 10)),
    .op none none (.store (some 10) 1 (.tmp 145) (.tmp 144))])
  (.keep [2, 3, 4, 8, 9, 10] [4, 10, 93, 97, 100, 104, 107, 141, 144, 178, 181, 247, 249, 251, 269] (seqM 26 (.seq (.reg [
    .op (some 146) none (.faddr 3 (.tmp 2)),
    .op (some 147) none (.load false 1 (.tmp 146)),
    .op (some 148) none (.len (.tmp 147)),
    .op (some 12) none (.mv (.tmp 148))])
  (.keep [2, 3, 4, 8, 9, 10, 12] [4, 10, 93, 97, 100, 104, 107, 141, 144, 178, 181, 247, 249, 251, 269] (.block 4 (.loop 2 (.seq /- 28 -/ (.seq (.reg [
        .op (some 149) none (.mv (.tmp 12)),
        .op (some 150) none (.faddr 3 (.tmp 10)),
        .op (some 151) none (.load false 1 (.tmp 150)),
        .op (some 152) none (.len (.tmp 151)),
        .op (some 153) none (.cmp .lss (.tmp 149) (.tmp 152))])
      (.keep [2, 3, 4, 8, 9, 10, 12, 153] [4, 10, 93, 97, 100, 104, 107, 141, 144, 178, 181, 247, 249, 251, 269] (.ite (.tmp 153) (.skip)
        (.exit 4))))
      (.keep [2, 3, 4, 8, 9, 10, 12] [4, 10, 93, 97, 100, 104, 107, 141, 144, 178, 181, 247, 249, 251, 269] (.seq /- 30 -/ (.block 5 (.seq (.reg [
          .op (some 156) none (.faddr 3 (.tmp 10)),
          .op (some 157) none (.load false 1 (.tmp 156)),
          .op (some 158) none (.mv (.tmp 12)),
          .op (some 159) none (.iaddr 4 (.tmp 157) (.tmp 158)),
          .op (some 160) none (.faddr 1 (.tmp 159)),
          .op (some 161) none (.load false 1 (.tmp 160)),
          .op (some 162) none (.mv (.tmp 8)),
          .op (some 163) none (.arith .add (.tmp 161) (.tmp 162)),
          .op (some 164) none (.iaddr 4 (.tmp 157) (.tmp 158)),
          .op (some 165) none (.faddr 1 (.tmp 164)),
          .op none none (.store none 1 (.tmp 165) (.tmp 163))])
        (.keep [2, 3, 4, 8, 9, 10, 12] [4, 10, 93, 97, 100, 104, 107, 141, 144, 178, 181, 247, 249, 251, 269] (.reg [
          .op (some 166) none (.faddr 3 (.tmp 10)),
          .op (some 167) none (.load false 1 (.tmp 166)),
          .op (some 168) none (.mv (.tmp 12)),
          .op (some 169) none (.iaddr 4 (.tmp 167) (.tmp 168)),
          .op (some 170) none (.faddr 2 (.tmp 169)),
          .op (some 171) none (.load false 1 (.tmp 170)),
          .op (some 172) none (.mv (.tmp 8)),
          .op (some 173) none (.arith .add (.tmp 171) (.tmp 172)),
          .op (some 174) none (.iaddr 4 (.tmp 167) (.tmp 168)),
          .op (some 175) none (.faddr 2 (.tmp 174)),
          .op none none (.store none 1 (.tmp 175) (.tmp 173))]))))
      (.keep [2, 3, 4, 8, 9, 10, 12] [4, 10, 93, 97, 100, 104, 107, 141, 144, 178, 181, 247, 249, 251, 269] (.reg [
        .op (some 154) none (.mv (.tmp 12)),
        .op (some 155) none (.arith .add (.tmp 154) (.const (.int .i64 1))),
        .op (some 12) none (.mv (.tmp 155))])))))))))
  (.keep [2, 3, 4, 8, 9, 10] [4, 10, 93, 97, 100, 104, 107, 141, 144, 178, 181, 247, 249, 251, 269] (.seq (.regd [
    .op (some 176) none (.faddr 4 (.tmp 2)),
    .op (some 177) none (.load false 1 (.tmp 176)),
    .op (some 178) none (.append none ty_Node 4 40 (.const (.slice none 0 0)) (.tmp 177)),
    .op (some 179) none (.faddr 4 (.tmp 3)),
    .op (some 180) none (.load false 1 (.tmp 179))] [
    .op (some 181) none (.append (some 178) ty_Node 4 40 (.tmp 178) (.tmp 180)),
    .op (some 182) none (.faddr 4 (.tmp 10)),
    .op none none (.store (some 10) 1 (.tmp 182) (.tmp 181))])
  (.keep [2, 3, 4, 8, 9, 10] [4, 10, 93, 97, 100, 104, 107, 141, 144, 178, 181, 247, 249, 251, 269] (seqM 33 (.seq (.reg [
    .op (some 183) none (.mv (.tmp 9)),
    .op (some 13) none (.mv (.tmp 183))])
  (.keep [2, 3, 4, 8, 9, 10, 13] [4, 10, 93, 97, 100, 104, 107, 141, 144, 178, 181, 247, 249, 251, 269] (.block 6 (.loop 3 (.seq /- 35 -/ (.seq (.reg [
        .op (some 184) none (.mv (.tmp 13)),
        .op (some 185) none (.faddr 4 (.tmp 10)),
        .op (some 186) none (.load false 1 (.tmp 185)),
        .op (some 187) none (.len (.tmp 186)),
        .op (some 188) none (.cmp .lss (.tmp 184) (.tmp 187))])
      (.keep [2, 3, 4, 8, 9, 10, 13, 188] [4, 10, 93, 97, 100, 104, 107, 141, 144, 178, 181, 247, 249, 251, 269] (.ite (.tmp 188) (.skip)
        (.exit 6))))
      (.keep [2, 3, 4, 8, 9, 10, 13] [4, 10, 93, 97, 100, 104, 107, 141, 144, 178, 181, 247, 249, 251, 269] (.seq /- 37 -/ (.block 7 (.seq (.reg [
          .op (some 191) none (.faddr 4 (.tmp 10)),
          .op (some 192) none (.load false 1 (.tmp 191)),
          .op (some 193) none (.mv (.tmp 13)),
          .op (some 194) none (.iaddr 4 (.tmp 192) (.tmp 193)),
          .op (some 195) none (.faddr 1 (.tmp 194)),
          .op (some 196) none (.load false 1 (.tmp 195)),
          .op (some 197) none (.mv (.tmp 8)),
          .op (some 198) none (.arith .add (.tmp 196) (.tmp 197)),
          .op (some 199) none (.iaddr 4 (.tmp 192) (.tmp 193)),
          .op (some 200) none (.faddr 1 (.tmp 199)),
          .op none none (.store none 1 (.tmp 200) (.tmp 198))])
        (.keep [2, 3, 4, 8, 9, 10, 13] [4, 10, 93, 97, 100, 104, 107, 141, 144, 178, 181, 247, 249, 251, 269] (.seq (.reg [
          .op (some 201) none (.faddr 4 (.tmp 10)),
          .op (some 202) none (.load false 1 (.tmp 201)),
          .op (some 203) none (.mv (.tmp 13)),
          .op (some 204) none (.iaddr 4 (.tmp 202) (.tmp 203)),
          .op (some 205) none (.faddr 2 (.tmp 204)),
          .op (some 206) none (.load false 1 (.tmp 205)),
          .op (some 207) none (.mv (.tmp 8)),
          .op (some 208) none (.arith .add (.tmp 206) (.tmp 207)),
          .op (some 209) none (.iaddr 4 (.tmp 202) (.tmp 203)),
          .op (some 210) none (.faddr 2 (.tmp 209)),
          .op none none (.store none 1 (.tmp 210) (.tmp 208))])
        (.keep [2, 3, 4, 8, 9, 10, 13] [4, 10, 93, 97, 100, 104, 107, 141, 144, 178, 181, 247, 249, 251, 269] (.seq (.reg [
          .op (some 211) none (.faddr 4 (.tmp 10)),
          .op (some 212) none (.load false 1 (.tmp 211)),
          .op (some 213) none (.mv (.tmp 13)),
          .op (some 214) none (.iaddr 4 (.tmp 212) (.tmp 213)),
          .op (some 215) none (.faddr 3 (.tmp 214)),
          .op (some 216) none (.load false 1 (.tmp 215)),
          .op (some 217) none (.cmp .geq (.tmp 216) (.const (.int .i64 0)))])
        (.keep [2, 3, 4, 8, 9, 10, 13, 217] [4, 10, 93, 97, 100, 104, 107, 141, 144, 178, 181, 247, 249, 251, 269] (.ite (.tmp 217) (.reg [
            .op (some 218) none (.faddr 4 (.tmp 10)),
            .op (some 219) none (.load false 1 (.tmp 218)),
            .op (some 220) none (.mv (.tmp 13)),
            .op (some 221) none (.iaddr 4 (.tmp 219) (.tmp 220)),
            .op (some 222) none (.faddr 3 (.tmp 221)),
            .op (some 223) none (.load false 1 (.tmp 222)),
            .op (some 224) none (.mv (.tmp 9)),
            .op (some 225) none (.arith .add (.tmp 223) (.tmp 224)),
            .op (some 226) none (.iaddr 4 (.tmp 219) (.tmp 220)),
            .op (some 227) none (.faddr 3 (.tmp 226)),
            .op none none (.store none 1 (.tmp 227) (.tmp 225))])
          (.skip)))))))))
      (.keep [2, 3, 4, 8, 9, 10, 13] [4, 10, 93, 97, 100, 104, 107, 141, 144, 178, 181, 247, 249, 251, 269] (.reg [
        .op (some 189) none (.mv (.tmp 13)),
        .op (some 190) none (.arith .add (.tmp 189) (.const (.int .i64 1))),
        .op (some 13) none (.mv (.tmp 190))])))))))))
  (.keep [2, 3, 4, 8, 10] [4, 10, 93, 97, 100, 104, 107, 141, 144, 178, 181, 247, 249, 251, 269] (.seq /- 41 -/ (.seq (.reg [
    .op (some 228) none (.faddr 5 (.tmp 2)),
    .op (some 229) none (.load false 1 (.tmp 228)),
    .op (some 230) none (.len (.tmp 229)),
    .op (some 231) none (.faddr 5 (.tmp 3)),
    .op (some 232) none (.load false 1 (.tmp 231)),
    .op (some 233) none (.len (.tmp 232)),
    .op (some 234) none (.arith .add (.tmp 230) (.tmp 233)),
    .op (some 235) none (.cmp .gtr (.tmp 234) (.const (.int .i64 0)))])
  (.keep [2, 3, 4, 8, 10, 235] [4, 10, 93, 97, 100, 104, 107, 141, 144, 178, 181, 247, 249, 251, 269] (.ite (.tmp 235) (.seq (.reg [
      .op (some 237) none (.load true 7 (.tmp 2)),
      .op (some 238) none (.call f_r06_allHeads [(.tmp 237)]),
      .op (some 236) none (.mv (.tmp 238)),
      .op (some 239) none (.ext (.tmp 236) 0),
      .op (some 240) none (.ext (.tmp 236) 1),
      .op (some 14) none (.mv (.tmp 239)),
      .op (some 15) none (.mv (.tmp 240))])
    (.keep [3, 4, 8, 10, 14, 15] [4, 10, 93, 97, 100, 104, 107, 141, 144, 178, 181, 247, 249, 251, 269] (.seq (.reg [
      .op (some 242) none (.load true 7 (.tmp 3)),
      .op (some 243) none (.call f_r06_allHeads [(.tmp 242)]),
      .op (some 241) none (.mv (.tmp 243)),
      .op (some 244) none (.ext (.tmp 241) 0),
      .op (some 245) none (.ext (.tmp 241) 1),
      .op (some 16) none (.mv (.tmp 244)),
      .op (some 17) none (.mv (.tmp 245))])
    (.keep [4, 8, 10, 14, 15, 16, 17] [4, 10, 93, 97, 100, 104, 107, 141, 144, 178, 181, 247, 249, 251, 269] (.seq (.reg [
      .op (some 246) none (.mv (.tmp 14)),
      .op (some 247) none (.append none ty_int 1 8 (.const (.slice none 0 0)) (.tmp 246)),
      .op (some 248) none (.mv (.tmp 15)),
      .op (some 249) none (.append none ty_string 1 16 (.const (.slice none 0 0)) (.tmp 248)),
      .op (some 250) none (.mv (.tmp 17)),
      .op (some 251) none (.append none ty_string 1 16 (.tmp 249) (.tmp 250)),
      .op (some 252) none (.faddr 5 (.tmp 10)),
      .op none none (.store none 1 (.tmp 252) (.tmp 247)),
      .op (some 253) none (.faddr 6 (.tmp 10)),
      .op none none (.store none 1 (.tmp 253) (.tmp 251))])
    (.keep [4, 8, 10, 16] [4, 10, 93, 97, 100, 104, 107, 141, 144, 178, 181, 247, 249, 251, 269] (.seq (.reg [
      .op (some 254) none (.mv (.tmp 16)),
      .op (some 255) none (.len (.tmp 254)),
      .op (some 256) none (.mv (.const (.int .i64 0)))])
    (.keep [4, 8, 10, 254, 255, 256] [4, 10, 93, 97, 100, 104, 107, 141, 144, 178, 181, 247, 249, 251, 269] (rangeCC 8 256 255 257 9 (.seq (.reg [
        .op (some 258) none (.iaddr 1 (.tmp 254) (.tmp 256)),
        .op (some 259) none (.load false 1 (.tmp 258)),
        .op (some 19) none (.mv (.tmp 259))])
      (.keep [4, 8, 10, 19, 254, 255, 256] [4, 10, 93, 97, 100, 104, 107, 141, 144, 178, 181, 247, 249, 251, 269] (seqM 48 (.seq (.reg [
        .op (some 260) none (.mv (.tmp 19)),
        .op (some 261) none (.cmp .geq (.tmp 260) (.const (.int .i64 0)))])
      (.keep [4, 8, 10, 19, 254, 255, 256, 261] [4, 10, 93, 97, 100, 104, 107, 141, 144, 178, 181, 247, 249, 251, 269] (.ite (.tmp 261) (.reg [
          .op (some 262) none (.mv (.tmp 19)),
          .op (some 263) none (.mv (.tmp 8)),
          .op (some 264) none (.arith .add (.tmp 262) (.tmp 263)),
          .op (some 19) none (.mv (.tmp 264))])
        (.skip))))
      (.keep [4, 8, 10, 19, 254, 255, 256] [4, 10, 93, 97, 100, 104, 107, 141, 144, 178, 181, 247, 249, 251, 269] (.reg [
        .op (some 265) none (.faddr 5 (.tmp 10)),
        .op (some 266) none (.load false 1 (.tmp 265)),
        .op (some 267) none (.mv (.tmp 19)),
        .op (some 268) none (.bslice ty_int 1 [(.tmp 267)]),
        .op (some 269) none (.append none ty_int 1 8 (.tmp 266) (.tmp 268)),
        .op (some 270) none (.faddr 5 (.tmp 10)),
        .op none none (.store none 1 (.tmp 270) (.tmp 269))]))))) 271)))))))))
    (.skip))))
  (.keep [4, 10] [4, 10, 93, 97, 100, 104, 107, 141, 144, 178, 181, 247, 249, 251, 269] (.seq (.reg [
    .op (some 272) none (.load true 7 (.tmp 10)),
    .op none none (.store none 7 (.tmp 4) (.tmp 272)),
    .op (some 5) none (.mv (.const (.int .i64 0)))])
  (.keep [4, 5] [4, 93, 97, 100, 104, 107, 141, 144, 178, 181, 247, 249, 251, 269] (.ret))))))))))))))))))))))))))))))))
def rs_r06_Concat : List CRes := [.cell 4 true 7, .tmp 5]
def im_r06_Concat : List Nat := [2, 3, 2101010, 1100097, 2108010, 1107104, 2145010, 1144141, 2182010, 1181178]
theorem ok_r06_Concat : FnOk Try.prog f_r06_Concat im_r06_Concat cc_r06_Concat rs_r06_Concat 273 := fnOk1 mixed (by kernel_rfl)
/-- corpora/corporamade.Type [int] -> [string] -/
def cc_m_Type : CC :=
  .seq (.reg [
    .op (some 2) none (.mv (.const (.string ⟨#[]⟩)))])
  (.keep [0] [] (.seq (.reg [
    .op (some 3) none (.bslice ty_string 1 [(.const (.string ⟨#[115]⟩)), (.const (.string ⟨#[110, 112]⟩)), (.const (.string ⟨#[116]⟩))]),
    .op (some 4) none (.mv (.tmp 0)),
    .op (some 5) none (.call f_m_Mod [(.tmp 4), (.const (.int .i64 3))]),
    .op (some 6) none (.iaddr 1 (.tmp 3) (.tmp 5)),
    .op (some 7) none (.load false 1 (.tmp 6)),
    .op (some 2) none (.mv (.tmp 7))])
  (.keep [2] [] (.ret))))
def rs_m_Type : List CRes := [.tmp 2]
def im_m_Type : List Nat := []
theorem ok_m_Type : FnOk Try.prog f_m_Type im_m_Type cc_m_Type rs_m_Type 8 := fnOk1 mixed (by kernel_rfl)
/-- corpora/corporamade.word [int] -> [string] -/
def cc_m_word : CC :=
  .seq (.reg [
    .op (some 2) none (.mv (.const (.string ⟨#[]⟩)))])
  (.keep [0] [] (.seq (.reg [
    .op (some 3) none (.bslice ty_string 1 [(.const (.string ⟨#[97]⟩)), (.const (.string ⟨#[98]⟩)), (.const (.string ⟨#[99]⟩)), (.const (.string ⟨#[65]⟩)), (.const (.string ⟨#[97, 98]⟩)), (.const (.string ⟨#[]⟩))]),
    .op (some 4) none (.mv (.tmp 0)),
    .op (some 5) none (.iaddr 1 (.tmp 3) (.tmp 4)),
    .op (some 6) none (.load false 1 (.tmp 5)),
    .op (some 2) none (.mv (.tmp 6))])
  (.keep [2] [] (.ret))))
def rs_m_word : List CRes := [.tmp 2]
def im_m_word : List Nat := []
theorem ok_m_word : FnOk Try.prog f_m_word im_m_word cc_m_word rs_m_word 7 := fnOk1 mixed (by kernel_rfl)
/-- corpora/corporamade.tag [int] -> [string] -/
def cc_m_tag : CC :=
  .seq (.reg [
    .op (some 2) none (.mv (.const (.string ⟨#[]⟩)))])
  (.keep [0] [] (.seq (.reg [
    .op (some 3) none (.bslice ty_string 1 [(.const (.string ⟨#[88]⟩)), (.const (.string ⟨#[89]⟩))]),
    .op (some 4) none (.mv (.tmp 0)),
    .op (some 5) none (.iaddr 1 (.tmp 3) (.tmp 4)),
    .op (some 6) none (.load false 1 (.tmp 5)),
    .op (some 2) none (.mv (.tmp 6))])
  (.keep [2] [] (.ret))))
def rs_m_tag : List CRes := [.tmp 2]
def im_m_tag : List Nat := []
theorem ok_m_tag : FnOk Try.prog f_m_tag im_m_tag cc_m_tag rs_m_tag 7 := fnOk1 mixed (by kernel_rfl)
/-- corpora/corporamade.features [int] -> [string] -/
def cc_m_features : CC :=
  .seq (.reg [
    .op (some 2) none (.mv (.const (.string ⟨#[]⟩)))])
  (.keep [0] [] (.seq (.reg [
    .op (some 3) none (.bslice ty_string 1 [(.const (.string ⟨#[124]⟩)), (.const (.string ⟨#[124, 112, 124]⟩)), (.const (.string ⟨#[124, 112, 124, 113, 124]⟩)), (.const (.string ⟨#[124, 113, 124]⟩))]),
    .op (some 4) none (.mv (.tmp 0)),
    .op (some 5) none (.iaddr 1 (.tmp 3) (.tmp 4)),
    .op (some 6) none (.load false 1 (.tmp 5)),
    .op (some 2) none (.mv (.tmp 6))])
  (.keep [2] [] (.ret))))
def rs_m_features : List CRes := [.tmp 2]
def im_m_features : List Nat := []
theorem ok_m_features : FnOk Try.prog f_m_features im_m_features cc_m_features rs_m_features 7 := fnOk1 mixed (by kernel_rfl)
/-- corpora/corporamade.Attributes [] -> [L_Attribute] -/
def cc_m_Attributes : CC :=
  .seq (.reg [
    .op (some 0) none (.mv (.const (.slice none 0 0)))])
  (.keep [] [] (.seq (.reg [
    .op (some 1) none (.build [(.string ⟨#[]⟩), (.bool false)] [(0, 1, (.const (.string ⟨#[119, 111, 114, 100]⟩)))]),
    .op (some 2) none (.build [(.string ⟨#[]⟩), (.bool false)] [(0, 1, (.const (.string ⟨#[116, 97, 103]⟩)))]),
    .op (some 3) none (.build [(.string ⟨#[]⟩), (.bool false)] [(0, 1, (.const (.string ⟨#[102, 101, 97, 116]⟩))), (1, 1, (.const (.bool true)))]),
    .op (some 4) none (.bslice ty_Attribute 2 [(.tmp 1), (.tmp 2), (.tmp 3)]),
    .op (some 0) none (.mv (.tmp 4))])
  (.keep [0] [] (.ret))))
def rs_m_Attributes : List CRes := [.tmp 0]
def im_m_Attributes : List Nat := []
theorem ok_m_Attributes : FnOk Try.prog f_m_Attributes im_m_Attributes cc_m_Attributes rs_m_Attributes 5 := fnOk1 mixed (by kernel_rfl)
/-- (*corpora/corporamade.Tape).Next [P_corporamade_Tape, int] -> [int] -/
def cc_m_Tape_Next : CC :=
  .seq (.reg [
    .op (some 4) none (.mv (.const (.int .i64 0)))])
  (.keep [0, 1] [] (.seq /- 1 -/ (.seq (.regd [
    .op (some 5) none (.mv (.tmp 0)),
    .op (some 6) none (.nilck (.tmp 5)),
    .op (some 7) none (.faddr 1 (.tmp 6)),
    .op (some 8) none (.load false 1 (.tmp 7)),
    .op (some 9) none (.mv (.tmp 0)),
    .op (some 10) none (.nilck (.tmp 9)),
    .op (some 11) none (.faddr 0 (.tmp 10)),
    .op (some 12) none (.load false 1 (.tmp 11)),
    .op (some 13) none (.len (.tmp 12))] [
    .op (some 14) none (.cmp .geq (.tmp 8) (.tmp 13))])
  (.keep [0, 1, 14] [] (.ite (.tmp 14) (.seq (.reg [
      .op (some 4) none (.mv (.const (.int .i64 0)))])
    (.keep [4] [] (.ret)))
    (.skip))))
  (.keep [0, 1] [] (.seq (.reg [
    .op (some 15) none (.mv (.tmp 0)),
    .op (some 16) none (.nilck (.tmp 15)),
    .op (some 17) none (.faddr 1 (.tmp 16)),
    .op (some 18) none (.load false 1 (.tmp 17)),
    .op (some 19) none (.arith .add (.tmp 18) (.const (.int .i64 1))),
    .op (some 20) none (.nilck (.tmp 15)),
    .op (some 21) none (.faddr 1 (.tmp 20)),
    .op none none (.store none 1 (.tmp 21) (.tmp 19))])
  (.keep [0, 1] [] (.seq (.regd [
    .op (some 22) none (.mv (.tmp 0)),
    .op (some 23) none (.nilck (.tmp 22)),
    .op (some 24) none (.faddr 0 (.tmp 23)),
    .op (some 25) none (.load false 1 (.tmp 24)),
    .op (some 26) none (.mv (.tmp 0)),
    .op (some 27) none (.nilck (.tmp 26)),
    .op (some 28) none (.faddr 1 (.tmp 27)),
    .op (some 29) none (.load false 1 (.tmp 28)),
    .op (some 30) none (.arith .sub (.tmp 29) (.const (.int .i64 1))),
    .op (some 31) none (.iaddr 1 (.tmp 25) (.tmp 30)),
    .op (some 32) none (.load false 1 (.tmp 31)),
    .op (some 33) none (.mv (.tmp 1))] [
    .op (some 34) none (.call f_m_Mod [(.tmp 32), (.tmp 33)]),
    .op (some 4) none (.mv (.tmp 34))])
  (.keep [4] [] (.ret))))))))
def rs_m_Tape_Next : List CRes := [.tmp 4]
def im_m_Tape_Next : List Nat := []
theorem ok_m_Tape_Next : FnOk Try.prog f_m_Tape_Next im_m_Tape_Next cc_m_Tape_Next rs_m_Tape_Next 35 := fnOk1 mixed (by kernel_rfl)
/-- corpora/corporamade.New [L_int] -> [P_corporamade_Tape] -/
def cc_m_New : CC :=
  .seq (.reg [
    .op (some 2) none (.mv (.const (.pointer none)))])
  (.keep [0] [] (.seq /- 1 -/ (.seq (.reg [
    .op (some 3) none (.mv (.tmp 0)),
    .op (some 4) none (.len (.tmp 3)),
    .op (some 5) none (.cmp .gtr (.tmp 4) (.const (.int .i64 120)))])
  (.keep [0, 5] [] (.ite (.tmp 5) (.reg [
      .op (some 6) none (.mv (.tmp 0)),
      .op (some 7) none (.slice 1 (.tmp 6) none (some (.const (.int .i64 120)))),
      .op (some 0) none (.mv (.tmp 7))])
    (.skip))))
  (.keep [0] [] (.seq (.reg [
    .op (some 8) none (.mv (.tmp 0)),
    .op (some 9) none (.build [(.slice none 0 0), (.int .i64 0)] [(0, 1, (.tmp 8))]),
    .op (some 10) none (.box ty_corporamade_Tape false (.tmp 9)),
    .op (some 2) none (.mv (.tmp 10))])
  (.keep [2] [10] (.ret))))))
def rs_m_New : List CRes := [.tmp 2]
def im_m_New : List Nat := [999]
theorem ok_m_New : FnOk Try.prog f_m_New im_m_New cc_m_New rs_m_New 11 := fnOk1 mixed (by kernel_rfl)
-- m_Tape_Document while id=0: live [0:t, 6:, 7:n, 8:c, 9:i] changed [9] res [6, 8, 26, 66, 165]
-- m_Tape_Document while id=0: live [0:t, 6:, 7:n, 8:c, 11:l, 12:k] changed [11, 12] res [6, 8, 26, 66, 165]
-- m_Tape_Document range i=103 n=102 c=104 i2=159 id=4: live [0:t, 6:, 7:n, 8:c, 11:l, 12:k, 14:r, 15:crosses, 101:] changed [15] res [6, 8, 14, 26, 66, 165]
/-- (*corpora/corporamade.Tape).Document [P_corporamade_Tape, string, int] -> [Corpus] -/
def cc_m_Tape_Document : CC :=
  .seq (.reg [
    .op (some 6) none (.alloc ty_Corpus [(.slice none 0 0), (.slice none 0 0), (.slice none 0 0), (.slice none 0 0), (.slice none 0 0), (.slice none 0 0), (.slice none 0 0)])])
  (.keep [0, 1, 2, 6] [6, 26, 66, 165] (.seq (.reg [
    .op (some 18) none (.mv (.tmp 0)),
    .op (some 19) none (.mv (.tmp 2)),
    .op (some 20) none (.call f_m_Tape_Next [(.tmp 18), (.tmp 19)]),
    .op (some 21) none (.arith .add (.const (.int .i64 1)) (.tmp 20)),
    .op (some 7) none (.mv (.tmp 21))])
  (.keep [0, 1, 6, 7] [6, 26, 66, 165] (.seq (.reg [
    .op (some 22) none (.call f_m_Attributes []),
    .op (some 23) none (.mv (.tmp 1)),
    .op (some 24) none (.mv (.tmp 7)),
    .op (some 25) none (.build [(.string ⟨#[]⟩), (.int .i64 0), (.int .i64 0), (.slice none 0 0)] [(0, 1, (.tmp 23)), (2, 1, (.tmp 24))]),
    .op (some 26) none (.mslice ty_Text 4 [(.tmp 25)]),
    .op (some 27) none (.build [(.slice none 0 0), (.slice none 0 0), (.slice none 0 0), (.slice none 0 0), (.slice none 0 0), (.slice none 0 0), (.slice none 0 0)] [(0, 1, (.tmp 22)), (2, 1, (.tmp 26))]),
    .op (some 8) none (.alloc ty_Corpus [(.slice none 0 0), (.slice none 0 0), (.slice none 0 0), (.slice none 0 0), (.slice none 0 0), (.slice none 0 0), (.slice none 0 0)]),
    .op none none (.store none 7 (.tmp 8) (.tmp 27))])
  (.keep [0, 6, 7, 8] [6, 8, 26, 66, 165] (seqM 3 (.seq (.reg [
    .op (some 28) none (.mv (.tmp 0)),
    .op (some 29) none (.call f_m_Tape_Next [(.tmp 28), (.const (.int .i64 3))]),
    .op (some 30) none (.eql false false [.int] (.tmp 29) (.const (.int .i64 2)))])
  (.keep [0, 6, 7, 8, 30] [6, 8, 26, 66, 165] (.ite (.tmp 30) (.regd [
      .op (some 31) none (.faddr 2 (.tmp 8)),
      .op (some 32) none (.load false 1 (.tmp 31)),
      .op (some 33) none (.bslice ty_string 1 [(.const (.string ⟨#[49]⟩)), (.const (.string ⟨#[50]⟩)), (.const (.string ⟨#[]⟩))]),
      .op (some 34) none (.mv (.tmp 0)),
      .op (some 35) none (.call f_m_Tape_Next [(.tmp 34), (.const (.int .i64 3))]),
      .op (some 36) none (.iaddr 1 (.tmp 33) (.tmp 35)),
      .op (some 37) none (.load false 1 (.tmp 36)),
      .op (some 38) none (.build [(.string ⟨#[]⟩), (.string ⟨#[]⟩)] [(0, 1, (.const (.string ⟨#[121, 101, 97, 114]⟩))), (1, 1, (.tmp 37))]),
      .op (some 39) none (.bslice ty_Pair 2 [(.tmp 38)])] [
      .op (some 40) none (.iaddr 4 (.tmp 32) (.const (.int .i64 0))),
      .op (some 41) none (.faddr 3 (.tmp 40)),
      .op none none (.store none 1 (.tmp 41) (.tmp 39))])
    (.skip))))
  (.keep [0, 6, 7, 8] [6, 8, 26, 66, 165] (seqM 5 (.seq (.reg [
    .op (some 9) none (.mv (.const (.int .i64 0)))])
  (.keep [0, 6, 7, 8, 9] [6, 8, 26, 66, 165] (.block 0 (.loop 1 (.seq /- 7 -/ (.seq (.reg [
        .op (some 42) none (.mv (.tmp 9)),
        .op (some 43) none (.mv (.tmp 7)),
        .op (some 44) none (.cmp .lss (.tmp 42) (.tmp 43))])
      (.keep [0, 6, 7, 8, 9, 44] [6, 8, 26, 66, 165] (.ite (.tmp 44) (.skip)
        (.exit 0))))
      (.keep [0, 6, 7, 8, 9] [6, 8, 26, 66, 165] (.seq /- 9 -/ (.block 1 (.seq (.reg [
          .op (some 47) none (.mv (.tmp 0)),
          .op (some 48) none (.call f_m_Tape_Next [(.tmp 47), (.const (.int .i64 48))]),
          .op (some 10) none (.mv (.tmp 48))])
        (.keep [0, 6, 7, 8, 9, 10] [6, 8, 26, 66, 165] (.regd [
          .op (some 49) none (.faddr 1 (.tmp 8)),
          .op (some 50) none (.load false 1 (.tmp 49)),
          .op (some 51) none (.bslice ty_int 1 [(.const (.int .i64 0)), (.const (.int .i64 1)), (.const (.int .i64 0)), (.const (.int .i64 2)), (.const (.int .i64 3)), (.const (.int .i64 4)), (.const (.int .i64 1)), (.const (.int .i64 5))]),
          .op (some 52) none (.mv (.tmp 10)),
          .op (some 53) none (.arith .rem (.tmp 52) (.const (.int .i64 8))),
          .op (some 54) none (.iaddr 1 (.tmp 51) (.tmp 53)),
          .op (some 55) none (.load false 1 (.tmp 54)),
          .op (some 56) none (.call f_m_word [(.tmp 55)]),
          .op (some 57) none (.mv (.tmp 10)),
          .op (some 58) none (.arith .quo (.tmp 57) (.const (.int .i64 8))),
          .op (some 59) none (.arith .rem (.tmp 58) (.const (.int .i64 2))),
          .op (some 60) none (.call f_m_tag [(.tmp 59)]),
          .op (some 61) none (.mv (.tmp 10)),
          .op (some 62) none (.arith .quo (.tmp 61) (.const (.int .i64 12))),
          .op (some 63) none (.call f_m_features [(.tmp 62)]),
          .op (some 64) none (.bslice ty_string 1 [(.tmp 56), (.tmp 60), (.tmp 63)]),
          .op (some 65) none (.bslice ty_L_string 1 [(.tmp 64)])] [
          .op (some 66) none (.append none ty_L_string 1 24 (.tmp 50) (.tmp 65)),
          .op (some 67) none (.faddr 1 (.tmp 8)),
          .op none none (.store (some 8) 1 (.tmp 67) (.tmp 66))]))))
      (.keep [0, 6, 7, 8, 9] [6, 8, 26, 66, 165] (.reg [
        .op (some 45) none (.mv (.tmp 9)),
        .op (some 46) none (.arith .add (.tmp 45) (.const (.int .i64 1))),
        .op (some 9) none (.mv (.tmp 46))])))))))))
  (.keep [0, 6, 7, 8] [6, 8, 26, 66, 165] (.seq (.reg [
    .op (some 11) none (.mv (.const (.slice none 0 0)))])
  (.keep [0, 6, 7, 8, 11] [6, 8, 26, 66, 165] (seqM 12 (.seq (.reg [
    .op (some 68) none (.mv (.tmp 0)),
    .op (some 69) none (.call f_m_Tape_Next [(.tmp 68), (.const (.int .i64 5))]),
    .op (some 12) none (.mv (.tmp 69))])
  (.keep [0, 6, 7, 8, 11, 12] [6, 8, 26, 66, 165] (.block 2 (.loop 2 (.seq /- 14 -/ (.seq (.reg [
        .op (some 70) none (.mv (.tmp 12)),
        .op (some 71) none (.cmp .gtr (.tmp 70) (.const (.int .i64 0)))])
      (.keep [0, 6, 7, 8, 11, 12, 71] [6, 8, 26, 66, 165] (.ite (.tmp 71) (.skip)
        (.exit 2))))
      (.keep [0, 6, 7, 8, 11, 12] [6, 8, 26, 66, 165] (.seq /- 16 -/ (.block 3 (.seq (.reg [
          .op (some 74) none (.mv (.tmp 0)),
          .op (some 75) none (.mv (.tmp 7)),
          .op (some 76) none (.call f_m_Tape_Next [(.tmp 74), (.tmp 75)]),
          .op (some 13) none (.mv (.tmp 76))])
        (.keep [0, 6, 7, 8, 11, 12, 13] [6, 8, 26, 66, 165] (.seq (.reg [
          .op (some 77) none (.mv (.tmp 0)),
          .op (some 78) none (.call f_m_Tape_Next [(.tmp 77), (.const (.int .i64 2))]),
          .op (some 79) none (.call f_m_Type [(.tmp 78)]),
          .op (some 80) none (.mv (.tmp 13)),
          .op (some 81) none (.mv (.tmp 13)),
          .op (some 82) none (.arith .add (.tmp 81) (.const (.int .i64 1))),
          .op (some 83) none (.mv (.tmp 0)),
          .op (some 84) none (.mv (.tmp 7)),
          .op (some 85) none (.mv (.tmp 13)),
          .op (some 86) none (.arith .sub (.tmp 84) (.tmp 85)),
          .op (some 87) none (.call f_m_Tape_Next [(.tmp 83), (.tmp 86)]),
          .op (some 88) none (.arith .add (.tmp 82) (.tmp 87)),
          .op (some 89) none (.build [(.string ⟨#[]⟩), (.int .i64 0), (.int .i64 0), (.slice none 0 0)] [(0, 1, (.tmp 79)), (1, 1, (.tmp 80)), (2, 1, (.tmp 88))]),
          .op (some 14) none (.alloc ty_Region [(.string ⟨#[]⟩), (.int .i64 0), (.int .i64 0), (.slice none 0 0)]),
          .op none none (.store none 4 (.tmp 14) (.tmp 89))])
        (.keep [0, 6, 7, 8, 11, 12, 14] [6, 8, 14, 26, 66, 165] (seqM 19 (.seq (.reg [
          .op (some 90) none (.mv (.tmp 0)),
          .op (some 91) none (.call f_m_Tape_Next [(.tmp 90), (.const (.int .i64 2))]),
          .op (some 92) none (.eql false false [.int] (.tmp 91) (.const (.int .i64 1)))])
        (.keep [0, 6, 7, 8, 11, 12, 14, 92] [6, 8, 14, 26, 66, 165] (.ite (.tmp 92) (.reg [
            .op (some 93) none (.bslice ty_string 1 [(.const (.string ⟨#[49]⟩)), (.const (.string ⟨#[50]⟩))]),
            .op (some 94) none (.mv (.tmp 0)),
            .op (some 95) none (.call f_m_Tape_Next [(.tmp 94), (.const (.int .i64 2))]),
            .op (some 96) none (.iaddr 1 (.tmp 93) (.tmp 95)),
            .op (some 97) none (.load false 1 (.tmp 96)),
            .op (some 98) none (.build [(.string ⟨#[]⟩), (.string ⟨#[]⟩)] [(0, 1, (.const (.string ⟨#[110]⟩))), (1, 1, (.tmp 97))]),
            .op (some 99) none (.bslice ty_Pair 2 [(.tmp 98)]),
            .op (some 100) none (.faddr 3 (.tmp 14)),
            .op none none (.store none 1 (.tmp 100) (.tmp 99))])
          (.skip))))
        (.keep [0, 6, 7, 8, 11, 12, 14] [6, 8, 14, 26, 66, 165] (.seq (.reg [
          .op (some 15) none (.mv (.const (.bool false)))])
        (.keep [0, 6, 7, 8, 11, 12, 14, 15] [6, 8, 14, 26, 66, 165] (seqM 22 (.seq (.reg [
          .op (some 101) none (.mv (.tmp 11)),
          .op (some 102) none (.len (.tmp 101)),
          .op (some 103) none (.mv (.const (.int .i64 0)))])
        (.keep [0, 6, 7, 8, 11, 12, 14, 15, 101, 102, 103] [6, 8, 14, 26, 66, 165] (rangeCC 4 103 102 104 5 (.seq (.reg [
            .op (some 105) none (.iaddr 4 (.tmp 101) (.tmp 103)),
            .op (some 106) none (.load true 4 (.tmp 105)),
            .op (some 17) none (.alloc ty_Region [(.string ⟨#[]⟩), (.int .i64 0), (.int .i64 0), (.slice none 0 0)]),
            .op none none (.store none 4 (.tmp 17) (.tmp 106))])
          (.keep [0, 6, 7, 8, 11, 12, 14, 15, 17, 101, 102, 103] [6, 8, 14, 17, 26, 66, 165] (.reg [
            .op (some 107) none (.mv (.tmp 15)),
            .op (some 108) none (.mv (.tmp 107)),
            .op (some 109) (some (108, false)) (.faddr 0 (.tmp 17)),
            .op (some 110) (some (108, false)) (.load false 1 (.tmp 109)),
            .op (some 111) (some (108, false)) (.faddr 0 (.tmp 14)),
            .op (some 112) (some (108, false)) (.load false 1 (.tmp 111)),
            .op (some 113) (some (108, false)) (.eql false false [.str] (.tmp 110) (.tmp 112)),
            .op (some 114) (some (108, false)) (.mv (.tmp 113)),
            .op (some 115) (some (114, true)) (.faddr 1 (.tmp 17)),
            .op (some 116) (some (114, true)) (.load false 1 (.tmp 115)),
            .op (some 117) (some (114, true)) (.faddr 2 (.tmp 14)),
            .op (some 118) (some (114, true)) (.load false 1 (.tmp 117)),
            .op (some 119) (some (114, true)) (.cmp .lss (.tmp 116) (.tmp 118)),
            .op (some 120) (some (108, false)) (.pick (.tmp 114) (.tmp 119) (.const (.bool false))),
            .op (some 121) (some (108, false)) (.mv (.tmp 120)),
            .op (some 122) (some (121, true)) (.faddr 1 (.tmp 14)),
            .op (some 123) (some (121, true)) (.load false 1 (.tmp 122)),
            .op (some 124) (some (121, true)) (.faddr 2 (.tmp 17)),
            .op (some 125) (some (121, true)) (.load false 1 (.tmp 124)),
            .op (some 126) (some (121, true)) (.cmp .lss (.tmp 123) (.tmp 125)),
            .op (some 127) (some (108, false)) (.pick (.tmp 121) (.tmp 126) (.const (.bool false))),
            .op (some 128) (some (108, false)) (.mv (.tmp 127)),
            .op (some 129) (some (128, true)) (.faddr 1 (.tmp 17)),
            .op (some 130) (some (128, true)) (.load false 1 (.tmp 129)),
            .op (some 131) (some (128, true)) (.faddr 1 (.tmp 14)),
            .op (some 132) (some (128, true)) (.load false 1 (.tmp 131)),
            .op (some 133) (some (128, true)) (.cmp .leq (.tmp 130) (.tmp 132)),
            .op (some 134) (some (128, true)) (.mv (.tmp 133)),
            .op (some 135) (some (134, true)) (.faddr 2 (.tmp 14)),
            .op (some 136) (some (134, true)) (.load false 1 (.tmp 135)),
            .op (some 137) (some (134, true)) (.faddr 2 (.tmp 17)),
            .op (some 138) (some (134, true)) (.load false 1 (.tmp 137)),
            .op (some 139) (some (134, true)) (.cmp .leq (.tmp 136) (.tmp 138)),
            .op (some 140) (some (128, true)) (.pick (.tmp 134) (.tmp 139) (.const (.bool false))),
            .op (some 141) (some (128, true)) (.not (.tmp 140)),
            .op (some 142) (some (108, false)) (.pick (.tmp 128) (.tmp 141) (.const (.bool false))),
            .op (some 143) (some (108, false)) (.mv (.tmp 142)),
            .op (some 144) (some (143, true)) (.faddr 1 (.tmp 14)),
            .op (some 145) (some (143, true)) (.load false 1 (.tmp 144)),
            .op (some 146) (some (143, true)) (.faddr 1 (.tmp 17)),
            .op (some 147) (some (143, true)) (.load false 1 (.tmp 146)),
            .op (some 148) (some (143, true)) (.cmp .leq (.tmp 145) (.tmp 147)),
            .op (some 149) (some (143, true)) (.mv (.tmp 148)),
            .op (some 150) (some (149, true)) (.faddr 2 (.tmp 17)),
            .op (some 151) (some (149, true)) (.load false 1 (.tmp 150)),
            .op (some 152) (some (149, true)) (.faddr 2 (.tmp 14)),
            .op (some 153) (some (149, true)) (.load false 1 (.tmp 152)),
            .op (some 154) (some (149, true)) (.cmp .leq (.tmp 151) (.tmp 153)),
            .op (some 155) (some (143, true)) (.pick (.tmp 149) (.tmp 154) (.const (.bool false))),
            .op (some 156) (some (143, true)) (.not (.tmp 155)),
            .op (some 157) (some (108, false)) (.pick (.tmp 143) (.tmp 156) (.const (.bool false))),
            .op (some 158) none (.pick (.tmp 108) (.const (.bool true)) (.tmp 157)),
            .op (some 15) none (.mv (.tmp 158))]))) 159)))
        (.keep [0, 6, 7, 8, 11, 12, 14, 15] [6, 8, 14, 26, 66, 165] (.seq (.reg [
          .op (some 160) none (.mv (.tmp 15)),
          .op (some 161) none (.not (.tmp 160))])
        (.keep [0, 6, 7, 8, 11, 12, 14, 161] [6, 8, 14, 26, 66, 165] (.ite (.tmp 161) (.reg [
            .op (some 162) none (.mv (.tmp 11)),
            .op (some 163) none (.load true 4 (.tmp 14)),
            .op (some 164) none (.bslice ty_Region 4 [(.tmp 163)]),
            .op (some 165) none (.append none ty_Region 4 56 (.tmp 162) (.tmp 164)),
            .op (some 11) none (.mv (.tmp 165))])
          (.skip)))))))))))))))
      (.keep [0, 6, 7, 8, 11, 12] [6, 8, 26, 66, 165] (.reg [
        .op (some 72) none (.mv (.tmp 12)),
        .op (some 73) none (.arith .sub (.tmp 72) (.const (.int .i64 1))),
        .op (some 12) none (.mv (.tmp 73))])))))))))
  (.keep [0, 6, 8, 11] [6, 8, 26, 66, 165] (.seq (.reg [
    .op (some 166) none (.mv (.tmp 11)),
    .op (some 167) none (.call f_r06_SortRegions [(.tmp 166)]),
    .op (some 168) none (.faddr 3 (.tmp 8)),
    .op none none (.store none 1 (.tmp 168) (.tmp 167))])
  (.keep [0, 6, 8] [6, 8, 26, 66, 165] (.seq (.reg [
    .op (some 169) none (.mv (.tmp 0)),
    .op (some 170) none (.call f_m_Tape_nodes [(.tmp 169), (.tmp 8)])])
  (.keep [0, 6, 8] [6, 8, 26, 66, 165] (seqM 28 (.seq (.reg [
    .op (some 171) none (.mv (.tmp 0)),
    .op (some 172) none (.call f_m_Tape_Next [(.tmp 171), (.const (.int .i64 2))]),
    .op (some 173) none (.eql false false [.int] (.tmp 172) (.const (.int .i64 1)))])
  (.keep [0, 6, 8, 173] [6, 8, 26, 66, 165] (.ite (.tmp 173) (.reg [
      .op (some 174) none (.mv (.tmp 0)),
      .op (some 175) none (.call f_m_Tape_heads [(.tmp 174), (.tmp 8)])])
    (.skip))))
  (.keep [6, 8] [6, 8, 26, 66, 165] (.seq (.reg [
    .op (some 176) none (.load true 7 (.tmp 8)),
    .op none none (.store none 7 (.tmp 6) (.tmp 176))])
  (.keep [6] [6, 26, 66, 165] (.ret))))))))))))))))))))))
def rs_m_Tape_Document : List CRes := [.cell 6 true 7]
def im_m_Tape_Document : List Nat := [100026, 2067008]
theorem ok_m_Tape_Document : FnOk Try.prog f_m_Tape_Document im_m_Tape_Document cc_m_Tape_Document rs_m_Tape_Document 177 := fnOk1 mixed (by kernel_rfl)
-- m_Tape_nodes while id=0: live [0:t, 1:c, 4:n, 5:at, 6:k] changed [5, 6] res [1, 61, 96]
/-- (*corpora/corporamade.Tape).nodes [P_corporamade_Tape, P_Corpus] -> [] -/
def cc_m_Tape_nodes : CC :=
  .seq (.reg [
    .op (some 11) none (.mv (.tmp 1)),
    .op (some 12) none (.nilck (.tmp 11)),
    .op (some 13) none (.faddr 1 (.tmp 12)),
    .op (some 14) none (.load false 1 (.tmp 13)),
    .op (some 15) none (.len (.tmp 14)),
    .op (some 4) none (.mv (.tmp 15))])
  (.keep [0, 1, 4] [1, 61, 96] (.seq (.reg [
    .op (some 5) none (.mv (.const (.int .i64 0)))])
  (.keep [0, 1, 4, 5] [1, 61, 96] (.seq (.reg [
    .op (some 16) none (.mv (.tmp 0)),
    .op (some 17) none (.call f_m_Tape_Next [(.tmp 16), (.const (.int .i64 4))]),
    .op (some 6) none (.mv (.tmp 17))])
  (.keep [0, 1, 4, 5, 6] [1, 61, 96] (.block 0 (.loop 1 (.seq /- 3 -/ (.seq (.reg [
        .op (some 18) none (.mv (.tmp 6)),
        .op (some 19) none (.cmp .gtr (.tmp 18) (.const (.int .i64 0))),
        .op (some 20) none (.mv (.tmp 19)),
        .op (some 21) (some (20, true)) (.mv (.tmp 5)),
        .op (some 22) (some (20, true)) (.mv (.tmp 4)),
        .op (some 23) (some (20, true)) (.cmp .lss (.tmp 21) (.tmp 22)),
        .op (some 24) none (.pick (.tmp 20) (.tmp 23) (.const (.bool false)))])
      (.keep [0, 1, 4, 5, 6, 24] [1, 61, 96] (.ite (.tmp 24) (.skip)
        (.exit 0))))
      (.keep [0, 1, 4, 5, 6] [1, 61, 96] (.seq /- 5 -/ (.block 1 (.seq (.reg [
          .op (some 27) none (.mv (.tmp 5)),
          .op (some 28) none (.mv (.tmp 0)),
          .op (some 29) none (.call f_m_Tape_Next [(.tmp 28), (.const (.int .i64 2))]),
          .op (some 30) none (.arith .add (.tmp 27) (.tmp 29)),
          .op (some 7) none (.mv (.tmp 30))])
        (.keep [0, 1, 4, 6, 7] [1, 61, 96] (.seq /- 7 -/ (.seq (.reg [
          .op (some 31) none (.mv (.tmp 7)),
          .op (some 32) none (.mv (.tmp 4)),
          .op (some 33) none (.cmp .geq (.tmp 31) (.tmp 32))])
        (.keep [0, 1, 4, 6, 7, 33] [1, 61, 96] (.ite (.tmp 33) (.exit 0)
          (.skip))))
        (.keep [0, 1, 4, 6, 7] [1, 61, 96] (.seq (.reg [
          .op (some 34) none (.mv (.tmp 7)),
          .op (some 35) none (.arith .add (.tmp 34) (.const (.int .i64 1))),
          .op (some 36) none (.mv (.tmp 0)),
          .op (some 37) none (.mv (.tmp 4)),
          .op (some 38) none (.mv (.tmp 7)),
          .op (some 39) none (.arith .sub (.tmp 37) (.tmp 38)),
          .op (some 40) none (.call f_m_Tape_Next [(.tmp 36), (.tmp 39)]),
          .op (some 41) none (.arith .add (.tmp 35) (.tmp 40)),
          .op (some 8) none (.mv (.tmp 41))])
        (.keep [0, 1, 4, 6, 7, 8] [1, 61, 96] (.seq (.reg [
          .op (some 42) none (.mv (.tmp 1)),
          .op (some 43) none (.nilck (.tmp 42)),
          .op (some 44) none (.faddr 4 (.tmp 43)),
          .op (some 45) none (.load false 1 (.tmp 44)),
          .op (some 46) none (.len (.tmp 45)),
          .op (some 9) none (.mv (.tmp 46))])
        (.keep [0, 1, 4, 6, 7, 8, 9] [1, 61, 96] (.seq (.regd [
          .op (some 47) none (.mv (.tmp 1)),
          .op (some 48) none (.mv (.tmp 1)),
          .op (some 49) none (.nilck (.tmp 48)),
          .op (some 50) none (.faddr 4 (.tmp 49)),
          .op (some 51) none (.load false 1 (.tmp 50)),
          .op (some 52) none (.bslice ty_string 1 [(.const (.string ⟨#[83]⟩)), (.const (.string ⟨#[78, 80]⟩))]),
          .op (some 53) none (.mv (.tmp 0)),
          .op (some 54) none (.call f_m_Tape_Next [(.tmp 53), (.const (.int .i64 2))]),
          .op (some 55) none (.iaddr 1 (.tmp 52) (.tmp 54)),
          .op (some 56) none (.load false 1 (.tmp 55)),
          .op (some 57) none (.mv (.tmp 7)),
          .op (some 58) none (.mv (.tmp 8)),
          .op (some 59) none (.build [(.string ⟨#[]⟩), (.int .i64 0), (.int .i64 0), (.int .i64 0)] [(0, 1, (.tmp 56)), (1, 1, (.tmp 57)), (2, 1, (.tmp 58)), (3, 1, (.const (.int .i64 (-1))))]),
          .op (some 60) none (.bslice ty_Node 4 [(.tmp 59)]),
          .op (some 61) none (.append (some 61) ty_Node 4 40 (.tmp 51) (.tmp 60))] [
          .op (some 62) none (.nilck (.tmp 47)),
          .op (some 63) none (.faddr 4 (.tmp 62)),
          .op none none (.store (some 1) 1 (.tmp 63) (.tmp 61))])
        (.keep [0, 1, 4, 6, 7, 8, 9] [1, 61, 96] (seqM 12 (.seq (.reg [
          .op (some 64) none (.mv (.tmp 0)),
          .op (some 65) none (.call f_m_Tape_Next [(.tmp 64), (.const (.int .i64 2))]),
          .op (some 66) none (.eql false false [.int] (.tmp 65) (.const (.int .i64 1)))])
        (.keep [0, 1, 4, 6, 7, 8, 9, 66] [1, 61, 96] (.ite (.tmp 66) (.seq (.reg [
            .op (some 67) none (.mv (.tmp 7)),
            .op (some 68) none (.mv (.tmp 0)),
            .op (some 69) none (.mv (.tmp 8)),
            .op (some 70) none (.mv (.tmp 7)),
            .op (some 71) none (.arith .sub (.tmp 69) (.tmp 70)),
            .op (some 72) none (.call f_m_Tape_Next [(.tmp 68), (.tmp 71)]),
            .op (some 73) none (.arith .add (.tmp 67) (.tmp 72)),
            .op (some 10) none (.mv (.tmp 73))])
          (.keep [0, 1, 4, 6, 8, 9, 10] [1, 61, 96] (.regd [
            .op (some 74) none (.mv (.tmp 1)),
            .op (some 75) none (.mv (.tmp 1)),
            .op (some 76) none (.nilck (.tmp 75)),
            .op (some 77) none (.faddr 4 (.tmp 76)),
            .op (some 78) none (.load false 1 (.tmp 77)),
            .op (some 79) none (.bslice ty_string 1 [(.const (.string ⟨#[78, 80]⟩)), (.const (.string ⟨#[86, 80]⟩))]),
            .op (some 80) none (.mv (.tmp 0)),
            .op (some 81) none (.call f_m_Tape_Next [(.tmp 80), (.const (.int .i64 2))]),
            .op (some 82) none (.iaddr 1 (.tmp 79) (.tmp 81)),
            .op (some 83) none (.load false 1 (.tmp 82)),
            .op (some 84) none (.mv (.tmp 10)),
            .op (some 85) none (.mv (.tmp 10)),
            .op (some 86) none (.arith .add (.tmp 85) (.const (.int .i64 1))),
            .op (some 87) none (.mv (.tmp 0)),
            .op (some 88) none (.mv (.tmp 8)),
            .op (some 89) none (.mv (.tmp 10)),
            .op (some 90) none (.arith .sub (.tmp 88) (.tmp 89)),
            .op (some 91) none (.call f_m_Tape_Next [(.tmp 87), (.tmp 90)]),
            .op (some 92) none (.arith .add (.tmp 86) (.tmp 91)),
            .op (some 93) none (.mv (.tmp 9)),
            .op (some 94) none (.build [(.string ⟨#[]⟩), (.int .i64 0), (.int .i64 0), (.int .i64 0)] [(0, 1, (.tmp 83)), (1, 1, (.tmp 84)), (2, 1, (.tmp 92)), (3, 1, (.tmp 93))]),
            .op (some 95) none (.bslice ty_Node 4 [(.tmp 94)]),
            .op (some 96) none (.append (some 61) ty_Node 4 40 (.tmp 78) (.tmp 95))] [
            .op (some 97) none (.nilck (.tmp 74)),
            .op (some 98) none (.faddr 4 (.tmp 97)),
            .op none none (.store (some 1) 1 (.tmp 98) (.tmp 96))])))
          (.skip))))
        (.keep [0, 1, 4, 6, 8] [1, 61, 96] (.reg [
          .op (some 99) none (.mv (.tmp 8)),
          .op (some 5) none (.mv (.tmp 99))]))))))))))))))
      (.keep [0, 1, 4, 5, 6] [1, 61, 96] (.reg [
        .op (some 25) none (.mv (.tmp 6)),
        .op (some 26) none (.arith .sub (.tmp 25) (.const (.int .i64 1))),
        .op (some 6) none (.mv (.tmp 26))]))))))))))))
def rs_m_Tape_nodes : List CRes := []
def im_m_Tape_nodes : List Nat := [1061061, 1096061, 2063001, 2098001]
theorem ok_m_Tape_nodes : FnOk Try.prog f_m_Tape_nodes im_m_Tape_nodes cc_m_Tape_nodes rs_m_Tape_nodes 100 := fnOk1 mixed (by kernel_rfl)
-- m_Tape_heads while id=0: live [0:t, 1:c, 4:n, 5:order, 6:i] changed [5, 6] res [1, 27, 31, 34, 38, 40, 42]
-- m_Tape_heads range i=45 n=44 c=46 i2=92 id=2: live [0:t, 1:c, 5:order, 8:heads, 9:relations, 10:some, 43:] changed [10] res [1, 27, 31, 34, 38, 40, 42]
/-- (*corpora/corporamade.Tape).heads [P_corporamade_Tape, P_Corpus] -> [] -/
def cc_m_Tape_heads : CC :=
  .seq (.reg [
    .op (some 13) none (.mv (.tmp 1)),
    .op (some 14) none (.nilck (.tmp 13)),
    .op (some 15) none (.faddr 1 (.tmp 14)),
    .op (some 16) none (.load false 1 (.tmp 15)),
    .op (some 17) none (.len (.tmp 16)),
    .op (some 4) none (.mv (.tmp 17))])
  (.keep [0, 1, 4] [1, 40, 42] (.seq (.reg [
    .op (some 5) none (.mv (.const (.slice none 0 0)))])
  (.keep [0, 1, 4, 5] [1, 27, 31, 34, 38, 40, 42] (.seq /- 2 -/ (.seq (.reg [
    .op (some 6) none (.mv (.const (.int .i64 0)))])
  (.keep [0, 1, 4, 5, 6] [1, 27, 31, 34, 38, 40, 42] (.block 0 (.loop 1 (.seq /- 4 -/ (.seq (.reg [
        .op (some 18) none (.mv (.tmp 6)),
        .op (some 19) none (.mv (.tmp 4)),
        .op (some 20) none (.cmp .lss (.tmp 18) (.tmp 19))])
      (.keep [0, 1, 4, 5, 6, 20] [1, 27, 31, 34, 38, 40, 42] (.ite (.tmp 20) (.skip)
        (.exit 0))))
      (.keep [0, 1, 4, 5, 6] [1, 27, 31, 34, 38, 40, 42] (.seq /- 6 -/ (.block 1 (.seq (.reg [
          .op (some 23) none (.mv (.tmp 0)),
          .op (some 24) none (.mv (.tmp 6)),
          .op (some 25) none (.arith .add (.tmp 24) (.const (.int .i64 1))),
          .op (some 26) none (.call f_m_Tape_Next [(.tmp 23), (.tmp 25)]),
          .op (some 7) none (.mv (.tmp 26))])
        (.keep [0, 1, 4, 5, 6, 7] [1, 27, 31, 34, 38, 40, 42] (.regd [
          .op (some 27) none (.nslice ty_int 1),
          .op (some 28) none (.mv (.tmp 5)),
          .op (some 29) none (.mv (.tmp 7)),
          .op (some 30) none (.slice 1 (.tmp 28) none (some (.tmp 29))),
          .op (some 31) none (.append (some 27) ty_int 1 8 (.tmp 27) (.tmp 30)),
          .op (some 32) none (.mv (.tmp 6)),
          .op (some 33) none (.bslice ty_int 1 [(.tmp 32)]),
          .op (some 34) none (.append (some 27) ty_int 1 8 (.tmp 31) (.tmp 33)),
          .op (some 35) none (.mv (.tmp 5)),
          .op (some 36) none (.mv (.tmp 7)),
          .op (some 37) none (.slice 1 (.tmp 35) (some (.tmp 36)) none)] [
          .op (some 38) none (.append (some 27) ty_int 1 8 (.tmp 34) (.tmp 37)),
          .op (some 5) none (.mv (.tmp 38))]))))
      (.keep [0, 1, 4, 5, 6] [1, 27, 31, 34, 38, 40, 42] (.reg [
        .op (some 21) none (.mv (.tmp 6)),
        .op (some 22) none (.arith .add (.tmp 21) (.const (.int .i64 1))),
        .op (some 6) none (.mv (.tmp 22))])))))))))
  (.keep [0, 1, 4, 5] [1, 27, 31, 34, 38, 40, 42] (.seq (.regd [
    .op (some 39) none (.mv (.tmp 4)),
    .op (some 40) none (.mkslice ty_int 1 8 false [(.int .i64 0)] (.tmp 39) (.tmp 39)),
    .op (some 41) none (.mv (.tmp 4)),
    .op (some 42) none (.mkslice ty_string 1 16 false [(.string ⟨#[]⟩)] (.tmp 41) (.tmp 41)),
    .op (some 8) none (.mv (.tmp 40))] [
    .op (some 9) none (.mv (.tmp 42))])
  (.keep [0, 1, 5, 8, 9] [1, 27, 31, 34, 38, 40, 42] (.seq (.reg [
    .op (some 10) none (.mv (.const (.bool false)))])
  (.keep [0, 1, 5, 8, 9, 10] [1, 27, 31, 34, 38, 40, 42] (seqM 10 (.seq (.reg [
    .op (some 43) none (.mv (.tmp 5)),
    .op (some 44) none (.len (.tmp 43)),
    .op (some 45) none (.mv (.const (.int .i64 0)))])
  (.keep [0, 1, 5, 8, 9, 10, 43, 44, 45] [1, 27, 31, 34, 38, 40, 42] (rangeCC 2 45 44 46 3 (.seq (.reg [
      .op (some 47) none (.mv (.tmp 45)),
      .op (some 48) none (.iaddr 1 (.tmp 43) (.tmp 45)),
      .op (some 49) none (.load false 1 (.tmp 48)),
      .op (some 11) none (.mv (.tmp 47)),
      .op (some 12) none (.mv (.tmp 49))])
    (.keep [0, 1, 5, 8, 9, 10, 11, 12, 43, 44, 45] [1, 27, 31, 34, 38, 40, 42] (.seq (.reg [
      .op (some 50) none (.mv (.tmp 8)),
      .op (some 51) none (.mv (.tmp 12)),
      .op (some 52) none (.iaddr 1 (.tmp 50) (.tmp 51)),
      .op none none (.store none 1 (.tmp 52) (.const (.int .i64 (-1))))])
    (.keep [0, 1, 5, 8, 9, 10, 11, 12, 43, 44, 45] [1, 27, 31, 34, 38, 40, 42] (seqM 14 (.seq (.reg [
      .op (some 53) none (.mv (.tmp 11)),
      .op (some 54) none (.cmp .gtr (.tmp 53) (.const (.int .i64 0))),
      .op (some 55) none (.mv (.tmp 54)),
      .op (some 56) (some (55, true)) (.mv (.tmp 0)),
      .op (some 57) (some (55, true)) (.call f_m_Tape_Next [(.tmp 56), (.const (.int .i64 4))]),
      .op (some 58) (some (55, true)) (.cmp .gtr (.tmp 57) (.const (.int .i64 0))),
      .op (some 59) none (.pick (.tmp 55) (.tmp 58) (.const (.bool false)))])
    (.keep [0, 1, 5, 8, 9, 10, 11, 12, 43, 44, 45, 59] [1, 27, 31, 34, 38, 40, 42] (.ite (.tmp 59) (.regd [
        .op (some 60) none (.mv (.tmp 8)),
        .op (some 61) none (.mv (.tmp 12)),
        .op (some 62) none (.mv (.tmp 9)),
        .op (some 63) none (.mv (.tmp 12)),
        .op (some 64) none (.mv (.tmp 5)),
        .op (some 65) none (.mv (.tmp 0)),
        .op (some 66) none (.mv (.tmp 11)),
        .op (some 67) none (.call f_m_Tape_Next [(.tmp 65), (.tmp 66)]),
        .op (some 68) none (.iaddr 1 (.tmp 64) (.tmp 67)),
        .op (some 69) none (.load false 1 (.tmp 68)),
        .op (some 70) none (.bslice ty_string 1 [(.const (.string ⟨#[111, 98, 106]⟩)), (.const (.string ⟨#[100, 101, 116]⟩)), (.const (.string ⟨#[]⟩))]),
        .op (some 71) none (.mv (.tmp 0)),
        .op (some 72) none (.call f_m_Tape_Next [(.tmp 71), (.const (.int .i64 3))]),
        .op (some 73) none (.iaddr 1 (.tmp 70) (.tmp 72)),
        .op (some 74) none (.load false 1 (.tmp 73)),
        .op (some 75) none (.iaddr 1 (.tmp 60) (.tmp 61)),
        .op none none (.store (some 40) 1 (.tmp 75) (.tmp 69))] [
        .op (some 76) none (.iaddr 1 (.tmp 62) (.tmp 63)),
        .op none none (.store (some 42) 1 (.tmp 76) (.tmp 74))])
      (.skip))))
    (.keep [0, 1, 5, 8, 9, 10, 12, 43, 44, 45] [1, 27, 31, 34, 38, 40, 42] (.reg [
      .op (some 77) none (.mv (.tmp 10)),
      .op (some 78) none (.mv (.tmp 77)),
      .op (some 79) (some (78, false)) (.mv (.tmp 8)),
      .op (some 80) (some (78, false)) (.mv (.tmp 12)),
      .op (some 81) (some (78, false)) (.iaddr 1 (.tmp 79) (.tmp 80)),
      .op (some 82) (some (78, false)) (.load false 1 (.tmp 81)),
      .op (some 83) (some (78, false)) (.eql true false [.int] (.tmp 82) (.const (.int .i64 (-1)))),
      .op (some 84) none (.pick (.tmp 78) (.const (.bool true)) (.tmp 83)),
      .op (some 85) none (.mv (.tmp 84)),
      .op (some 86) (some (85, false)) (.mv (.tmp 9)),
      .op (some 87) (some (85, false)) (.mv (.tmp 12)),
      .op (some 88) (some (85, false)) (.iaddr 1 (.tmp 86) (.tmp 87)),
      .op (some 89) (some (85, false)) (.load false 1 (.tmp 88)),
      .op (some 90) (some (85, false)) (.eql true false [.str] (.tmp 89) (.const (.string ⟨#[]⟩))),
      .op (some 91) none (.pick (.tmp 85) (.const (.bool true)) (.tmp 90)),
      .op (some 10) none (.mv (.tmp 91))]))))))) 92)))
  (.keep [1, 8, 9, 10] [1, 40, 42] (.seq (.reg [
    .op (some 93) none (.mv (.tmp 10))])
  (.keep [1, 8, 9, 93] [1, 40, 42] (.ite (.tmp 93) (.reg [
      .op (some 94) none (.mv (.tmp 1)),
      .op (some 95) none (.mv (.tmp 1)),
      .op (some 96) none (.mv (.tmp 8)),
      .op (some 97) none (.mv (.tmp 9)),
      .op (some 98) none (.nilck (.tmp 94)),
      .op (some 99) none (.faddr 5 (.tmp 98)),
      .op none none (.store none 1 (.tmp 99) (.tmp 96)),
      .op (some 100) none (.nilck (.tmp 95)),
      .op (some 101) none (.faddr 6 (.tmp 100)),
      .op none none (.store none 1 (.tmp 101) (.tmp 97))])
    (.skip)))))))))))))))
def rs_m_Tape_heads : List CRes := []
def im_m_Tape_heads : List Nat := [1038027, 1034027, 1031027, 2076042, 2075040]
theorem ok_m_Tape_heads : FnOk Try.prog f_m_Tape_heads im_m_Tape_heads cc_m_Tape_heads rs_m_Tape_heads 102 := fnOk1 mixed (by kernel_rfl)
-- m_Tape_Corpus while id=0: live [0:t, 1:most, 4:, 5:c, 6:n] changed [6] res [4, 5]
/-- (*corpora/corporamade.Tape).Corpus [P_corporamade_Tape, int] -> [Corpus] -/
def cc_m_Tape_Corpus : CC :=
  .seq (.reg [
    .op (some 4) none (.alloc ty_Corpus [(.slice none 0 0), (.slice none 0 0), (.slice none 0 0), (.slice none 0 0), (.slice none 0 0), (.slice none 0 0), (.slice none 0 0)])])
  (.keep [0, 1, 4] [4] (.seq (.reg [
    .op (some 10) none (.mv (.tmp 0)),
    .op (some 11) none (.mv (.tmp 1)),
    .op (some 12) none (.call f_m_Tape_Document [(.tmp 10), (.const (.string ⟨#[116, 48]⟩)), (.tmp 11)]),
    .op (some 5) none (.alloc ty_Corpus [(.slice none 0 0), (.slice none 0 0), (.slice none 0 0), (.slice none 0 0), (.slice none 0 0), (.slice none 0 0), (.slice none 0 0)]),
    .op none none (.store none 7 (.tmp 5) (.tmp 12))])
  (.keep [0, 1, 4, 5] [4, 5] (.seq /- 2 -/ (.seq (.reg [
    .op (some 13) none (.mv (.tmp 0)),
    .op (some 14) none (.call f_m_Tape_Next [(.tmp 13), (.const (.int .i64 3))]),
    .op (some 6) none (.mv (.tmp 14))])
  (.keep [0, 1, 4, 5, 6] [4, 5] (.block 0 (.loop 1 (.seq /- 4 -/ (.seq (.reg [
        .op (some 15) none (.mv (.tmp 6)),
        .op (some 16) none (.cmp .gtr (.tmp 15) (.const (.int .i64 0)))])
      (.keep [0, 1, 4, 5, 6, 16] [4, 5] (.ite (.tmp 16) (.skip)
        (.exit 0))))
      (.keep [0, 1, 4, 5, 6] [4, 5] (.seq /- 6 -/ (.block 1 (.seq (.reg [
          .op (some 19) none (.mv (.tmp 0)),
          .op (some 20) none (.bslice ty_string 1 [(.const (.string ⟨#[116, 48]⟩)), (.const (.string ⟨#[116, 49]⟩)), (.const (.string ⟨#[116, 50]⟩))]),
          .op (some 21) none (.mv (.tmp 6)),
          .op (some 22) none (.iaddr 1 (.tmp 20) (.tmp 21)),
          .op (some 23) none (.load false 1 (.tmp 22)),
          .op (some 24) none (.mv (.tmp 1)),
          .op (some 25) none (.call f_m_Tape_Document [(.tmp 19), (.tmp 23), (.tmp 24)]),
          .op (some 7) none (.alloc ty_Corpus [(.slice none 0 0), (.slice none 0 0), (.slice none 0 0), (.slice none 0 0), (.slice none 0 0), (.slice none 0 0), (.slice none 0 0)]),
          .op none none (.store none 7 (.tmp 7) (.tmp 25))])
        (.keep [0, 1, 4, 5, 6, 7] [4, 5, 7] (.seq (.reg [
          .op (some 27) none (.load true 7 (.tmp 5)),
          .op (some 28) none (.load true 7 (.tmp 7)),
          .op (some 29) none (.call f_r06_Concat [(.tmp 27), (.tmp 28)]),
          .op (some 26) none (.mv (.tmp 29)),
          .op (some 30) none (.ext (.tmp 26) 0),
          .op (some 31) none (.ext (.tmp 26) 1),
          .op (some 8) none (.alloc ty_Corpus [(.slice none 0 0), (.slice none 0 0), (.slice none 0 0), (.slice none 0 0), (.slice none 0 0), (.slice none 0 0), (.slice none 0 0)]),
          .op none none (.store none 7 (.tmp 8) (.tmp 30)),
          .op (some 9) none (.mv (.tmp 31))])
        (.keep [0, 1, 4, 5, 6, 8, 9] [4, 5, 8] (.seq (.reg [
          .op (some 32) none (.mv (.tmp 9)),
          .op (some 33) none (.eql false false [.int] (.tmp 32) (.const (.int .i64 0)))])
        (.keep [0, 1, 4, 5, 6, 8, 33] [4, 5, 8] (.ite (.tmp 33) (.reg [
            .op (some 34) none (.load true 7 (.tmp 8)),
            .op none none (.store none 7 (.tmp 5) (.tmp 34))])
          (.skip)))))))))
      (.keep [0, 1, 4, 5, 6] [4, 5] (.reg [
        .op (some 17) none (.mv (.tmp 6)),
        .op (some 18) none (.arith .sub (.tmp 17) (.const (.int .i64 1))),
        .op (some 6) none (.mv (.tmp 18))])))))))))
  (.keep [4, 5] [4, 5] (.seq (.reg [
    .op (some 35) none (.load true 7 (.tmp 5)),
    .op none none (.store none 7 (.tmp 4) (.tmp 35))])
  (.keep [4] [4] (.ret))))))))
def rs_m_Tape_Corpus : List CRes := [.cell 4 true 7]
def im_m_Tape_Corpus : List Nat := []
theorem ok_m_Tape_Corpus : FnOk Try.prog f_m_Tape_Corpus im_m_Tape_Corpus cc_m_Tape_Corpus rs_m_Tape_Corpus 36 := fnOk1 mixed (by kernel_rfl)
-- m_Tape_Spans range i=15 n=14 c=16 i2=27 id=0: live [7:out, 13:] changed [7] res [26]
/-- (*corpora/corporamade.Tape).Spans [P_corporamade_Tape, Corpus, int] -> [L_Span] -/
def cc_m_Tape_Spans : CC :=
  .seq (.reg [
    .op (some 4) none (.box ty_Corpus true (.tmp 1)),
    .op (some 6) none (.mv (.const (.slice none 0 0)))])
  (.keep [0, 2, 4] [] (.seq (.reg [
    .op (some 7) none (.mv (.const (.slice none 0 0)))])
  (.keep [0, 2, 4, 7] [26] (.seq /- 2 -/ (.seq (.reg [
    .op (some 10) none (.mv (.tmp 0)),
    .op (some 11) none (.load true 7 (.tmp 4)),
    .op (some 12) none (.mv (.tmp 2)),
    .op (some 13) none (.call f_m_Tape_Matches [(.tmp 10), (.tmp 11), (.const (.int .i64 0)), (.tmp 12)]),
    .op (some 14) none (.len (.tmp 13)),
    .op (some 15) none (.mv (.const (.int .i64 0)))])
  (.keep [7, 13, 14, 15] [26] (rangeCC 0 15 14 16 1 (.seq (.reg [
      .op (some 17) none (.iaddr 3 (.tmp 13) (.tmp 15)),
      .op (some 18) none (.load true 3 (.tmp 17)),
      .op (some 9) none (.alloc ty_Match [(.int .i64 0), (.int .i64 0), (.slice none 0 0)]),
      .op none none (.store none 3 (.tmp 9) (.tmp 18))])
    (.keep [7, 9, 13, 14, 15] [9, 26] (.reg [
      .op (some 19) none (.mv (.tmp 7)),
      .op (some 20) none (.faddr 0 (.tmp 9)),
      .op (some 21) none (.load false 1 (.tmp 20)),
      .op (some 22) none (.faddr 1 (.tmp 9)),
      .op (some 23) none (.load false 1 (.tmp 22)),
      .op (some 24) none (.build [(.int .i64 0), (.int .i64 0)] [(0, 1, (.tmp 21)), (1, 1, (.tmp 23))]),
      .op (some 25) none (.bslice ty_Span 2 [(.tmp 24)]),
      .op (some 26) none (.append none ty_Span 2 16 (.tmp 19) (.tmp 25)),
      .op (some 7) none (.mv (.tmp 26))]))) 27)))
  (.keep [7] [26] (.seq (.reg [
    .op (some 28) none (.mv (.tmp 7)),
    .op (some 6) none (.mv (.tmp 28))])
  (.keep [6] [26] (.ret))))))))
def rs_m_Tape_Spans : List CRes := [.tmp 6]
def im_m_Tape_Spans : List Nat := [4]
theorem ok_m_Tape_Spans : FnOk Try.prog f_m_Tape_Spans im_m_Tape_Spans cc_m_Tape_Spans rs_m_Tape_Spans 29 := fnOk1 mixed (by kernel_rfl)
-- m_Tape_Matches while id=0: live [0:t, 2:labels, 5:c, 9:out, 10:n] changed [9, 10] res [90]
-- m_Tape_Matches while id=0: live [0:t, 2:labels, 5:c, 9:out, 10:n, 11:x, 13:m, 14:i] changed [14] res [11, 13, 73, 90]
/-- (*corpora/corporamade.Tape).Matches [P_corporamade_Tape, Corpus, int, int] -> [L_Match] -/
def cc_m_Tape_Matches : CC :=
  .seq (.reg [
    .op (some 5) none (.box ty_Corpus true (.tmp 1)),
    .op (some 8) none (.mv (.const (.slice none 0 0)))])
  (.keep [0, 2, 3, 5] [] (.seq (.reg [
    .op (some 9) none (.mv (.const (.slice none 0 0)))])
  (.keep [0, 2, 3, 5, 9] [90] (.seq /- 2 -/ (.seq (.reg [
    .op (some 15) none (.mv (.tmp 0)),
    .op (some 16) none (.mv (.tmp 3)),
    .op (some 17) none (.arith .add (.tmp 16) (.const (.int .i64 1))),
    .op (some 18) none (.call f_m_Tape_Next [(.tmp 15), (.tmp 17)]),
    .op (some 10) none (.mv (.tmp 18))])
  (.keep [0, 2, 5, 9, 10] [90] (.block 0 (.loop 1 (.seq /- 4 -/ (.seq (.reg [
        .op (some 19) none (.mv (.tmp 10)),
        .op (some 20) none (.cmp .gtr (.tmp 19) (.const (.int .i64 0)))])
      (.keep [0, 2, 5, 9, 10, 20] [90] (.ite (.tmp 20) (.skip)
        (.exit 0))))
      (.keep [0, 2, 5, 9, 10] [90] (.seq /- 6 -/ (.block 1 (.seq (.regd [
          .op (some 23) none (.faddr 2 (.tmp 5)),
          .op (some 24) none (.load false 1 (.tmp 23)),
          .op (some 25) none (.mv (.tmp 0)),
          .op (some 26) none (.faddr 2 (.tmp 5)),
          .op (some 27) none (.load false 1 (.tmp 26)),
          .op (some 28) none (.len (.tmp 27)),
          .op (some 29) none (.call f_m_Tape_Next [(.tmp 25), (.tmp 28)]),
          .op (some 30) none (.iaddr 4 (.tmp 24) (.tmp 29)),
          .op (some 31) none (.load true 4 (.tmp 30)),
          .op (some 11) none (.alloc ty_Text [(.string ⟨#[]⟩), (.int .i64 0), (.int .i64 0), (.slice none 0 0)])] [
          .op none none (.store (some 11) 4 (.tmp 11) (.tmp 31))])
        (.keep [0, 2, 5, 9, 10, 11] [11, 90] (.seq (.regd [
          .op (some 32) none (.faddr 1 (.tmp 11)),
          .op (some 33) none (.load false 1 (.tmp 32)),
          .op (some 34) none (.mv (.tmp 0)),
          .op (some 35) none (.faddr 2 (.tmp 11)),
          .op (some 36) none (.load false 1 (.tmp 35)),
          .op (some 37) none (.faddr 1 (.tmp 11)),
          .op (some 38) none (.load false 1 (.tmp 37)),
          .op (some 39) none (.arith .sub (.tmp 36) (.tmp 38)),
          .op (some 40) none (.call f_m_Tape_Next [(.tmp 34), (.tmp 39)])] [
          .op (some 41) none (.arith .add (.tmp 33) (.tmp 40)),
          .op (some 12) none (.mv (.tmp 41))])
        (.keep [0, 2, 5, 9, 10, 11, 12] [11, 90] (.seq (.reg [
          .op (some 42) none (.mv (.tmp 12)),
          .op (some 43) none (.mv (.tmp 12)),
          .op (some 44) none (.arith .add (.tmp 43) (.const (.int .i64 1))),
          .op (some 45) none (.mv (.tmp 0)),
          .op (some 46) none (.faddr 2 (.tmp 11)),
          .op (some 47) none (.load false 1 (.tmp 46)),
          .op (some 48) none (.mv (.tmp 12)),
          .op (some 49) none (.arith .sub (.tmp 47) (.tmp 48)),
          .op (some 50) none (.call f_m_Tape_Next [(.tmp 45), (.tmp 49)]),
          .op (some 51) none (.arith .add (.tmp 44) (.tmp 50)),
          .op (some 52) none (.build [(.int .i64 0), (.int .i64 0), (.slice none 0 0)] [(0, 1, (.tmp 42)), (1, 1, (.tmp 51))]),
          .op (some 13) none (.alloc ty_Match [(.int .i64 0), (.int .i64 0), (.slice none 0 0)]),
          .op none none (.store none 3 (.tmp 13) (.tmp 52))])
        (.keep [0, 2, 5, 9, 10, 11, 13] [11, 13, 73, 90] (seqM 10 (.seq (.reg [
          .op (some 14) none (.mv (.const (.int .i64 0)))])
        (.keep [0, 2, 5, 9, 10, 11, 13, 14] [11, 13, 73, 90] (.block 2 (.loop 2 (.seq /- 12 -/ (.seq (.reg [
              .op (some 53) none (.mv (.tmp 14)),
              .op (some 54) none (.mv (.tmp 2)),
              .op (some 55) none (.cmp .lss (.tmp 53) (.tmp 54))])
            (.keep [0, 2, 5, 9, 10, 11, 13, 14, 55] [11, 13, 73, 90] (.ite (.tmp 55) (.skip)
              (.exit 2))))
            (.keep [0, 2, 5, 9, 10, 11, 13, 14] [11, 13, 73, 90] (.seq /- 14 -/ (.block 3 (.seq (.regd [
                .op (some 58) none (.faddr 2 (.tmp 13)),
                .op (some 59) none (.load false 1 (.tmp 58)),
                .op (some 60) none (.faddr 1 (.tmp 11)),
                .op (some 61) none (.load false 1 (.tmp 60)),
                .op (some 62) none (.mv (.tmp 0)),
                .op (some 63) none (.faddr 2 (.tmp 11)),
                .op (some 64) none (.load false 1 (.tmp 63)),
                .op (some 65) none (.faddr 1 (.tmp 11)),
                .op (some 66) none (.load false 1 (.tmp 65)),
                .op (some 67) none (.arith .sub (.tmp 64) (.tmp 66)),
                .op (some 68) none (.arith .add (.tmp 67) (.const (.int .i64 1))),
                .op (some 69) none (.call f_m_Tape_Next [(.tmp 62), (.tmp 68)]),
                .op (some 70) none (.arith .add (.tmp 61) (.tmp 69)),
                .op (some 71) none (.arith .sub (.tmp 70) (.const (.int .i64 1))),
                .op (some 72) none (.bslice ty_int 1 [(.tmp 71)])] [
                .op (some 73) none (.append (some 73) ty_int 1 8 (.tmp 59) (.tmp 72)),
                .op (some 74) none (.faddr 2 (.tmp 13)),
                .op none none (.store (some 13) 1 (.tmp 74) (.tmp 73))])
              (.keep [0, 2, 5, 9, 10, 11, 13, 14] [11, 13, 73, 90] (.seq (.regd [
                .op (some 75) none (.faddr 2 (.tmp 13)),
                .op (some 76) none (.load false 1 (.tmp 75)),
                .op (some 77) none (.mv (.tmp 14)),
                .op (some 78) none (.iaddr 1 (.tmp 76) (.tmp 77)),
                .op (some 79) none (.load false 1 (.tmp 78)),
                .op (some 80) none (.faddr 1 (.tmp 11)),
                .op (some 81) none (.load false 1 (.tmp 80))] [
                .op (some 82) none (.cmp .lss (.tmp 79) (.tmp 81))])
              (.keep [0, 2, 5, 9, 10, 11, 13, 14, 82] [11, 13, 73, 90] (.ite (.tmp 82) (.reg [
                  .op (some 83) none (.faddr 2 (.tmp 13)),
                  .op (some 84) none (.load false 1 (.tmp 83)),
                  .op (some 85) none (.mv (.tmp 14)),
                  .op (some 86) none (.iaddr 1 (.tmp 84) (.tmp 85)),
                  .op none none (.store none 1 (.tmp 86) (.const (.int .i64 (-1))))])
                (.skip)))))))
            (.keep [0, 2, 5, 9, 10, 11, 13, 14] [11, 13, 73, 90] (.reg [
              .op (some 56) none (.mv (.tmp 14)),
              .op (some 57) none (.arith .add (.tmp 56) (.const (.int .i64 1))),
              .op (some 14) none (.mv (.tmp 57))])))))))))
        (.keep [0, 2, 5, 9, 10, 13] [13, 73, 90] (.reg [
          .op (some 87) none (.mv (.tmp 9)),
          .op (some 88) none (.load true 3 (.tmp 13)),
          .op (some 89) none (.bslice ty_Match 3 [(.tmp 88)]),
          .op (some 90) none (.append none ty_Match 3 40 (.tmp 87) (.tmp 89)),
          .op (some 9) none (.mv (.tmp 90))]))))))))))
      (.keep [0, 2, 5, 9, 10] [90] (.reg [
        .op (some 21) none (.mv (.tmp 10)),
        .op (some 22) none (.arith .sub (.tmp 21) (.const (.int .i64 1))),
        .op (some 10) none (.mv (.tmp 22))])))))))))
  (.keep [9] [90] (.seq (.reg [
    .op (some 91) none (.mv (.tmp 9)),
    .op (some 8) none (.mv (.tmp 91))])
  (.keep [8] [90] (.ret))))))))
def rs_m_Tape_Matches : List CRes := [.tmp 8]
def im_m_Tape_Matches : List Nat := [5, 2011011, 2074013, 1073073]
theorem ok_m_Tape_Matches : FnOk Try.prog f_m_Tape_Matches im_m_Tape_Matches cc_m_Tape_Matches rs_m_Tape_Matches 92 := fnOk1 mixed (by kernel_rfl)

def cc_r30_has : CC :=
  .seq (.reg [
    .op (some 3) none (.box ty_Span true (.tmp 1)),
    .op (some 4) none (.mv (.const (.bool false)))])
  (.keep [0, 3] [] (.seq /- 1 -/ (.seq (.reg [
    .op (some 7) none (.mv (.tmp 0)),
    .op (some 8) none (.len (.tmp 7)),
    .op (some 9) none (.mv (.const (.int .i64 0)))])
  (.keep [3, 7, 8, 9] [] (rangeCC 0 9 8 10 1 (.seq (.reg [
      .op (some 11) none (.iaddr 2 (.tmp 7) (.tmp 9)),
      .op (some 12) none (.load true 2 (.tmp 11)),
      .op (some 6) none (.alloc ty_Span [(.int .i64 0), (.int .i64 0)]),
      .op none none (.store none 2 (.tmp 6) (.tmp 12))])
    (.keep [3, 6, 7, 8, 9] [6] (.seq (.reg [
      .op (some 13) none (.load true 2 (.tmp 3)),
      .op (some 14) none (.load true 2 (.tmp 6)),
      .op (some 15) none (.eql false true [.int, .int] (.tmp 13) (.tmp 14))])
    (.keep [3, 7, 8, 9, 15] [] (.ite (.tmp 15) (.seq (.reg [
        .op (some 4) none (.mv (.const (.bool true)))])
      (.keep [4] [] (.ret)))
      (.skip)))))) 16)))
  (.keep [] [] (.seq (.reg [
    .op (some 4) none (.mv (.const (.bool false)))])
  (.keep [4] [] (.ret))))))
def rs_r30_has : List CRes := [.tmp 4]

def cc_r30_within : CC :=
  .seq (.reg [
    .op (some 2) none (.box ty_Span true (.tmp 0)),
    .op (some 4) none (.mv (.const (.bool false)))])
  (.keep [1, 2] [] (.seq /- 1 -/ (.seq (.reg [
    .op (some 7) none (.mv (.tmp 1)),
    .op (some 8) none (.len (.tmp 7)),
    .op (some 9) none (.mv (.const (.int .i64 0)))])
  (.keep [2, 7, 8, 9] [] (rangeCC 0 9 8 10 1 (.seq (.reg [
      .op (some 11) none (.iaddr 2 (.tmp 7) (.tmp 9)),
      .op (some 12) none (.load true 2 (.tmp 11)),
      .op (some 6) none (.alloc ty_Span [(.int .i64 0), (.int .i64 0)]),
      .op none none (.store none 2 (.tmp 6) (.tmp 12))])
    (.keep [2, 6, 7, 8, 9] [6] (.seq (.reg [
      .op (some 13) none (.load true 2 (.tmp 6)),
      .op (some 14) none (.load true 2 (.tmp 2)),
      .op (some 15) none (.call f_r27_Contains [(.tmp 13), (.tmp 14)])])
    (.keep [2, 7, 8, 9, 15] [] (.ite (.tmp 15) (.seq (.reg [
        .op (some 4) none (.mv (.const (.bool true)))])
      (.keep [4] [] (.ret)))
      (.skip)))))) 16)))
  (.keep [] [] (.seq (.reg [
    .op (some 4) none (.mv (.const (.bool false)))])
  (.keep [4] [] (.ret))))))
def rs_r30_within : List CRes := [.tmp 4]

def cc_r30_Unite : CC :=
  .seq (.reg [
    .op (some 4) none (.mv (.const (.slice none 0 0)))])
  (.keep [0, 1] [] (.seq (.reg [
    .op (some 5) none (.mv (.const (.slice none 0 0)))])
  (.keep [0, 1, 5] [] (.seq /- 2 -/ (.seq (.reg [
    .op (some 8) none (.nslice ty_Span 2),
    .op (some 9) none (.mv (.tmp 0)),
    .op (some 10) none (.append none ty_Span 2 16 (.tmp 8) (.tmp 9)),
    .op (some 11) none (.mv (.tmp 1)),
    .op (some 12) none (.append none ty_Span 2 16 (.tmp 10) (.tmp 11)),
    .op (some 13) none (.len (.tmp 12)),
    .op (some 14) none (.mv (.const (.int .i64 0)))])
  (.keep [5, 12, 13, 14] [8, 10, 12] (rangeCC 0 14 13 15 1 (.seq (.reg [
      .op (some 16) none (.iaddr 2 (.tmp 12) (.tmp 14)),
      .op (some 17) none (.load true 2 (.tmp 16)),
      .op (some 7) none (.alloc ty_Span [(.int .i64 0), (.int .i64 0)]),
      .op none none (.store none 2 (.tmp 7) (.tmp 17))])
    (.keep [5, 7, 12, 13, 14] [7, 8, 10, 12] (.reg [
      .op (some 18) none (.mv (.tmp 5)),
      .op (some 19) none (.load true 2 (.tmp 7)),
      .op (some 20) none (.call f_r27_Insert [(.tmp 18), (.tmp 19)]),
      .op (some 5) none (.mv (.tmp 20))]))) 21)))
  (.keep [5] [] (.seq (.reg [
    .op (some 22) none (.mv (.tmp 5)),
    .op (some 4) none (.mv (.tmp 22))])
  (.keep [4] [] (.ret))))))))
def rs_r30_Unite : List CRes := [.tmp 4]

def cc_r30_Intersect : CC :=
  .seq (.reg [
    .op (some 4) none (.mv (.const (.slice none 0 0)))])
  (.keep [0, 1] [] (.seq (.reg [
    .op (some 5) none (.mv (.const (.slice none 0 0)))])
  (.keep [0, 1, 5] [] (.seq /- 2 -/ (.seq (.reg [
    .op (some 8) none (.mv (.tmp 0)),
    .op (some 9) none (.len (.tmp 8)),
    .op (some 10) none (.mv (.const (.int .i64 0)))])
  (.keep [1, 5, 8, 9, 10] [] (rangeCC 0 10 9 11 1 (.seq (.reg [
      .op (some 12) none (.iaddr 2 (.tmp 8) (.tmp 10)),
      .op (some 13) none (.load true 2 (.tmp 12)),
      .op (some 7) none (.alloc ty_Span [(.int .i64 0), (.int .i64 0)]),
      .op none none (.store none 2 (.tmp 7) (.tmp 13))])
    (.keep [1, 5, 7, 8, 9, 10] [7] (.seq (.reg [
      .op (some 14) none (.mv (.tmp 1)),
      .op (some 15) none (.load true 2 (.tmp 7)),
      .op (some 16) none (.call f_r30_has [(.tmp 14), (.tmp 15)])])
    (.keep [1, 5, 7, 8, 9, 10, 16] [7] (.ite (.tmp 16) (.reg [
        .op (some 17) none (.mv (.tmp 5)),
        .op (some 18) none (.load true 2 (.tmp 7)),
        .op (some 19) none (.call f_r27_Insert [(.tmp 17), (.tmp 18)]),
        .op (some 5) none (.mv (.tmp 19))])
      (.skip)))))) 20)))
  (.keep [5] [] (.seq (.reg [
    .op (some 21) none (.mv (.tmp 5)),
    .op (some 4) none (.mv (.tmp 21))])
  (.keep [4] [] (.ret))))))))
def rs_r30_Intersect : List CRes := [.tmp 4]

def cc_r30_Subtract : CC :=
  .seq (.reg [
    .op (some 4) none (.mv (.const (.slice none 0 0)))])
  (.keep [0, 1] [] (.seq (.reg [
    .op (some 5) none (.mv (.const (.slice none 0 0)))])
  (.keep [0, 1, 5] [] (.seq /- 2 -/ (.seq (.reg [
    .op (some 8) none (.mv (.tmp 0)),
    .op (some 9) none (.len (.tmp 8)),
    .op (some 10) none (.mv (.const (.int .i64 0)))])
  (.keep [1, 5, 8, 9, 10] [] (rangeCC 0 10 9 11 1 (.seq (.reg [
      .op (some 12) none (.iaddr 2 (.tmp 8) (.tmp 10)),
      .op (some 13) none (.load true 2 (.tmp 12)),
      .op (some 7) none (.alloc ty_Span [(.int .i64 0), (.int .i64 0)]),
      .op none none (.store none 2 (.tmp 7) (.tmp 13))])
    (.keep [1, 5, 7, 8, 9, 10] [7] (.seq (.reg [
      .op (some 14) none (.mv (.tmp 1)),
      .op (some 15) none (.load true 2 (.tmp 7)),
      .op (some 16) none (.call f_r30_has [(.tmp 14), (.tmp 15)]),
      .op (some 17) none (.not (.tmp 16))])
    (.keep [1, 5, 7, 8, 9, 10, 17] [7] (.ite (.tmp 17) (.reg [
        .op (some 18) none (.mv (.tmp 5)),
        .op (some 19) none (.load true 2 (.tmp 7)),
        .op (some 20) none (.call f_r27_Insert [(.tmp 18), (.tmp 19)]),
        .op (some 5) none (.mv (.tmp 20))])
      (.skip)))))) 21)))
  (.keep [5] [] (.seq (.reg [
    .op (some 22) none (.mv (.tmp 5)),
    .op (some 4) none (.mv (.tmp 22))])
  (.keep [4] [] (.ret))))))))
def rs_r30_Subtract : List CRes := [.tmp 4]

def cc_r30_Inside : CC :=
  .seq (.reg [
    .op (some 4) none (.mv (.const (.slice none 0 0)))])
  (.keep [0, 1] [] (.seq (.reg [
    .op (some 5) none (.mv (.const (.slice none 0 0)))])
  (.keep [0, 1, 5] [] (.seq /- 2 -/ (.seq (.reg [
    .op (some 8) none (.mv (.tmp 0)),
    .op (some 9) none (.len (.tmp 8)),
    .op (some 10) none (.mv (.const (.int .i64 0)))])
  (.keep [1, 5, 8, 9, 10] [] (rangeCC 0 10 9 11 1 (.seq (.reg [
      .op (some 12) none (.iaddr 2 (.tmp 8) (.tmp 10)),
      .op (some 13) none (.load true 2 (.tmp 12)),
      .op (some 7) none (.alloc ty_Span [(.int .i64 0), (.int .i64 0)]),
      .op none none (.store none 2 (.tmp 7) (.tmp 13))])
    (.keep [1, 5, 7, 8, 9, 10] [7] (.seq (.reg [
      .op (some 14) none (.load true 2 (.tmp 7)),
      .op (some 15) none (.mv (.tmp 1)),
      .op (some 16) none (.call f_r30_within [(.tmp 14), (.tmp 15)])])
    (.keep [1, 5, 7, 8, 9, 10, 16] [7] (.ite (.tmp 16) (.reg [
        .op (some 17) none (.mv (.tmp 5)),
        .op (some 18) none (.load true 2 (.tmp 7)),
        .op (some 19) none (.call f_r27_Insert [(.tmp 17), (.tmp 18)]),
        .op (some 5) none (.mv (.tmp 19))])
      (.skip)))))) 20)))
  (.keep [5] [] (.seq (.reg [
    .op (some 21) none (.mv (.tmp 5)),
    .op (some 4) none (.mv (.tmp 21))])
  (.keep [4] [] (.ret))))))))
def rs_r30_Inside : List CRes := [.tmp 4]

def cc_r30_IsList : CC :=
  .seq (.reg [
    .op (some 2) none (.box ty_Corpus true (.tmp 0)),
    .op (some 4) none (.mv (.const (.bool false)))])
  (.keep [1, 2] [] (.seq /- 1 -/ (.seq (.reg [
    .op (some 9) none (.mv (.tmp 1)),
    .op (some 10) none (.len (.tmp 9)),
    .op (some 11) none (.mv (.const (.int .i64 0)))])
  (.keep [1, 2, 9, 10, 11] [] (rangeCC 0 11 10 12 1 (.seq (.reg [
      .op (some 13) none (.mv (.tmp 11)),
      .op (some 14) none (.iaddr 2 (.tmp 9) (.tmp 11)),
      .op (some 15) none (.load true 2 (.tmp 14)),
      .op (some 6) none (.alloc ty_Span [(.int .i64 0), (.int .i64 0)]),
      .op (some 5) none (.mv (.tmp 13)),
      .op none none (.store none 2 (.tmp 6) (.tmp 15))])
    (.keep [1, 2, 5, 6, 9, 10, 11] [6] (.seq (.reg [
      .op (some 17) none (.load true 7 (.tmp 2)),
      .op (some 18) none (.faddr 0 (.tmp 6)),
      .op (some 19) none (.load false 1 (.tmp 18)),
      .op (some 20) none (.call f_r24_TextOf [(.tmp 17), (.tmp 19)]),
      .op (some 16) none (.mv (.tmp 20)),
      .op (some 21) none (.ext (.tmp 16) 0),
      .op (some 22) none (.ext (.tmp 16) 1),
      .op (some 7) none (.alloc ty_Text [(.string ⟨#[]⟩), (.int .i64 0), (.int .i64 0), (.slice none 0 0)]),
      .op none none (.store none 4 (.tmp 7) (.tmp 21)),
      .op (some 8) none (.mv (.tmp 22))])
    (.keep [1, 2, 5, 6, 7, 8, 9, 10, 11] [6, 7] (.seq /- 5 -/ (.seq (.reg [
      .op (some 23) none (.mv (.tmp 8)),
      .op (some 24) none (.not (.tmp 23)),
      .op (some 25) none (.mv (.tmp 24)),
      .op (some 26) (some (25, false)) (.faddr 0 (.tmp 6)),
      .op (some 27) (some (25, false)) (.load false 1 (.tmp 26)),
      .op (some 28) (some (25, false)) (.faddr 1 (.tmp 6)),
      .op (some 29) (some (25, false)) (.load false 1 (.tmp 28)),
      .op (some 30) (some (25, false)) (.cmp .geq (.tmp 27) (.tmp 29)),
      .op (some 31) none (.pick (.tmp 25) (.const (.bool true)) (.tmp 30)),
      .op (some 32) none (.mv (.tmp 31)),
      .op (some 33) (some (32, false)) (.faddr 1 (.tmp 6)),
      .op (some 34) (some (32, false)) (.load false 1 (.tmp 33)),
      .op (some 35) (some (32, false)) (.faddr 2 (.tmp 7)),
      .op (some 36) (some (32, false)) (.load false 1 (.tmp 35)),
      .op (some 37) (some (32, false)) (.cmp .gtr (.tmp 34) (.tmp 36)),
      .op (some 38) none (.pick (.tmp 32) (.const (.bool true)) (.tmp 37))])
    (.keep [1, 2, 5, 6, 9, 10, 11, 38] [6] (.ite (.tmp 38) (.seq (.reg [
        .op (some 4) none (.mv (.const (.bool false)))])
      (.keep [4] [] (.ret)))
      (.skip))))
    (.keep [1, 2, 5, 6, 9, 10, 11] [6] (.seq (.regd [
      .op (some 39) none (.mv (.tmp 5)),
      .op (some 40) none (.cmp .gtr (.tmp 39) (.const (.int .i64 0))),
      .op (some 41) none (.mv (.tmp 40)),
      .op (some 42) (some (41, true)) (.mv (.tmp 1)),
      .op (some 43) (some (41, true)) (.mv (.tmp 5)),
      .op (some 44) (some (41, true)) (.arith .sub (.tmp 43) (.const (.int .i64 1))),
      .op (some 45) (some (41, true)) (.iaddr 2 (.tmp 42) (.tmp 44)),
      .op (some 46) (some (41, true)) (.faddr 0 (.tmp 45)),
      .op (some 47) (some (41, true)) (.load false 1 (.tmp 46)),
      .op (some 48) (some (41, true)) (.faddr 0 (.tmp 6)),
      .op (some 49) (some (41, true)) (.load false 1 (.tmp 48)),
      .op (some 50) (some (41, true)) (.cmp .gtr (.tmp 47) (.tmp 49)),
      .op (some 51) (some (41, true)) (.mv (.tmp 50)),
      .op (some 52) (some (51, false)) (.mv (.tmp 1)),
      .op (some 53) (some (51, false)) (.mv (.tmp 5)),
      .op (some 54) (some (51, false)) (.arith .sub (.tmp 53) (.const (.int .i64 1))),
      .op (some 55) (some (51, false)) (.iaddr 2 (.tmp 52) (.tmp 54)),
      .op (some 56) (some (51, false)) (.faddr 0 (.tmp 55)),
      .op (some 57) (some (51, false)) (.load false 1 (.tmp 56)),
      .op (some 58) (some (51, false)) (.faddr 0 (.tmp 6)),
      .op (some 59) (some (51, false)) (.load false 1 (.tmp 58)),
      .op (some 60) (some (51, false)) (.eql false false [.int] (.tmp 57) (.tmp 59)),
      .op (some 61) (some (51, false)) (.mv (.tmp 60)),
      .op (some 62) (some (61, true)) (.mv (.tmp 1)),
      .op (some 63) (some (61, true)) (.mv (.tmp 5)),
      .op (some 64) (some (61, true)) (.arith .sub (.tmp 63) (.const (.int .i64 1))),
      .op (some 65) (some (61, true)) (.iaddr 2 (.tmp 62) (.tmp 64)),
      .op (some 66) (some (61, true)) (.faddr 1 (.tmp 65)),
      .op (some 67) (some (61, true)) (.load false 1 (.tmp 66)),
      .op (some 68) (some (61, true)) (.faddr 1 (.tmp 6)),
      .op (some 69) (some (61, true)) (.load false 1 (.tmp 68))] [
      .op (some 70) (some (61, true)) (.cmp .geq (.tmp 67) (.tmp 69)),
      .op (some 71) (some (51, false)) (.pick (.tmp 61) (.tmp 70) (.const (.bool false))),
      .op (some 72) (some (41, true)) (.pick (.tmp 51) (.const (.bool true)) (.tmp 71)),
      .op (some 73) none (.pick (.tmp 41) (.tmp 72) (.const (.bool false)))])
    (.keep [1, 2, 9, 10, 11, 73] [] (.ite (.tmp 73) (.seq (.reg [
        .op (some 4) none (.mv (.const (.bool false)))])
      (.keep [4] [] (.ret)))
      (.skip)))))))))) 74)))
  (.keep [] [] (.seq (.reg [
    .op (some 4) none (.mv (.const (.bool true)))])
  (.keep [4] [] (.ret))))))
def rs_r30_IsList : List CRes := [.tmp 4]

def cc_r24_TextOf : CC :=
  .seq (.reg [
    .op (some 2) none (.box ty_Corpus true (.tmp 0)),
    .op (some 4) none (.alloc ty_Text [(.string ⟨#[]⟩), (.int .i64 0), (.int .i64 0), (.slice none 0 0)]),
    .op (some 5) none (.mv (.const (.bool false)))])
  (.keep [1, 2, 4] [4] (.seq /- 1 -/ (.seq (.reg [
    .op (some 8) none (.faddr 2 (.tmp 2)),
    .op (some 9) none (.load false 1 (.tmp 8)),
    .op (some 10) none (.len (.tmp 9)),
    .op (some 11) none (.mv (.const (.int .i64 0)))])
  (.keep [1, 4, 9, 10, 11] [4] (rangeCC 0 11 10 12 1 (.seq (.reg [
      .op (some 13) none (.iaddr 4 (.tmp 9) (.tmp 11)),
      .op (some 14) none (.load true 4 (.tmp 13)),
      .op (some 7) none (.alloc ty_Text [(.string ⟨#[]⟩), (.int .i64 0), (.int .i64 0), (.slice none 0 0)]),
      .op none none (.store none 4 (.tmp 7) (.tmp 14))])
    (.keep [1, 4, 7, 9, 10, 11] [4, 7] (.seq (.reg [
      .op (some 15) none (.faddr 1 (.tmp 7)),
      .op (some 16) none (.load false 1 (.tmp 15)),
      .op (some 17) none (.mv (.tmp 1)),
      .op (some 18) none (.cmp .leq (.tmp 16) (.tmp 17)),
      .op (some 19) none (.mv (.tmp 18)),
      .op (some 20) (some (19, true)) (.mv (.tmp 1)),
      .op (some 21) (some (19, true)) (.faddr 2 (.tmp 7)),
      .op (some 22) (some (19, true)) (.load false 1 (.tmp 21)),
      .op (some 23) (some (19, true)) (.cmp .lss (.tmp 20) (.tmp 22)),
      .op (some 24) none (.pick (.tmp 19) (.tmp 23) (.const (.bool false)))])
    (.keep [1, 4, 7, 9, 10, 11, 24] [4, 7] (.ite (.tmp 24) (.seq (.reg [
        .op (some 25) none (.load true 4 (.tmp 7)),
        .op none none (.store none 4 (.tmp 4) (.tmp 25)),
        .op (some 5) none (.mv (.const (.bool true)))])
      (.keep [4, 5] [4] (.ret)))
      (.skip)))))) 26)))
  (.keep [4] [4] (.seq (.reg [
    .op (some 27) none (.build [(.string ⟨#[]⟩), (.int .i64 0), (.int .i64 0), (.slice none 0 0)] []),
    .op none none (.store none 4 (.tmp 4) (.tmp 27)),
    .op (some 5) none (.mv (.const (.bool false)))])
  (.keep [4, 5] [4] (.ret))))))
def rs_r24_TextOf : List CRes := [.cell 4 true 4, .tmp 5]

end Go.Gv
