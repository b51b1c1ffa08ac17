/- A part of the framework and of the walks: C5 W50. -/
import Derived.Test.YtblcfloekekefaaGreatGx12
import Derived.Test.YtblcfloekekefaaGreatGx19

namespace Go.Gv
open Go.Proofs
/-- (*corpora/corporaref23.parser).now [P_corporaref23_parser] -> [corporaref23_token] -/
def cc_r23_parser_now : CC :=
  .seq (.reg [
    .op (some 2) none (.alloc ty_corporaref23_token [(.int .u8 0), (.string ⟨#[]⟩), (.int .i64 0)])])
  (.keep [0, 2] [0, 2] (.seq (.regd [
    .op (some 3) none (.mv (.tmp 0)),
    .op (some 4) none (.nilck (.tmp 3)),
    .op (some 5) none (.faddr 0 (.tmp 4)),
    .op (some 6) none (.load false 1 (.tmp 5)),
    .op (some 7) none (.mv (.tmp 0)),
    .op (some 8) none (.nilck (.tmp 7)),
    .op (some 9) none (.faddr 1 (.tmp 8)),
    .op (some 10) none (.load false 1 (.tmp 9))] [
    .op (some 11) none (.iaddr 3 (.tmp 6) (.tmp 10)),
    .op (some 12) none (.load true 3 (.tmp 11)),
    .op none none (.store (some 2) 3 (.tmp 2) (.tmp 12))])
  (.keep [2] [0, 2] (.ret))))
def rs_r23_parser_now : List CRes := [.cell 2 true 3]
def im_r23_parser_now : List Nat := [2002002]
theorem ok_r23_parser_now : FnOk Tryz.prog f_r23_parser_now im_r23_parser_now cc_r23_parser_now rs_r23_parser_now 13 := fnOk1 mixed (by kernel_rfl)
/-- (*corpora/corporaref23.parser).is [P_corporaref23_parser, uint8, string] -> [bool] -/
def cc_r23_parser_is : CC :=
  .seq (.reg [
    .op (some 6) none (.mv (.const (.bool false)))])
  (.keep [0, 1, 2] [0] (.seq (.reg [
    .op (some 7) none (.mv (.tmp 0)),
    .op (some 8) none (.nilck (.tmp 7)),
    .op (some 9) none (.faddr 3 (.tmp 8)),
    .op (some 10) none (.load false 1 (.tmp 9)),
    .op (some 11) none (.eql false false [.int] (.tmp 10) (.const (.int .i64 0))),
    .op (some 12) none (.mv (.tmp 11)),
    .op (some 13) (some (12, true)) (.mv (.tmp 0)),
    .op (some 14) (some (12, true)) (.call f_r23_parser_now [(.tmp 13)]),
    .op (some 15) (some (12, true)) (.fld false 1 0 (.tmp 14)),
    .op (some 16) (some (12, true)) (.mv (.tmp 1)),
    .op (some 17) (some (12, true)) (.eql false false [.int] (.tmp 15) (.tmp 16)),
    .op (some 18) none (.pick (.tmp 12) (.tmp 17) (.const (.bool false))),
    .op (some 19) none (.mv (.tmp 18)),
    .op (some 20) (some (19, true)) (.mv (.tmp 0)),
    .op (some 21) (some (19, true)) (.call f_r23_parser_now [(.tmp 20)]),
    .op (some 22) (some (19, true)) (.fld false 1 1 (.tmp 21)),
    .op (some 23) (some (19, true)) (.mv (.tmp 2)),
    .op (some 24) (some (19, true)) (.eql false false [.str] (.tmp 22) (.tmp 23)),
    .op (some 25) none (.pick (.tmp 19) (.tmp 24) (.const (.bool false))),
    .op (some 6) none (.mv (.tmp 25))])
  (.keep [6] [0] (.ret))))
def rs_r23_parser_is : List CRes := [.tmp 6]
def im_r23_parser_is : List Nat := []
theorem ok_r23_parser_is : FnOk Tryz.prog f_r23_parser_is im_r23_parser_is cc_r23_parser_is rs_r23_parser_is 26 := fnOk1 mixed (by kernel_rfl)
/-- (*corpora/corporaref23.parser).eat [P_corporaref23_parser, string] -> [bool] -/
def cc_r23_parser_eat : CC :=
  .seq (.reg [
    .op (some 4) none (.mv (.const (.bool false)))])
  (.keep [0, 1] [0] (.seq /- 1 -/ (.seq (.reg [
    .op (some 5) none (.mv (.tmp 0)),
    .op (some 6) none (.mv (.tmp 1)),
    .op (some 7) none (.call f_r23_parser_is [(.tmp 5), (.const (.int .u8 111)), (.tmp 6)])])
  (.keep [0, 7] [0] (.ite (.tmp 7) (.seq (.reg [
      .op (some 8) none (.mv (.tmp 0)),
      .op (some 9) none (.nilck (.tmp 8)),
      .op (some 10) none (.faddr 1 (.tmp 9)),
      .op (some 11) none (.load false 1 (.tmp 10)),
      .op (some 12) none (.arith .add (.tmp 11) (.const (.int .i64 1))),
      .op (some 13) none (.nilck (.tmp 8)),
      .op (some 14) none (.faddr 1 (.tmp 13)),
      .op none none (.store none 1 (.tmp 14) (.tmp 12))])
    (.keep [] [0] (.seq (.reg [
      .op (some 4) none (.mv (.const (.bool true)))])
    (.keep [4] [0] (.ret)))))
    (.skip))))
  (.keep [] [0] (.seq (.reg [
    .op (some 4) none (.mv (.const (.bool false)))])
  (.keep [4] [0] (.ret))))))
def rs_r23_parser_eat : List CRes := [.tmp 4]
def im_r23_parser_eat : List Nat := []
theorem ok_r23_parser_eat : FnOk Tryz.prog f_r23_parser_eat im_r23_parser_eat cc_r23_parser_eat rs_r23_parser_eat 15 := fnOk1 mixed (by kernel_rfl)
/-- (*corpora/corporaref23.parser).want [P_corporaref23_parser, uint8, string] -> [string] -/
def cc_r23_parser_want : CC :=
  .seq (.reg [
    .op (some 6) none (.mv (.const (.string ⟨#[]⟩)))])
  (.keep [0, 1, 2] [0] (.seq (.reg [
    .op (some 8) none (.mv (.tmp 0)),
    .op (some 9) none (.call f_r23_parser_now [(.tmp 8)]),
    .op (some 7) none (.alloc ty_corporaref23_token [(.int .u8 0), (.string ⟨#[]⟩), (.int .i64 0)]),
    .op none none (.store none 3 (.tmp 7) (.tmp 9))])
  (.keep [0, 1, 2, 7] [0, 7] (.seq /- 2 -/ (.seq (.reg [
    .op (some 10) none (.mv (.tmp 0)),
    .op (some 11) none (.nilck (.tmp 10)),
    .op (some 12) none (.faddr 3 (.tmp 11)),
    .op (some 13) none (.load false 1 (.tmp 12)),
    .op (some 14) none (.eql true false [.int] (.tmp 13) (.const (.int .i64 0)))])
  (.keep [0, 1, 2, 7, 14] [0, 7] (.ite (.tmp 14) (.seq (.reg [
      .op (some 6) none (.mv (.const (.string ⟨#[]⟩)))])
    (.keep [6] [0] (.ret)))
    (.skip))))
  (.keep [0, 1, 2, 7] [0, 7] (.seq /- 5 -/ (.seq (.reg [
    .op (some 15) none (.faddr 0 (.tmp 7)),
    .op (some 16) none (.load false 1 (.tmp 15)),
    .op (some 17) none (.mv (.tmp 1)),
    .op (some 18) none (.eql true false [.int] (.tmp 16) (.tmp 17)),
    .op (some 19) none (.mv (.tmp 18)),
    .op (some 20) (some (19, false)) (.mv (.tmp 1)),
    .op (some 21) (some (19, false)) (.eql false false [.int] (.tmp 20) (.const (.int .u8 111))),
    .op (some 22) (some (19, false)) (.mv (.tmp 21)),
    .op (some 23) (some (22, true)) (.faddr 1 (.tmp 7)),
    .op (some 24) (some (22, true)) (.load false 1 (.tmp 23)),
    .op (some 25) (some (22, true)) (.mv (.tmp 2)),
    .op (some 26) (some (22, true)) (.eql true false [.str] (.tmp 24) (.tmp 25)),
    .op (some 27) (some (19, false)) (.pick (.tmp 22) (.tmp 26) (.const (.bool false))),
    .op (some 28) none (.pick (.tmp 19) (.const (.bool true)) (.tmp 27))])
  (.keep [0, 7, 28] [0, 7] (.ite (.tmp 28) (.seq (.reg [
      .op (some 29) none (.mv (.tmp 0)),
      .op (some 30) none (.call f_r23_parser_wrong [(.tmp 29)])])
    (.keep [] [0] (.seq (.reg [
      .op (some 6) none (.mv (.const (.string ⟨#[]⟩)))])
    (.keep [6] [0] (.ret)))))
    (.skip))))
  (.keep [0, 7] [0, 7] (.seq (.reg [
    .op (some 31) none (.mv (.tmp 0)),
    .op (some 32) none (.nilck (.tmp 31)),
    .op (some 33) none (.faddr 1 (.tmp 32)),
    .op (some 34) none (.load false 1 (.tmp 33)),
    .op (some 35) none (.arith .add (.tmp 34) (.const (.int .i64 1))),
    .op (some 36) none (.nilck (.tmp 31)),
    .op (some 37) none (.faddr 1 (.tmp 36)),
    .op none none (.store none 1 (.tmp 37) (.tmp 35))])
  (.keep [7] [0, 7] (.seq (.reg [
    .op (some 38) none (.faddr 1 (.tmp 7)),
    .op (some 39) none (.load false 1 (.tmp 38)),
    .op (some 6) none (.mv (.tmp 39))])
  (.keep [6] [0] (.ret))))))))))))
def rs_r23_parser_want : List CRes := [.tmp 6]
def im_r23_parser_want : List Nat := []
theorem ok_r23_parser_want : FnOk Tryz.prog f_r23_parser_want im_r23_parser_want cc_r23_parser_want rs_r23_parser_want 40 := fnOk1 mixed (by kernel_rfl)
-- r23_parser_number while id=0: live [0:p, 1:limit, 2:at, 7:s, 8:n, 9:i] changed [8, 9] res [0]
/-- (*corpora/corporaref23.parser).number [P_corporaref23_parser, int, int] -> [int] -/
def cc_r23_parser_number : CC :=
  .seq (.reg [
    .op (some 6) none (.mv (.const (.int .i64 0)))])
  (.keep [0, 1, 2] [0] (.seq (.reg [
    .op (some 10) none (.mv (.tmp 0)),
    .op (some 11) none (.call f_r23_parser_want [(.tmp 10), (.const (.int .u8 100)), (.const (.string ⟨#[]⟩))]),
    .op (some 7) none (.mv (.tmp 11))])
  (.keep [0, 1, 2, 7] [0] (.seq (.reg [
    .op (some 8) none (.mv (.const (.int .i64 0)))])
  (.keep [0, 1, 2, 7, 8] [0] (.seq /- 3 -/ (.seq (.reg [
    .op (some 9) none (.mv (.const (.int .i64 0)))])
  (.keep [0, 1, 2, 7, 8, 9] [0] (.block 0 (.loop 1 (.seq /- 5 -/ (.seq (.reg [
        .op (some 12) none (.mv (.tmp 9)),
        .op (some 13) none (.mv (.tmp 7)),
        .op (some 14) none (.slen (.tmp 13)),
        .op (some 15) none (.cmp .lss (.tmp 12) (.tmp 14))])
      (.keep [0, 1, 2, 7, 8, 9, 15] [0] (.ite (.tmp 15) (.skip)
        (.exit 0))))
      (.keep [0, 1, 2, 7, 8, 9] [0] (.seq /- 7 -/ (.block 1 (.reg [
          .op (some 18) none (.mv (.tmp 8)),
          .op (some 19) none (.arith .mul (.const (.int .i64 10)) (.tmp 18)),
          .op (some 20) none (.mv (.tmp 7)),
          .op (some 21) none (.mv (.tmp 9)),
          .op (some 22) none (.sidx (.tmp 20) (.tmp 21)),
          .op (some 23) none (.arith .sub (.tmp 22) (.const (.int .u8 48))),
          .op (some 24) none (.conv .i64 (.tmp 23)),
          .op (some 25) none (.arith .add (.tmp 19) (.tmp 24)),
          .op (some 26) none (.mm false [(.tmp 25), (.const (.int .i64 1000000))]),
          .op (some 8) none (.mv (.tmp 26))]))
      (.keep [0, 1, 2, 7, 8, 9] [0] (.reg [
        .op (some 16) none (.mv (.tmp 9)),
        .op (some 17) none (.arith .add (.tmp 16) (.const (.int .i64 1))),
        .op (some 9) none (.mv (.tmp 17))])))))))))
  (.keep [0, 1, 2, 8] [0] (.seq /- 8 -/ (.seq (.reg [
    .op (some 27) none (.mv (.tmp 8)),
    .op (some 28) none (.mv (.tmp 1)),
    .op (some 29) none (.cmp .gtr (.tmp 27) (.tmp 28))])
  (.keep [0, 2, 8, 29] [0] (.ite (.tmp 29) (.reg [
      .op (some 30) none (.mv (.tmp 0)),
      .op (some 31) none (.mv (.tmp 2)),
      .op (some 32) none (.call f_r23_parser_error [(.tmp 30), (.const (.int .i64 8)), (.tmp 31)])])
    (.skip))))
  (.keep [8] [0] (.seq (.reg [
    .op (some 33) none (.mv (.tmp 8)),
    .op (some 6) none (.mv (.tmp 33))])
  (.keep [6] [0] (.ret))))))))))))
def rs_r23_parser_number : List CRes := [.tmp 6]
def im_r23_parser_number : List Nat := []
theorem ok_r23_parser_number : FnOk Tryz.prog f_r23_parser_number im_r23_parser_number cc_r23_parser_number rs_r23_parser_number 34 := fnOk1 mixed (by kernel_rfl)
/-- (*corpora/corporaref23.parser).fold [P_corporaref23_parser] -> [bool] -/
def cc_r23_parser_fold : CC :=
  .seq (.reg [
    .op (some 2) none (.mv (.const (.bool false)))])
  (.keep [0] [0] (.seq (.reg [
    .op (some 3) none (.mv (.tmp 0)),
    .op (some 4) none (.call f_r23_parser_eat [(.tmp 3), (.const (.string ⟨#[37, 99]⟩))]),
    .op (some 2) none (.mv (.tmp 4))])
  (.keep [2] [0] (.ret))))
def rs_r23_parser_fold : List CRes := [.tmp 2]
def im_r23_parser_fold : List Nat := []
theorem ok_r23_parser_fold : FnOk Tryz.prog f_r23_parser_fold im_r23_parser_fold cc_r23_parser_fold rs_r23_parser_fold 5 := fnOk1 mixed (by kernel_rfl)
-- r23_parser_alt while id=0: live [0:p, 2:, 3:l] changed [3] res [0, 2, 6, 13]
/-- (*corpora/corporaref23.parser).alt [P_corporaref23_parser] -> [Pattern] -/
def cc_r23_parser_alt : CC :=
  .seq (.reg [
    .op (some 2) none (.alloc ty_Pattern [(.int .i64 0), (.int .i64 0), (.string ⟨#[]⟩), (.string ⟨#[]⟩), (.string ⟨#[]⟩), (.string ⟨#[]⟩), (.bool false), (.slice none 0 0), (.string ⟨#[]⟩), (.string ⟨#[]⟩), (.int .i64 0), (.int .i64 0), (.slice none 0 0)])])
  (.keep [0, 2] [0, 2, 6, 13] (.seq (.reg [
    .op (some 4) none (.mv (.tmp 0)),
    .op (some 5) none (.call f_r23_parser_seq [(.tmp 4)]),
    .op (some 6) none (.mslice ty_Pattern 13 [(.tmp 5)]),
    .op (some 3) none (.mv (.tmp 6))])
  (.keep [0, 2, 3] [0, 2, 6, 13] (.seq /- 2 -/ (.block 0 (.loop 1 (.seq /- 3 -/ (.seq (.reg [
        .op (some 7) none (.mv (.tmp 0)),
        .op (some 8) none (.call f_r23_parser_eat [(.tmp 7), (.const (.string ⟨#[124]⟩))])])
      (.keep [0, 2, 3, 8] [0, 2, 6, 13] (.ite (.tmp 8) (.skip)
        (.exit 0))))
      (.keep [0, 2, 3] [0, 2, 6, 13] (.block 1 (.reg [
          .op (some 9) none (.mv (.tmp 3)),
          .op (some 10) none (.mv (.tmp 0)),
          .op (some 11) none (.call f_r23_parser_seq [(.tmp 10)]),
          .op (some 12) none (.bslice ty_Pattern 13 [(.tmp 11)]),
          .op (some 13) none (.append (some 6) ty_Pattern 13 184 (.tmp 9) (.tmp 12)),
          .op (some 3) none (.mv (.tmp 13))]))))))
  (.keep [2, 3] [0, 2, 6, 13] (.seq /- 5 -/ (.seq (.reg [
    .op (some 14) none (.mv (.tmp 3)),
    .op (some 15) none (.len (.tmp 14)),
    .op (some 16) none (.eql false false [.int] (.tmp 15) (.const (.int .i64 1)))])
  (.keep [2, 3, 16] [0, 2, 6, 13] (.ite (.tmp 16) (.seq (.reg [
      .op (some 17) none (.mv (.tmp 3)),
      .op (some 18) none (.iaddr 13 (.tmp 17) (.const (.int .i64 0))),
      .op (some 19) none (.load true 13 (.tmp 18)),
      .op none none (.store none 13 (.tmp 2) (.tmp 19))])
    (.keep [2] [0, 2, 6, 13] (.ret)))
    (.skip))))
  (.keep [2, 3] [0, 2, 6, 13] (.seq (.reg [
    .op (some 20) none (.mv (.tmp 3)),
    .op (some 21) none (.build [(.int .i64 0), (.int .i64 0), (.string ⟨#[]⟩), (.string ⟨#[]⟩), (.string ⟨#[]⟩), (.string ⟨#[]⟩), (.bool false), (.slice none 0 0), (.string ⟨#[]⟩), (.string ⟨#[]⟩), (.int .i64 0), (.int .i64 0), (.slice none 0 0)] [(0, 1, (.const (.int .i64 5))), (12, 1, (.tmp 20))]),
    .op none none (.store none 13 (.tmp 2) (.tmp 21))])
  (.keep [2] [0, 2, 6, 13] (.ret))))))))))
def rs_r23_parser_alt : List CRes := [.cell 2 true 13]
def im_r23_parser_alt : List Nat := [100006, 1013006]
theorem ok_r23_parser_alt : FnOk Tryz.prog f_r23_parser_alt im_r23_parser_alt cc_r23_parser_alt rs_r23_parser_alt 22 := fnOk1 mixed (by kernel_rfl)
/-- (*corpora/corporaref23.parser).begins [P_corporaref23_parser] -> [bool] -/
def cc_r23_parser_begins : CC :=
  .seq (.reg [
    .op (some 2) none (.mv (.const (.bool false)))])
  (.keep [0] [0] (.seq (.reg [
    .op (some 5) none (.mv (.tmp 0)),
    .op (some 6) none (.call f_r23_parser_now [(.tmp 5)]),
    .op (some 3) none (.alloc ty_corporaref23_token [(.int .u8 0), (.string ⟨#[]⟩), (.int .i64 0)]),
    .op none none (.store none 3 (.tmp 3) (.tmp 6))])
  (.keep [0, 3] [0, 3] (.seq /- 2 -/ (.seq (.reg [
    .op (some 7) none (.mv (.tmp 0)),
    .op (some 8) none (.nilck (.tmp 7)),
    .op (some 9) none (.faddr 3 (.tmp 8)),
    .op (some 10) none (.load false 1 (.tmp 9)),
    .op (some 11) none (.eql true false [.int] (.tmp 10) (.const (.int .i64 0)))])
  (.keep [0, 3, 11] [0, 3] (.ite (.tmp 11) (.seq (.reg [
      .op (some 2) none (.mv (.const (.bool false)))])
    (.keep [2] [0] (.ret)))
    (.skip))))
  (.keep [0, 3] [0, 3] (.seq /- 5 -/ (.seq (.reg [
    .op (some 12) none (.faddr 0 (.tmp 3)),
    .op (some 13) none (.load false 1 (.tmp 12)),
    .op (some 14) none (.eql false false [.int] (.tmp 13) (.const (.int .u8 110)))])
  (.keep [0, 3, 14] [0, 3] (.ite (.tmp 14) (.seq (.reg [
      .op (some 15) none (.mv (.tmp 0)),
      .op (some 16) none (.call f_r23_parser_next [(.tmp 15)]),
      .op (some 4) none (.alloc ty_corporaref23_token [(.int .u8 0), (.string ⟨#[]⟩), (.int .i64 0)]),
      .op none none (.store none 3 (.tmp 4) (.tmp 16))])
    (.keep [0, 4] [0, 4] (.seq /- 8 -/ (.seq (.reg [
      .op (some 17) none (.faddr 0 (.tmp 4)),
      .op (some 18) none (.load false 1 (.tmp 17)),
      .op (some 19) none (.eql false false [.int] (.tmp 18) (.const (.int .u8 111))),
      .op (some 20) none (.mv (.tmp 19)),
      .op (some 21) (some (20, true)) (.faddr 1 (.tmp 4)),
      .op (some 22) (some (20, true)) (.load false 1 (.tmp 21)),
      .op (some 23) (some (20, true)) (.eql false false [.str] (.tmp 22) (.const (.string ⟨#[58]⟩))),
      .op (some 24) none (.pick (.tmp 20) (.tmp 23) (.const (.bool false)))])
    (.keep [0, 24] [0] (.ite (.tmp 24) (.seq (.reg [
        .op (some 2) none (.mv (.const (.bool true)))])
      (.keep [2] [0] (.ret)))
      (.skip))))
    (.keep [0] [0] (.seq (.reg [
      .op (some 25) none (.mv (.tmp 0)),
      .op (some 26) none (.nilck (.tmp 25)),
      .op (some 27) none (.faddr 2 (.tmp 26)),
      .op (some 28) none (.load false 1 (.tmp 27)),
      .op (some 29) none (.cmp .gtr (.tmp 28) (.const (.int .i64 0))),
      .op (some 30) none (.mv (.tmp 29)),
      .op (some 31) (some (30, false)) (.mv (.tmp 0)),
      .op (some 32) (some (30, false)) (.call f_r23_parser_tail [(.tmp 31)]),
      .op (some 33) (some (30, false)) (.not (.tmp 32)),
      .op (some 34) none (.pick (.tmp 30) (.const (.bool true)) (.tmp 33)),
      .op (some 2) none (.mv (.tmp 34))])
    (.keep [2] [0] (.ret)))))))
    (.skip))))
  (.keep [3] [0, 3] (.seq (.reg [
    .op (some 35) none (.faddr 0 (.tmp 3)),
    .op (some 36) none (.load false 1 (.tmp 35)),
    .op (some 37) none (.eql false false [.int] (.tmp 36) (.const (.int .u8 115))),
    .op (some 38) none (.mv (.tmp 37)),
    .op (some 39) (some (38, false)) (.faddr 0 (.tmp 3)),
    .op (some 40) (some (38, false)) (.load false 1 (.tmp 39)),
    .op (some 41) (some (38, false)) (.eql false false [.int] (.tmp 40) (.const (.int .u8 111))),
    .op (some 42) (some (38, false)) (.mv (.tmp 41)),
    .op (some 43) (some (42, true)) (.faddr 1 (.tmp 3)),
    .op (some 44) (some (42, true)) (.load false 1 (.tmp 43)),
    .op (some 45) (some (42, true)) (.eql false false [.str] (.tmp 44) (.const (.string ⟨#[91]⟩))),
    .op (some 46) (some (42, true)) (.mv (.tmp 45)),
    .op (some 47) (some (46, false)) (.faddr 1 (.tmp 3)),
    .op (some 48) (some (46, false)) (.load false 1 (.tmp 47)),
    .op (some 49) (some (46, false)) (.eql false false [.str] (.tmp 48) (.const (.string ⟨#[60]⟩))),
    .op (some 50) (some (42, true)) (.pick (.tmp 46) (.const (.bool true)) (.tmp 49)),
    .op (some 51) (some (42, true)) (.mv (.tmp 50)),
    .op (some 52) (some (51, false)) (.faddr 1 (.tmp 3)),
    .op (some 53) (some (51, false)) (.load false 1 (.tmp 52)),
    .op (some 54) (some (51, false)) (.eql false false [.str] (.tmp 53) (.const (.string ⟨#[60, 47]⟩))),
    .op (some 55) (some (42, true)) (.pick (.tmp 51) (.const (.bool true)) (.tmp 54)),
    .op (some 56) (some (42, true)) (.mv (.tmp 55)),
    .op (some 57) (some (56, false)) (.faddr 1 (.tmp 3)),
    .op (some 58) (some (56, false)) (.load false 1 (.tmp 57)),
    .op (some 59) (some (56, false)) (.eql false false [.str] (.tmp 58) (.const (.string ⟨#[40]⟩))),
    .op (some 60) (some (42, true)) (.pick (.tmp 56) (.const (.bool true)) (.tmp 59)),
    .op (some 61) (some (38, false)) (.pick (.tmp 42) (.tmp 60) (.const (.bool false))),
    .op (some 62) none (.pick (.tmp 38) (.const (.bool true)) (.tmp 61)),
    .op (some 2) none (.mv (.tmp 62))])
  (.keep [2] [0] (.ret))))))))))
def rs_r23_parser_begins : List CRes := [.tmp 2]
def im_r23_parser_begins : List Nat := []
theorem ok_r23_parser_begins : FnOk Tryz.prog f_r23_parser_begins im_r23_parser_begins cc_r23_parser_begins rs_r23_parser_begins 63 := fnOk1 mixed (by kernel_rfl)
-- r23_parser_seq while id=0: live [0:p, 2:, 3:l] changed [3] res [0, 2, 6, 13]
/-- (*corpora/corporaref23.parser).seq [P_corporaref23_parser] -> [Pattern] -/
def cc_r23_parser_seq : CC :=
  .seq (.reg [
    .op (some 2) none (.alloc ty_Pattern [(.int .i64 0), (.int .i64 0), (.string ⟨#[]⟩), (.string ⟨#[]⟩), (.string ⟨#[]⟩), (.string ⟨#[]⟩), (.bool false), (.slice none 0 0), (.string ⟨#[]⟩), (.string ⟨#[]⟩), (.int .i64 0), (.int .i64 0), (.slice none 0 0)])])
  (.keep [0, 2] [0, 2, 6, 13] (.seq (.reg [
    .op (some 4) none (.mv (.tmp 0)),
    .op (some 5) none (.call f_r23_parser_rep [(.tmp 4)]),
    .op (some 6) none (.mslice ty_Pattern 13 [(.tmp 5)]),
    .op (some 3) none (.mv (.tmp 6))])
  (.keep [0, 2, 3] [0, 2, 6, 13] (.seq /- 2 -/ (.block 0 (.loop 1 (.seq /- 3 -/ (.seq (.reg [
        .op (some 7) none (.mv (.tmp 0)),
        .op (some 8) none (.call f_r23_parser_begins [(.tmp 7)])])
      (.keep [0, 2, 3, 8] [0, 2, 6, 13] (.ite (.tmp 8) (.skip)
        (.exit 0))))
      (.keep [0, 2, 3] [0, 2, 6, 13] (.block 1 (.reg [
          .op (some 9) none (.mv (.tmp 3)),
          .op (some 10) none (.mv (.tmp 0)),
          .op (some 11) none (.call f_r23_parser_rep [(.tmp 10)]),
          .op (some 12) none (.bslice ty_Pattern 13 [(.tmp 11)]),
          .op (some 13) none (.append (some 6) ty_Pattern 13 184 (.tmp 9) (.tmp 12)),
          .op (some 3) none (.mv (.tmp 13))]))))))
  (.keep [2, 3] [0, 2, 6, 13] (.seq /- 5 -/ (.seq (.reg [
    .op (some 14) none (.mv (.tmp 3)),
    .op (some 15) none (.len (.tmp 14)),
    .op (some 16) none (.eql false false [.int] (.tmp 15) (.const (.int .i64 1)))])
  (.keep [2, 3, 16] [0, 2, 6, 13] (.ite (.tmp 16) (.seq (.reg [
      .op (some 17) none (.mv (.tmp 3)),
      .op (some 18) none (.iaddr 13 (.tmp 17) (.const (.int .i64 0))),
      .op (some 19) none (.load true 13 (.tmp 18)),
      .op none none (.store none 13 (.tmp 2) (.tmp 19))])
    (.keep [2] [0, 2, 6, 13] (.ret)))
    (.skip))))
  (.keep [2, 3] [0, 2, 6, 13] (.seq (.reg [
    .op (some 20) none (.mv (.tmp 3)),
    .op (some 21) none (.build [(.int .i64 0), (.int .i64 0), (.string ⟨#[]⟩), (.string ⟨#[]⟩), (.string ⟨#[]⟩), (.string ⟨#[]⟩), (.bool false), (.slice none 0 0), (.string ⟨#[]⟩), (.string ⟨#[]⟩), (.int .i64 0), (.int .i64 0), (.slice none 0 0)] [(0, 1, (.const (.int .i64 4))), (12, 1, (.tmp 20))]),
    .op none none (.store none 13 (.tmp 2) (.tmp 21))])
  (.keep [2] [0, 2, 6, 13] (.ret))))))))))
def rs_r23_parser_seq : List CRes := [.cell 2 true 13]
def im_r23_parser_seq : List Nat := [100006, 1013006]
theorem ok_r23_parser_seq : FnOk Tryz.prog f_r23_parser_seq im_r23_parser_seq cc_r23_parser_seq rs_r23_parser_seq 22 := fnOk1 mixed (by kernel_rfl)
-- r23_parser_rep while id=0: live [0:p, 2:, 3:x] changed [] res [0, 2, 3]
/-- (*corpora/corporaref23.parser).rep [P_corporaref23_parser] -> [Pattern] -/
def cc_r23_parser_rep : CC :=
  .seq (.reg [
    .op (some 2) none (.alloc ty_Pattern [(.int .i64 0), (.int .i64 0), (.string ⟨#[]⟩), (.string ⟨#[]⟩), (.string ⟨#[]⟩), (.string ⟨#[]⟩), (.bool false), (.slice none 0 0), (.string ⟨#[]⟩), (.string ⟨#[]⟩), (.int .i64 0), (.int .i64 0), (.slice none 0 0)])])
  (.keep [0, 2] [0, 2] (.seq (.reg [
    .op (some 7) none (.mv (.tmp 0)),
    .op (some 8) none (.call f_r23_parser_item [(.tmp 7)]),
    .op (some 3) none (.alloc ty_Pattern [(.int .i64 0), (.int .i64 0), (.string ⟨#[]⟩), (.string ⟨#[]⟩), (.string ⟨#[]⟩), (.string ⟨#[]⟩), (.bool false), (.slice none 0 0), (.string ⟨#[]⟩), (.string ⟨#[]⟩), (.int .i64 0), (.int .i64 0), (.slice none 0 0)]),
    .op none none (.store none 13 (.tmp 3) (.tmp 8))])
  (.keep [0, 2, 3] [0, 2, 3] (.seq /- 2 -/ (.block 0 (.loop 1 (.seq /- 3 -/ (.seq (.reg [
        .op (some 9) none (.mv (.tmp 0)),
        .op (some 10) none (.nilck (.tmp 9)),
        .op (some 11) none (.faddr 3 (.tmp 10)),
        .op (some 12) none (.load false 1 (.tmp 11)),
        .op (some 13) none (.eql false false [.int] (.tmp 12) (.const (.int .i64 0)))])
      (.keep [0, 2, 3, 13] [0, 2, 3] (.ite (.tmp 13) (.skip)
        (.exit 0))))
      (.keep [0, 2, 3] [0, 2, 3] (.block 1 (.seq (.reg [
          .op (some 14) none (.mv (.tmp 0)),
          .op (some 15) none (.call f_r23_parser_now [(.tmp 14)]),
          .op (some 16) none (.fld false 1 2 (.tmp 15)),
          .op (some 4) none (.mv (.tmp 16))])
        (.keep [0, 2, 3, 4] [0, 2, 3] (.seq (.reg [
          .op (some 5) none (.mv (.const (.int .i64 0))),
          .op (some 6) none (.mv (.const (.int .i64 (-1))))])
        (.keep [0, 2, 3, 4, 5, 6] [0, 2, 3] (.seq /- 7 -/ (.block 2 (.seq (.reg [
            .op (some 19) none (.mv (.tmp 0)),
            .op (some 20) none (.call f_r23_parser_eat [(.tmp 19), (.const (.string ⟨#[63]⟩))]),
            .op (some 18) none (.mv (.tmp 20))])
          (.keep [0, 2, 3, 4, 5, 6, 18] [0, 2, 3] (.ite (.tmp 18) (.reg [
              .op (some 6) none (.mv (.const (.int .i64 1)))])
            (.seq (.reg [
              .op (some 22) none (.mv (.tmp 0)),
              .op (some 23) none (.call f_r23_parser_eat [(.tmp 22), (.const (.string ⟨#[42]⟩))]),
              .op (some 21) none (.mv (.tmp 23))])
            (.keep [0, 2, 3, 4, 5, 6, 21] [0, 2, 3] (.ite (.tmp 21) (.skip)
              (.seq (.reg [
                .op (some 25) none (.mv (.tmp 0)),
                .op (some 26) none (.call f_r23_parser_eat [(.tmp 25), (.const (.string ⟨#[43]⟩))]),
                .op (some 24) none (.mv (.tmp 26))])
              (.keep [0, 2, 3, 4, 6, 24] [0, 2, 3] (.ite (.tmp 24) (.reg [
                  .op (some 5) none (.mv (.const (.int .i64 1)))])
                (.seq (.reg [
                  .op (some 28) none (.mv (.tmp 0)),
                  .op (some 29) none (.call f_r23_parser_eat [(.tmp 28), (.const (.string ⟨#[123]⟩))]),
                  .op (some 27) none (.mv (.tmp 29))])
                (.keep [0, 2, 3, 4, 27] [0, 2, 3] (.ite (.tmp 27) (.seq (.reg [
                    .op (some 30) none (.mv (.tmp 0)),
                    .op (some 31) none (.mv (.tmp 4)),
                    .op (some 32) none (.call f_r23_parser_number [(.tmp 30), (.const (.int .i64 16)), (.tmp 31)]),
                    .op (some 5) none (.mv (.tmp 32))])
                  (.keep [0, 2, 3, 4, 5] [0, 2, 3] (.seq (.reg [
                    .op (some 33) none (.mv (.tmp 5)),
                    .op (some 6) none (.mv (.tmp 33))])
                  (.keep [0, 2, 3, 4, 5, 6] [0, 2, 3] (.seq /- 14 -/ (.seq (.reg [
                    .op (some 34) none (.mv (.tmp 0)),
                    .op (some 35) none (.call f_r23_parser_eat [(.tmp 34), (.const (.string ⟨#[44]⟩))])])
                  (.keep [0, 2, 3, 4, 5, 6, 35] [0, 2, 3] (.ite (.tmp 35) (.seq (.reg [
                      .op (some 6) none (.mv (.const (.int .i64 (-1))))])
                    (.keep [0, 2, 3, 4, 5, 6] [0, 2, 3] (.seq (.reg [
                      .op (some 36) none (.mv (.tmp 0)),
                      .op (some 37) none (.nilck (.tmp 36)),
                      .op (some 38) none (.faddr 3 (.tmp 37)),
                      .op (some 39) none (.load false 1 (.tmp 38)),
                      .op (some 40) none (.eql false false [.int] (.tmp 39) (.const (.int .i64 0))),
                      .op (some 41) none (.mv (.tmp 40)),
                      .op (some 42) (some (41, true)) (.mv (.tmp 0)),
                      .op (some 43) (some (41, true)) (.call f_r23_parser_now [(.tmp 42)]),
                      .op (some 44) (some (41, true)) (.fld false 1 0 (.tmp 43)),
                      .op (some 45) (some (41, true)) (.eql false false [.int] (.tmp 44) (.const (.int .u8 100))),
                      .op (some 46) none (.pick (.tmp 41) (.tmp 45) (.const (.bool false)))])
                    (.keep [0, 2, 3, 4, 5, 6, 46] [0, 2, 3] (.ite (.tmp 46) (.seq (.reg [
                        .op (some 47) none (.mv (.tmp 0)),
                        .op (some 48) none (.mv (.tmp 4)),
                        .op (some 49) none (.call f_r23_parser_number [(.tmp 47), (.const (.int .i64 16)), (.tmp 48)]),
                        .op (some 6) none (.mv (.tmp 49))])
                      (.keep [0, 2, 3, 4, 5, 6] [0, 2, 3] (.seq (.reg [
                        .op (some 50) none (.mv (.tmp 6)),
                        .op (some 51) none (.mv (.tmp 5)),
                        .op (some 52) none (.cmp .lss (.tmp 50) (.tmp 51))])
                      (.keep [0, 2, 3, 4, 5, 6, 52] [0, 2, 3] (.ite (.tmp 52) (.reg [
                          .op (some 53) none (.mv (.tmp 0)),
                          .op (some 54) none (.mv (.tmp 4)),
                          .op (some 55) none (.call f_r23_parser_error [(.tmp 53), (.const (.int .i64 8)), (.tmp 54)])])
                        (.skip))))))
                      (.skip))))))
                    (.skip))))
                  (.keep [0, 2, 3, 5, 6] [0, 2, 3] (.reg [
                    .op (some 56) none (.mv (.tmp 0)),
                    .op (some 57) none (.call f_r23_parser_want [(.tmp 56), (.const (.int .u8 111)), (.const (.string ⟨#[125]⟩))])])))))))
                  (.seq (.reg [
                    .op (some 17) none (.load true 13 (.tmp 3)),
                    .op none none (.store none 13 (.tmp 2) (.tmp 17))])
                  (.keep [2] [0, 2] (.ret))))))))))))))))
        (.keep [0, 2, 3, 5, 6] [0, 2, 3] (.reg [
          .op (some 58) none (.mv (.tmp 5)),
          .op (some 59) none (.mv (.tmp 6)),
          .op (some 60) none (.load true 13 (.tmp 3)),
          .op (some 61) none (.bslice ty_Pattern 13 [(.tmp 60)]),
          .op (some 62) none (.build [(.int .i64 0), (.int .i64 0), (.string ⟨#[]⟩), (.string ⟨#[]⟩), (.string ⟨#[]⟩), (.string ⟨#[]⟩), (.bool false), (.slice none 0 0), (.string ⟨#[]⟩), (.string ⟨#[]⟩), (.int .i64 0), (.int .i64 0), (.slice none 0 0)] [(0, 1, (.const (.int .i64 6))), (10, 1, (.tmp 58)), (11, 1, (.tmp 59)), (12, 1, (.tmp 61))]),
          .op none none (.store none 13 (.tmp 3) (.tmp 62))]))))))))))))
  (.keep [2, 3] [0, 2, 3] (.seq (.reg [
    .op (some 63) none (.load true 13 (.tmp 3)),
    .op none none (.store none 13 (.tmp 2) (.tmp 63))])
  (.keep [2] [0, 2] (.ret))))))))
def rs_r23_parser_rep : List CRes := [.cell 2 true 13]
def im_r23_parser_rep : List Nat := []
theorem ok_r23_parser_rep : FnOk Tryz.prog f_r23_parser_rep im_r23_parser_rep cc_r23_parser_rep rs_r23_parser_rep 64 := fnOk1 mixed (by kernel_rfl)
/-- (*corpora/corporaref23.parser).item [P_corporaref23_parser] -> [Pattern] -/
def cc_r23_parser_item : CC :=
  .seq (.reg [
    .op (some 2) none (.alloc ty_Pattern [(.int .i64 0), (.int .i64 0), (.string ⟨#[]⟩), (.string ⟨#[]⟩), (.string ⟨#[]⟩), (.string ⟨#[]⟩), (.bool false), (.slice none 0 0), (.string ⟨#[]⟩), (.string ⟨#[]⟩), (.int .i64 0), (.int .i64 0), (.slice none 0 0)])])
  (.keep [0, 2] [0, 2] (.seq /- 1 -/ (.block 0 (.seq (.reg [
      .op (some 8) none (.mv (.tmp 0)),
      .op (some 9) none (.call f_r23_parser_eat [(.tmp 8), (.const (.string ⟨#[40]⟩))]),
      .op (some 7) none (.mv (.tmp 9))])
    (.keep [0, 2, 7] [0, 2] (.ite (.tmp 7) (.seq (.reg [
        .op (some 10) none (.mv (.tmp 0)),
        .op (some 11) none (.nilck (.tmp 10)),
        .op (some 12) none (.faddr 2 (.tmp 11)),
        .op (some 13) none (.load false 1 (.tmp 12)),
        .op (some 14) none (.arith .add (.tmp 13) (.const (.int .i64 1))),
        .op (some 15) none (.nilck (.tmp 10)),
        .op (some 16) none (.faddr 2 (.tmp 15)),
        .op none none (.store none 1 (.tmp 16) (.tmp 14))])
      (.keep [0, 2] [0, 2] (.seq (.reg [
        .op (some 17) none (.mv (.tmp 0)),
        .op (some 18) none (.call f_r23_parser_alt [(.tmp 17)]),
        .op (some 3) none (.alloc ty_Pattern [(.int .i64 0), (.int .i64 0), (.string ⟨#[]⟩), (.string ⟨#[]⟩), (.string ⟨#[]⟩), (.string ⟨#[]⟩), (.bool false), (.slice none 0 0), (.string ⟨#[]⟩), (.string ⟨#[]⟩), (.int .i64 0), (.int .i64 0), (.slice none 0 0)]),
        .op none none (.store none 13 (.tmp 3) (.tmp 18))])
      (.keep [0, 2, 3] [0, 2, 3] (.seq (.reg [
        .op (some 19) none (.mv (.tmp 0)),
        .op (some 20) none (.nilck (.tmp 19)),
        .op (some 21) none (.faddr 2 (.tmp 20)),
        .op (some 22) none (.load false 1 (.tmp 21)),
        .op (some 23) none (.arith .sub (.tmp 22) (.const (.int .i64 1))),
        .op (some 24) none (.nilck (.tmp 19)),
        .op (some 25) none (.faddr 2 (.tmp 24)),
        .op none none (.store none 1 (.tmp 25) (.tmp 23))])
      (.keep [0, 2, 3] [0, 2, 3] (.seq (.reg [
        .op (some 26) none (.mv (.tmp 0)),
        .op (some 27) none (.call f_r23_parser_want [(.tmp 26), (.const (.int .u8 111)), (.const (.string ⟨#[41]⟩))])])
      (.keep [2, 3] [0, 2, 3] (.seq (.reg [
        .op (some 28) none (.load true 13 (.tmp 3)),
        .op none none (.store none 13 (.tmp 2) (.tmp 28))])
      (.keep [2] [0, 2] (.ret)))))))))))
      (.seq (.reg [
        .op (some 30) none (.mv (.tmp 0)),
        .op (some 31) none (.call f_r23_parser_eat [(.tmp 30), (.const (.string ⟨#[60]⟩))]),
        .op (some 29) none (.mv (.tmp 31))])
      (.keep [0, 2, 29] [0, 2] (.ite (.tmp 29) (.seq (.reg [
          .op (some 32) none (.mv (.tmp 0)),
          .op (some 33) none (.call f_r23_parser_want [(.tmp 32), (.const (.int .u8 110)), (.const (.string ⟨#[]⟩))]),
          .op (some 34) none (.build [(.int .i64 0), (.int .i64 0), (.string ⟨#[]⟩), (.string ⟨#[]⟩), (.string ⟨#[]⟩), (.string ⟨#[]⟩), (.bool false), (.slice none 0 0), (.string ⟨#[]⟩), (.string ⟨#[]⟩), (.int .i64 0), (.int .i64 0), (.slice none 0 0)] [(0, 1, (.const (.int .i64 2))), (9, 1, (.tmp 33))]),
          .op (some 4) none (.alloc ty_Pattern [(.int .i64 0), (.int .i64 0), (.string ⟨#[]⟩), (.string ⟨#[]⟩), (.string ⟨#[]⟩), (.string ⟨#[]⟩), (.bool false), (.slice none 0 0), (.string ⟨#[]⟩), (.string ⟨#[]⟩), (.int .i64 0), (.int .i64 0), (.slice none 0 0)]),
          .op none none (.store none 13 (.tmp 4) (.tmp 34))])
        (.keep [0, 2, 4] [0, 2, 4] (.seq (.reg [
          .op (some 35) none (.mv (.tmp 0)),
          .op (some 36) none (.call f_r23_parser_want [(.tmp 35), (.const (.int .u8 111)), (.const (.string ⟨#[62]⟩))])])
        (.keep [2, 4] [0, 2, 4] (.seq (.reg [
          .op (some 37) none (.load true 13 (.tmp 4)),
          .op none none (.store none 13 (.tmp 2) (.tmp 37))])
        (.keep [2] [0, 2] (.ret)))))))
        (.seq (.reg [
          .op (some 39) none (.mv (.tmp 0)),
          .op (some 40) none (.call f_r23_parser_eat [(.tmp 39), (.const (.string ⟨#[60, 47]⟩))]),
          .op (some 38) none (.mv (.tmp 40))])
        (.keep [0, 2, 38] [0, 2] (.ite (.tmp 38) (.seq (.reg [
            .op (some 41) none (.mv (.tmp 0)),
            .op (some 42) none (.call f_r23_parser_want [(.tmp 41), (.const (.int .u8 110)), (.const (.string ⟨#[]⟩))]),
            .op (some 43) none (.build [(.int .i64 0), (.int .i64 0), (.string ⟨#[]⟩), (.string ⟨#[]⟩), (.string ⟨#[]⟩), (.string ⟨#[]⟩), (.bool false), (.slice none 0 0), (.string ⟨#[]⟩), (.string ⟨#[]⟩), (.int .i64 0), (.int .i64 0), (.slice none 0 0)] [(0, 1, (.const (.int .i64 3))), (9, 1, (.tmp 42))]),
            .op (some 5) none (.alloc ty_Pattern [(.int .i64 0), (.int .i64 0), (.string ⟨#[]⟩), (.string ⟨#[]⟩), (.string ⟨#[]⟩), (.string ⟨#[]⟩), (.bool false), (.slice none 0 0), (.string ⟨#[]⟩), (.string ⟨#[]⟩), (.int .i64 0), (.int .i64 0), (.slice none 0 0)]),
            .op none none (.store none 13 (.tmp 5) (.tmp 43))])
          (.keep [0, 2, 5] [0, 2, 5] (.seq (.reg [
            .op (some 44) none (.mv (.tmp 0)),
            .op (some 45) none (.call f_r23_parser_want [(.tmp 44), (.const (.int .u8 111)), (.const (.string ⟨#[62]⟩))])])
          (.keep [2, 5] [0, 2, 5] (.seq (.reg [
            .op (some 46) none (.load true 13 (.tmp 5)),
            .op none none (.store none 13 (.tmp 2) (.tmp 46))])
          (.keep [2] [0, 2] (.ret)))))))
          (.skip)))))))))))
  (.keep [0, 2] [0, 2] (.seq (.reg [
    .op (some 47) none (.build [(.int .i64 0), (.int .i64 0), (.string ⟨#[]⟩), (.string ⟨#[]⟩), (.string ⟨#[]⟩), (.string ⟨#[]⟩), (.bool false), (.slice none 0 0), (.string ⟨#[]⟩), (.string ⟨#[]⟩), (.int .i64 0), (.int .i64 0), (.slice none 0 0)] [(0, 1, (.const (.int .i64 1)))]),
    .op (some 6) none (.alloc ty_Pattern [(.int .i64 0), (.int .i64 0), (.string ⟨#[]⟩), (.string ⟨#[]⟩), (.string ⟨#[]⟩), (.string ⟨#[]⟩), (.bool false), (.slice none 0 0), (.string ⟨#[]⟩), (.string ⟨#[]⟩), (.int .i64 0), (.int .i64 0), (.slice none 0 0)]),
    .op none none (.store none 13 (.tmp 6) (.tmp 47))])
  (.keep [0, 2, 6] [0, 2, 6] (.seq /- 17 -/ (.seq (.reg [
    .op (some 48) none (.mv (.tmp 0)),
    .op (some 49) none (.nilck (.tmp 48)),
    .op (some 50) none (.faddr 3 (.tmp 49)),
    .op (some 51) none (.load false 1 (.tmp 50)),
    .op (some 52) none (.eql false false [.int] (.tmp 51) (.const (.int .i64 0))),
    .op (some 53) none (.mv (.tmp 52)),
    .op (some 54) (some (53, true)) (.mv (.tmp 0)),
    .op (some 55) (some (53, true)) (.call f_r23_parser_now [(.tmp 54)]),
    .op (some 56) (some (53, true)) (.fld false 1 0 (.tmp 55)),
    .op (some 57) (some (53, true)) (.eql false false [.int] (.tmp 56) (.const (.int .u8 110))),
    .op (some 58) none (.pick (.tmp 53) (.tmp 57) (.const (.bool false)))])
  (.keep [0, 2, 6, 58] [0, 2, 6] (.ite (.tmp 58) (.seq (.reg [
      .op (some 59) none (.mv (.tmp 0)),
      .op (some 60) none (.call f_r23_parser_want [(.tmp 59), (.const (.int .u8 110)), (.const (.string ⟨#[]⟩))]),
      .op (some 61) none (.faddr 8 (.tmp 6)),
      .op none none (.store none 1 (.tmp 61) (.tmp 60))])
    (.keep [0, 2, 6] [0, 2, 6] (.reg [
      .op (some 62) none (.mv (.tmp 0)),
      .op (some 63) none (.call f_r23_parser_want [(.tmp 62), (.const (.int .u8 111)), (.const (.string ⟨#[58]⟩))])])))
    (.skip))))
  (.keep [0, 2, 6] [0, 2, 6] (.seq /- 20 -/ (.seq (.reg [
    .op (some 64) none (.mv (.tmp 0)),
    .op (some 65) none (.nilck (.tmp 64)),
    .op (some 66) none (.faddr 3 (.tmp 65)),
    .op (some 67) none (.load false 1 (.tmp 66)),
    .op (some 68) none (.eql false false [.int] (.tmp 67) (.const (.int .i64 0))),
    .op (some 69) none (.mv (.tmp 68)),
    .op (some 70) (some (69, true)) (.mv (.tmp 0)),
    .op (some 71) (some (69, true)) (.call f_r23_parser_now [(.tmp 70)]),
    .op (some 72) (some (69, true)) (.fld false 1 0 (.tmp 71)),
    .op (some 73) (some (69, true)) (.eql false false [.int] (.tmp 72) (.const (.int .u8 115))),
    .op (some 74) none (.pick (.tmp 69) (.tmp 73) (.const (.bool false)))])
  (.keep [0, 2, 6, 74] [0, 2, 6] (.ite (.tmp 74) (.seq (.reg [
      .op (some 75) none (.mv (.tmp 0)),
      .op (some 76) none (.call f_r23_parser_want [(.tmp 75), (.const (.int .u8 115)), (.const (.string ⟨#[]⟩))]),
      .op (some 77) none (.build [(.int .i64 0), (.string ⟨#[]⟩), (.string ⟨#[]⟩), (.string ⟨#[]⟩), (.string ⟨#[]⟩), (.bool false), (.slice none 0 0)] [(0, 1, (.const (.int .i64 2))), (3, 1, (.tmp 76))]),
      .op (some 78) none (.faddr 1 (.tmp 6)),
      .op none none (.store none 7 (.tmp 78) (.tmp 77))])
    (.keep [0, 2, 6] [0, 2, 6] (.seq (.reg [
      .op (some 79) none (.mv (.tmp 0)),
      .op (some 80) none (.call f_r23_parser_fold [(.tmp 79)]),
      .op (some 81) none (.faddr 1 (.tmp 6)),
      .op (some 82) none (.faddr 5 (.tmp 81)),
      .op none none (.store none 1 (.tmp 82) (.tmp 80))])
    (.keep [2, 6] [0, 2, 6] (.seq (.reg [
      .op (some 83) none (.load true 13 (.tmp 6)),
      .op none none (.store none 13 (.tmp 2) (.tmp 83))])
    (.keep [2] [0, 2] (.ret)))))))
    (.skip))))
  (.keep [0, 2, 6] [0, 2, 6] (.seq (.reg [
    .op (some 84) none (.mv (.tmp 0)),
    .op (some 85) none (.call f_r23_parser_want [(.tmp 84), (.const (.int .u8 111)), (.const (.string ⟨#[91]⟩))])])
  (.keep [0, 2, 6] [0, 2, 6] (.seq /- 26 -/ (.seq (.reg [
    .op (some 86) none (.mv (.tmp 0)),
    .op (some 87) none (.call f_r23_parser_eat [(.tmp 86), (.const (.string ⟨#[93]⟩))])])
  (.keep [0, 2, 6, 87] [0, 2, 6] (.ite (.tmp 87) (.seq (.reg [
      .op (some 88) none (.build [(.int .i64 0), (.string ⟨#[]⟩), (.string ⟨#[]⟩), (.string ⟨#[]⟩), (.string ⟨#[]⟩), (.bool false), (.slice none 0 0)] [(0, 1, (.const (.int .i64 1)))]),
      .op (some 89) none (.faddr 1 (.tmp 6)),
      .op none none (.store none 7 (.tmp 89) (.tmp 88))])
    (.keep [2, 6] [0, 2, 6] (.seq (.reg [
      .op (some 90) none (.load true 13 (.tmp 6)),
      .op none none (.store none 13 (.tmp 2) (.tmp 90))])
    (.keep [2] [0, 2] (.ret)))))
    (.skip))))
  (.keep [0, 2, 6] [0, 2, 6] (.seq (.reg [
    .op (some 91) none (.mv (.tmp 0)),
    .op (some 92) none (.call f_r23_parser_or [(.tmp 91)]),
    .op (some 93) none (.faddr 1 (.tmp 6)),
    .op none none (.store none 7 (.tmp 93) (.tmp 92))])
  (.keep [0, 2, 6] [0, 2, 6] (.seq (.reg [
    .op (some 94) none (.mv (.tmp 0)),
    .op (some 95) none (.call f_r23_parser_want [(.tmp 94), (.const (.int .u8 111)), (.const (.string ⟨#[93]⟩))])])
  (.keep [2, 6] [0, 2, 6] (.seq (.reg [
    .op (some 96) none (.load true 13 (.tmp 6)),
    .op none none (.store none 13 (.tmp 2) (.tmp 96))])
  (.keep [2] [0, 2] (.ret))))))))))))))))))))
def rs_r23_parser_item : List CRes := [.cell 2 true 13]
def im_r23_parser_item : List Nat := []
theorem ok_r23_parser_item : FnOk Tryz.prog f_r23_parser_item im_r23_parser_item cc_r23_parser_item rs_r23_parser_item 97 := fnOk1 mixed (by kernel_rfl)

end Go.Gv

namespace Go.Gv
set_option linter.unusedSimpArgs false
set_option linter.unusedVariables false
set_option maxRecDepth 100000
open Cod (enc dec)
variable {S S0 : Nat → Spc}
@[simp] abbrev F_now (s : Pst) (_ : Unit) : Option (Pst × Tok) := (nowT s).map fun x => (s, x)
abbrev s_now : Spc := psF a0 (enc (X := Tok)) F_now
theorem w_now : WalkPS cc_r23_parser_now rs_r23_parser_now S a0 (enc (X := Tok)) (fun s z => ∃ r, F_now s z = some r) (fun s z s' y => F_now s z = some (s', y)) := by
  rintro b s ⟨⟩ ⟨r, hr⟩
  simp only [F_now, nowT, Option.map_eq_some_iff] at hr
  obtain ⟨x, hx, rfl⟩ := hr
  split at hx
  · rename_i h0
    obtain ⟨h0, hb⟩ := h0
    have hl := lt_at hx
    obtain ⟨_, hgx⟩ := List.getElem?_eq_some_iff.1 hx
    simp [cc_r23_parser_now, rs_r23_parser_now, hx]
    exact fun _ => ⟨h0, by omega, finPS s x (.same _) (by simp) ⟨by rw [nowT, if_pos ⟨h0, hb⟩, hx], rfl⟩⟩
  · cases hx
theorem eta0 {s : Pst} (h : s.e = 0) : Pst.mk s.l s.pos s.deep 0 s.fail = s := by rw [← h]
theorem finB {b : Nat} {post : Pst → Bool → Prop} {v : Bool} {H : HMap} (s : Pst) (h0 : H 0 = some (.box b (cePst s))) (hq : post s v) : FinPS enc b post (.v (.bool v)) H := finPS s v (.same _) h0 hq
theorem finI {b : Nat} {post : Pst → Int → Prop} {v : Int} {H : HMap} (s : Pst) (h0 : H 0 = some (.box b (cePst s))) (hq : post s v) : FinPS enc b post (.v (.int .i64 v)) H := finPS s v (.same _) h0 hq
theorem finS {b : Nat} {post : Pst → B → Prop} {v : B} {H : HMap} (s : Pst) (h0 : H 0 = some (.box b (cePst s))) (hq : post s v) : FinPS enc b post (.v (.string v)) H := finPS s v (.same _) h0 hq
@[simp] abbrev F_is (s : Pst) (z : U8 × B) : Option (Pst × Bool) := (isF s z.1.val z.2).map fun x => (s, x)
abbrev s_is : Spc := psF (a2 U8 B) (enc (X := Bool)) F_is
theorem w_is (h1 : S f_r23_parser_now = s_now) : WalkPS cc_r23_parser_is rs_r23_parser_is S (a2 U8 B) (enc (X := Bool)) (fun s z => ∃ r, F_is s z = some r) (fun s z s' y => F_is s z = some (s', y)) := by
  rintro b s ⟨⟨k⟩, t⟩ ⟨r, hr⟩
  simp only [F_is, isF, Option.map_eq_some_iff] at hr
  obtain ⟨v, hr, rfl⟩ := hr
  split at hr
  · rename_i he
    simp [cc_r23_parser_is, rs_r23_parser_is, h1, he]
    exact finB s (by simp) ⟨by rw [isF, if_pos he], rfl⟩
  · rename_i he
    have he : s.e = 0 := by simpa using he
    obtain ⟨x, hx, rfl⟩ := Option.map_eq_some_iff.1 hr
    have hF : isF s k t = some (decide (x.kind = k ∧ x.text = t)) := by rw [isF, if_neg (by simp [he]), hx]; rfl
    simp [cc_r23_parser_is, rs_r23_parser_is, h1, he, eta0 he, hx]
    refine ⟨fun hk => finB s (by simp [he]) ⟨by rw [hF]; simp [hk], rfl⟩, fun hk => finB s (by simp [he]) ⟨by rw [hF]; simp [hk], rfl⟩⟩
@[simp] abbrev F_eat (s : Pst) (t : B) : Option (Pst × Bool) := eatF s t
abbrev s_eat : Spc := psF (a1 B) (enc (X := Bool)) F_eat
/-- A token is there, where something was found. -/
theorem isF_true {s : Pst} {k : Int} {t : B} (h : isF s k t = some true) : s.e = 0 ∧ ∃ x, nowT s = some x ∧ x.kind = k ∧ x.text = t := by
  unfold isF at h
  split at h
  · cases h
  · rename_i he
    obtain ⟨x, hx, h2⟩ := Option.map_eq_some_iff.1 h
    simp at h2
    exact ⟨by simpa using he, x, hx, h2⟩
theorem nowT_rng {s : Pst} {x : Tok} (h : nowT s = some x) : 0 ≤ s.pos ∧ s.pos < s.l.length ∧ s.l.length ≤ 1000000 := by
  unfold nowT at h
  split at h
  · have := lt_at h
    omega
  · cases h
theorem w_eat (h1 : S f_r23_parser_is = s_is) : WalkPS cc_r23_parser_eat rs_r23_parser_eat S (a1 B) (enc (X := Bool)) (fun s z => ∃ r, F_eat s z = some r) (fun s z s' y => F_eat s z = some (s', y)) := by
  rintro b s t ⟨r, hr⟩
  have hr0 := hr
  simp only [F_eat, eatF, Option.map_eq_some_iff] at hr
  obtain ⟨v, hr, rfl⟩ := hr
  simp [cc_r23_parser_eat, rs_r23_parser_eat, h1, hr]
  cases v
  · simp
    exact finB s (by simp) (by simp [F_eat, eatF, hr])
  · obtain ⟨_, x, hx, _⟩ := isF_true hr
    have := nowT_rng hx
    simp
    exact ⟨by simp only [InR]; omega, finB s.step (by simp [Pst.step]) (by simp [F_eat, eatF, hr])⟩
theorem kind_eq {s : Pst} {k : Int} {t : B} {x : Tok} (he : s.e = 0) (hx : nowT s = some x) : isF s k t = some (decide (x.kind = k ∧ x.text = t)) := by
  rw [isF, if_neg (by simp [he]), hx]; rfl
@[simp] abbrev F_want (s : Pst) (z : U8 × B) : Option (Pst × B) := wantF s z.1.val z.2
abbrev s_want : Spc := psF (a2 U8 B) (enc (X := B)) F_want
theorem w_want (h1 : S f_r23_parser_now = s_now) : WalkPS cc_r23_parser_want rs_r23_parser_want S (a2 U8 B) (enc (X := B)) (fun s z => ∃ r, F_want s z = some r) (fun s z s' y => F_want s z = some (s', y)) := by
  rintro b s ⟨⟨k⟩, t⟩ ⟨r, hr⟩
  have hr0 := hr
  simp only [F_want, wantF] at hr
  split at hr
  · cases hr
  rename_i he
  have he : s.e = 0 := by simpa using he
  obtain ⟨x, hx, hr⟩ := Option.bind_eq_some_iff.1 hr
  split at hr
  · cases hr
  rename_i hk
  cases hr
  have hk1 : x.kind = k := by by_cases h : x.kind = k; exact h; exact absurd (.inl h) hk
  have hk2 : k = 111 → x.text = t := fun h => by by_cases h' : x.text = t; exact h'; exact absurd (.inr ⟨h, h'⟩) hk
  have hrg := nowT_rng hx
  simp [cc_r23_parser_want, rs_r23_parser_want, h1, he, eta0 he, hx, hk1]
  clear h1
  have fin : ∀ H : HMap, H 0 = some (.box b (cePst s.step)) → FinPS enc b (fun s' y => wantF s k t = some (s', y)) (.v (.string x.text)) H := fun H h => finS s.step h hr0
  intro b7
  exact ⟨fun h => ⟨fun h' => absurd (hk2 h) h', fun _ => ⟨by simp only [InR]; omega, finS s.step (by simp [Pst.step, he]) hr0⟩⟩, fun _ => ⟨by simp only [InR]; omega, finS s.step (by simp [Pst.step, he]) hr0⟩⟩
@[simp] abbrev F_fold (s : Pst) (_ : Unit) : Option (Pst × Bool) := eatF s ⟨#[37, 99]⟩
abbrev s_fold : Spc := psF a0 (enc (X := Bool)) F_fold
theorem w_fold (h1 : S f_r23_parser_eat = s_eat) : WalkPS cc_r23_parser_fold rs_r23_parser_fold S a0 (enc (X := Bool)) (fun s z => ∃ r, F_fold s z = some r) (fun s z s' y => F_fold s z = some (s', y)) := by
  rintro b s ⟨⟩ ⟨⟨s', v⟩, hr⟩
  simp only [F_fold] at hr
  simp [cc_r23_parser_fold, rs_r23_parser_fold, h1, hr, -Bool.forall_bool, -Bool.exists_bool]
  refine finB s' ?_ ?_
  · simp
  · exact ⟨rfl, rfl⟩
@[simp] abbrev F_begins (s : Pst) (_ : Unit) : Option (Pst × Bool) := (beginsF s).map fun v => (s, v)
abbrev s_begins23 : Spc := psF a0 (enc (X := Bool)) F_begins
theorem w_begins (h1 : S f_r23_parser_now = s_now) : WalkPS cc_r23_parser_begins rs_r23_parser_begins S a0 (enc (X := Bool)) (fun s z => ∃ r, F_begins s z = some r) (fun s z s' y => F_begins s z = some (s', y)) := by
  rintro b s ⟨⟩ ⟨r, hr⟩
  obtain ⟨v, hv, rfl⟩ := Option.map_eq_some_iff.1 hr
  have hv0 := hv
  simp only [beginsF] at hv
  obtain ⟨x, hx, hv⟩ := Option.bind_eq_some_iff.1 hv
  split at hv
  · rename_i he
    cases hv
    simp [cc_r23_parser_begins, rs_r23_parser_begins, h1, hx, he]
    exact finB s (by simp) ⟨hv0, rfl⟩
  rename_i he
  have he : s.e = 0 := by simpa using he
  split at hv
  · cases hv
  rename_i hk
  cases hv
  simp [cc_r23_parser_begins, rs_r23_parser_begins, h1, hx, he, eta0 he, hk]
  clear h1 hv hr
  repeat' first | apply And.intro | intro _
  all_goals refine finB s (by simp [he]) ⟨?_, rfl⟩
  all_goals (rw [hv0]; simp [*])
@[simp] abbrev F_number (s : Pst) (z : Int × Int) : Option (Pst × Int) := numberF s z.1
abbrev s_number : Spc := psF (a2 Int Int) (enc (X := Int)) F_number
theorem w_number (h1 : S f_r23_parser_want = s_want) : WalkPS cc_r23_parser_number rs_r23_parser_number S (a2 Int Int) (enc (X := Int)) (fun s z => ∃ r, F_number s z = some r) (fun s z s' y => F_number s z = some (s', y)) := by
  rintro b s ⟨lim, at_⟩ ⟨⟨s', n⟩, hr⟩
  have hr0 := hr
  simp only [F_number, numberF] at hr
  obtain ⟨⟨s1, t⟩, hw, hr⟩ := Option.bind_eq_some_iff.1 hr
  obtain ⟨n1, hd, hr⟩ := Option.bind_eq_some_iff.1 hr
  split at hr
  · cases hr
    simp only at hd
    rename_i hlim
    unfold digitsF at hd
    split at hd
    · rename_i hall
      cases hd
      have hdig : ∀ (k : Nat) (c : UInt8), t.data[k]? = some c → 48 ≤ c.toNat ∧ c.toNat ≤ 57 := by
        intro k c hc
        rw [List.all_eq_true] at hall
        have := hall c (by rw [← Array.getElem?_toList] at hc; exact mem_at hc)
        simpa using this
      have hrng : ∀ l : List UInt8, (∀ c ∈ l, 48 ≤ c.toNat ∧ c.toNat ≤ 57) → ∀ n : Int, 0 ≤ n → n ≤ 1000000 → 0 ≤ l.foldl digit1 n ∧ l.foldl digit1 n ≤ 1000000 := by
        intro l
        induction l with
        | nil => intro _ n h0 h1; exact ⟨h0, h1⟩
        | cons c l ih =>
          intro hc n h0 h1
          have := hc c (by simp)
          exact ih (fun x hx => hc x (by simp [hx])) _ (by unfold digit1; omega) (by unfold digit1; omega)
      simp [cc_r23_parser_number, rs_r23_parser_number, h1, hw]
      refine vc_while (X := Nat) [0, 1, 2, 7] [0] (fun k => k ≤ t.size) (fun k => [(8, enc ((t.data.toList.take k).foldl digit1 0)), (9, enc (k : Int))]) (fun _ => []) (fun k => t.size - k) 0 (by omega) (by simp) (by simp) ?_
      rintro k hk
      have hm := hrng (t.data.toList.take k) (fun c hc => by
        obtain ⟨j, hj, rfl⟩ := List.mem_iff_getElem.1 (List.mem_of_mem_take hc)
        exact hdig j _ (by rw [← Array.getElem?_toList]; exact List.getElem?_eq_getElem hj)) 0 (by omega) (by omega)
      simp
      clear h1
      refine fun _ => ⟨fun hlt => ⟨by simp only [InR]; omega, hlt, fun c hc => ?_⟩, fun hge => ?_⟩
      · have hcr := hdig k c hc
        have hw : IntKind.i64.wrap ((c.toNat : Int) - 48) = (c.toNat : Int) - 48 := by
          exact InR.wrap (by simp only [InR]; omega)
        rw [hw]
        have hn : (t.data.toList.take (k + 1)).foldl digit1 0 = digit1 ((t.data.toList.take k).foldl digit1 0) c := by
          rw [take_snoc (a := c) (by rw [Array.getElem?_toList]; exact hc), List.foldl_append]; rfl
        refine ⟨by simp only [InR]; omega, by simp only [InR]; omega, by simp only [InR]; omega, k + 1, by omega, ⟨?_, by omega⟩, by omega⟩
        rw [hn]; rfl
      · have e : k = t.size := by omega
        have hall2 : t.data.toList.take k = t.data.toList := List.take_of_length_le (by rw [e]; exact Nat.le_refl _)
        rw [hall2]
        exact ⟨fun h => absurd h (by omega), fun _ => finI s1 (by simp) hr0⟩
    · cases hd
  · cases hr
end Go.Gv
