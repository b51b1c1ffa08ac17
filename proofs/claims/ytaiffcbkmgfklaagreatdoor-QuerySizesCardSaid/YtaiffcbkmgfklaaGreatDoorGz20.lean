/- A part of the framework and of the walks: C8. -/
import Derived.Test.YtaiffcbkmgfklaaGreatDoorGz13

namespace Go.Gv
open Go.Proofs
/-- corpora/query.letter [uint8] -> [bool] -/
def cc_query_letter : CC :=
  .seq (.reg [
    .op (some 2) none (.mv (.const (.bool false)))])
  (.keep [0] [] (.seq (.reg [
    .op (some 3) none (.mv (.tmp 0)),
    .op (some 4) none (.cmp .geq (.tmp 3) (.const (.int .u8 97))),
    .op (some 5) none (.mv (.tmp 4)),
    .op (some 6) (some (5, true)) (.mv (.tmp 0)),
    .op (some 7) (some (5, true)) (.cmp .leq (.tmp 6) (.const (.int .u8 122))),
    .op (some 8) none (.pick (.tmp 5) (.tmp 7) (.const (.bool false))),
    .op (some 9) none (.mv (.tmp 8)),
    .op (some 10) (some (9, false)) (.mv (.tmp 0)),
    .op (some 11) (some (9, false)) (.cmp .geq (.tmp 10) (.const (.int .u8 65))),
    .op (some 12) (some (9, false)) (.mv (.tmp 11)),
    .op (some 13) (some (12, true)) (.mv (.tmp 0)),
    .op (some 14) (some (12, true)) (.cmp .leq (.tmp 13) (.const (.int .u8 90))),
    .op (some 15) (some (9, false)) (.pick (.tmp 12) (.tmp 14) (.const (.bool false))),
    .op (some 16) none (.pick (.tmp 9) (.const (.bool true)) (.tmp 15)),
    .op (some 17) none (.mv (.tmp 16)),
    .op (some 18) (some (17, false)) (.mv (.tmp 0)),
    .op (some 19) (some (17, false)) (.eql false false [.int] (.tmp 18) (.const (.int .u8 95))),
    .op (some 20) none (.pick (.tmp 17) (.const (.bool true)) (.tmp 19)),
    .op (some 2) none (.mv (.tmp 20))])
  (.keep [2] [] (.ret))))
def rs_query_letter : List CRes := [.tmp 2]
def im_query_letter : List Nat := []
theorem ok_query_letter : FnOk Tryz.prog f_query_letter im_query_letter cc_query_letter rs_query_letter 21 := fnOk1 mixed (by kernel_rfl)
/-- corpora/query.digit [uint8] -> [bool] -/
def cc_query_digit : CC :=
  .seq (.reg [
    .op (some 2) none (.mv (.const (.bool false)))])
  (.keep [0] [] (.seq (.reg [
    .op (some 3) none (.mv (.tmp 0)),
    .op (some 4) none (.cmp .geq (.tmp 3) (.const (.int .u8 48))),
    .op (some 5) none (.mv (.tmp 4)),
    .op (some 6) (some (5, true)) (.mv (.tmp 0)),
    .op (some 7) (some (5, true)) (.cmp .leq (.tmp 6) (.const (.int .u8 57))),
    .op (some 8) none (.pick (.tmp 5) (.tmp 7) (.const (.bool false))),
    .op (some 2) none (.mv (.tmp 8))])
  (.keep [2] [] (.ret))))
def rs_query_digit : List CRes := [.tmp 2]
def im_query_digit : List Nat := []
theorem ok_query_digit : FnOk Tryz.prog f_query_digit im_query_digit cc_query_digit rs_query_digit 9 := fnOk1 mixed (by kernel_rfl)
/-- corpora/query.lex$1 [uint8] -> [bool] -/
def cc_query_lex_1 : CC :=
  .seq (.reg [
    .op (some 2) none (.mv (.const (.bool false)))])
  (.keep [0] [] (.seq (.reg [
    .op (some 3) none (.mv (.tmp 0)),
    .op (some 4) none (.eql false false [.int] (.tmp 3) (.const (.int .u8 32))),
    .op (some 5) none (.mv (.tmp 4)),
    .op (some 6) (some (5, false)) (.mv (.tmp 0)),
    .op (some 7) (some (5, false)) (.eql false false [.int] (.tmp 6) (.const (.int .u8 10))),
    .op (some 8) none (.pick (.tmp 5) (.const (.bool true)) (.tmp 7)),
    .op (some 2) none (.mv (.tmp 8))])
  (.keep [2] [] (.ret))))
def rs_query_lex_1 : List CRes := [.tmp 2]
def im_query_lex_1 : List Nat := []
theorem ok_query_lex_1 : FnOk Tryz.prog f_query_lex_1 im_query_lex_1 cc_query_lex_1 rs_query_lex_1 9 := fnOk1 mixed (by kernel_rfl)
/-- corpora/query.lex$2 [uint8] -> [bool] -/
def cc_query_lex_2 : CC :=
  .seq (.reg [
    .op (some 2) none (.mv (.const (.bool false)))])
  (.keep [0] [] (.seq (.reg [
    .op (some 3) none (.mv (.tmp 0)),
    .op (some 4) none (.call f_query_letter [(.tmp 3)]),
    .op (some 5) none (.mv (.tmp 4)),
    .op (some 6) (some (5, false)) (.mv (.tmp 0)),
    .op (some 7) (some (5, false)) (.call f_query_digit [(.tmp 6)]),
    .op (some 8) none (.pick (.tmp 5) (.const (.bool true)) (.tmp 7)),
    .op (some 9) none (.mv (.tmp 8)),
    .op (some 10) (some (9, false)) (.mv (.tmp 0)),
    .op (some 11) (some (9, false)) (.eql false false [.int] (.tmp 10) (.const (.int .u8 45))),
    .op (some 12) none (.pick (.tmp 9) (.const (.bool true)) (.tmp 11)),
    .op (some 2) none (.mv (.tmp 12))])
  (.keep [2] [] (.ret))))
def rs_query_lex_2 : List CRes := [.tmp 2]
def im_query_lex_2 : List Nat := []
theorem ok_query_lex_2 : FnOk Tryz.prog f_query_lex_2 im_query_lex_2 cc_query_lex_2 rs_query_lex_2 13 := fnOk1 mixed (by kernel_rfl)
-- query_run while id=0: live [0:s, 1:at, 2:f] changed [1] res []
/-- corpora/query.run [string, int, func_uint8_bool] -> [int] -/
def cc_query_run : CC :=
  .seq (.reg [
    .op (some 6) none (.mv (.const (.int .i64 0)))])
  (.keep [0, 1, 2] [] (.seq /- 1 -/ (.block 0 (.loop 1 (.seq /- 2 -/ (.seq (.reg [
        .op (some 7) none (.mv (.tmp 1)),
        .op (some 8) none (.mv (.tmp 0)),
        .op (some 9) none (.slen (.tmp 8)),
        .op (some 10) none (.cmp .lss (.tmp 7) (.tmp 9)),
        .op (some 11) none (.mv (.tmp 10)),
        .op (some 12) (some (11, true)) (.mv (.tmp 2)),
        .op (some 13) (some (11, true)) (.mv (.tmp 0)),
        .op (some 14) (some (11, true)) (.mv (.tmp 1)),
        .op (some 15) (some (11, true)) (.sidx (.tmp 13) (.tmp 14)),
        .op (some 16) (some (11, true)) (.callv (.tmp 12) [(.tmp 15)]),
        .op (some 17) none (.pick (.tmp 11) (.tmp 16) (.const (.bool false)))])
      (.keep [0, 1, 2, 17] [] (.ite (.tmp 17) (.skip)
        (.exit 0))))
      (.keep [0, 1, 2] [] (.block 1 (.reg [
          .op (some 18) none (.mv (.tmp 1)),
          .op (some 19) none (.arith .add (.tmp 18) (.const (.int .i64 1))),
          .op (some 1) none (.mv (.tmp 19))]))))))
  (.keep [1] [] (.seq (.reg [
    .op (some 20) none (.mv (.tmp 1)),
    .op (some 6) none (.mv (.tmp 20))])
  (.keep [6] [] (.ret))))))
def rs_query_run : List CRes := [.tmp 6]
def im_query_run : List Nat := []
theorem ok_query_run : FnOk Tryz.prog f_query_run im_query_run cc_query_run rs_query_run 21 := fnOk1 mixed (by kernel_rfl)
-- query_lex range i=73 n=72 c=74 i2=87 id=1: live [0:s, 1:at, 4:, 6:c, 71:] changed [] res [4]
/-- corpora/query.lex [string, int] -> [query_lexeme, int] -/
def cc_query_lex : CC :=
  .seq (.reg [
    .op (some 4) none (.alloc ty_query_lexeme [(.int .i64 0), (.string ⟨#[]⟩), (.int .i64 0)]),
    .op (some 5) none (.mv (.const (.int .i64 0)))])
  (.keep [0, 1, 4] [4] (.seq (.reg [
    .op (some 13) none (.mv (.tmp 0)),
    .op (some 14) none (.mv (.tmp 1)),
    .op (some 15) none (.call f_query_run [(.tmp 13), (.tmp 14), (.func f_query_lex_1)]),
    .op (some 1) none (.mv (.tmp 15))])
  (.keep [0, 1, 4] [4] (seqM 2 (.seq (.reg [
    .op (some 16) none (.mv (.tmp 1)),
    .op (some 17) none (.mv (.tmp 0)),
    .op (some 18) none (.slen (.tmp 17)),
    .op (some 19) none (.eql false false [.int] (.tmp 16) (.tmp 18))])
  (.keep [0, 1, 4, 19] [4] (.ite (.tmp 19) (.seq (.reg [
      .op (some 20) none (.mv (.tmp 1)),
      .op (some 21) none (.build [(.int .i64 0), (.string ⟨#[]⟩), (.int .i64 0)] [(0, 1, (.const (.int .i64 0))), (1, 1, (.const (.string ⟨#[]⟩))), (2, 1, (.tmp 20))]),
      .op (some 22) none (.mv (.tmp 1)),
      .op none none (.store none 3 (.tmp 4) (.tmp 21)),
      .op (some 5) none (.mv (.tmp 22))])
    (.keep [4, 5] [4] (.ret)))
    (.skip))))
  (.keep [0, 1, 4] [4] (.seq (.reg [
    .op (some 23) none (.mv (.tmp 0)),
    .op (some 24) none (.mv (.tmp 1)),
    .op (some 25) none (.sidx (.tmp 23) (.tmp 24)),
    .op (some 6) none (.mv (.tmp 25))])
  (.keep [0, 1, 4, 6] [4] (seqM 6 (.block 0 (.seq (.reg [
      .op (some 27) none (.mv (.tmp 6)),
      .op (some 28) none (.call f_query_letter [(.tmp 27)]),
      .op (some 26) none (.mv (.tmp 28))])
    (.keep [0, 1, 4, 6, 26] [4] (.ite (.tmp 26) (.seq (.reg [
        .op (some 29) none (.mv (.tmp 0)),
        .op (some 30) none (.mv (.tmp 1)),
        .op (some 31) none (.call f_query_run [(.tmp 29), (.tmp 30), (.func f_query_lex_2)]),
        .op (some 7) none (.mv (.tmp 31))])
      (.keep [0, 1, 4, 7] [4] (.seq (.reg [
        .op (some 32) none (.mv (.tmp 0)),
        .op (some 33) none (.mv (.tmp 1)),
        .op (some 34) none (.mv (.tmp 7)),
        .op (some 35) none (.sslice (.tmp 32) (some (.tmp 33)) (some (.tmp 34))),
        .op (some 36) none (.mv (.tmp 1)),
        .op (some 37) none (.build [(.int .i64 0), (.string ⟨#[]⟩), (.int .i64 0)] [(0, 1, (.const (.int .i64 2))), (1, 1, (.tmp 35)), (2, 1, (.tmp 36))]),
        .op (some 38) none (.mv (.tmp 7)),
        .op none none (.store none 3 (.tmp 4) (.tmp 37)),
        .op (some 5) none (.mv (.tmp 38))])
      (.keep [4, 5] [4] (.ret)))))
      (.seq (.reg [
        .op (some 40) none (.mv (.tmp 6)),
        .op (some 41) none (.call f_query_digit [(.tmp 40)]),
        .op (some 39) none (.mv (.tmp 41))])
      (.keep [0, 1, 4, 6, 39] [4] (.ite (.tmp 39) (.seq (.reg [
          .op (some 42) none (.mv (.tmp 0)),
          .op (some 43) none (.mv (.tmp 1)),
          .op (some 44) none (.call f_query_run [(.tmp 42), (.tmp 43), (.func f_query_digit)]),
          .op (some 8) none (.mv (.tmp 44))])
        (.keep [0, 1, 4, 8] [4] (.seq (.reg [
          .op (some 45) none (.mv (.tmp 0)),
          .op (some 46) none (.mv (.tmp 1)),
          .op (some 47) none (.mv (.tmp 8)),
          .op (some 48) none (.sslice (.tmp 45) (some (.tmp 46)) (some (.tmp 47))),
          .op (some 49) none (.mv (.tmp 1)),
          .op (some 50) none (.build [(.int .i64 0), (.string ⟨#[]⟩), (.int .i64 0)] [(0, 1, (.const (.int .i64 3))), (1, 1, (.tmp 48)), (2, 1, (.tmp 49))]),
          .op (some 51) none (.mv (.tmp 8)),
          .op none none (.store none 3 (.tmp 4) (.tmp 50)),
          .op (some 5) none (.mv (.tmp 51))])
        (.keep [4, 5] [4] (.ret)))))
        (.seq (.reg [
          .op (some 53) none (.mv (.tmp 6)),
          .op (some 54) none (.eql false false [.int] (.tmp 53) (.const (.int .u8 34))),
          .op (some 52) none (.mv (.tmp 54))])
        (.keep [0, 1, 4, 6, 52] [4] (.ite (.tmp 52) (.seq (.reg [
            .op (some 56) none (.mv (.tmp 0)),
            .op (some 57) none (.mv (.tmp 1)),
            .op (some 58) none (.call f_query_quoted [(.tmp 56), (.tmp 57)]),
            .op (some 55) none (.mv (.tmp 58)),
            .op (some 59) none (.ext (.tmp 55) 0),
            .op (some 60) none (.ext (.tmp 55) 1),
            .op (some 9) none (.mv (.tmp 59)),
            .op (some 10) none (.mv (.tmp 60))])
          (.keep [0, 1, 4, 9, 10] [4] (.seq /- 15 -/ (.seq (.reg [
            .op (some 61) none (.mv (.tmp 10)),
            .op (some 62) none (.cmp .lss (.tmp 61) (.const (.int .i64 0)))])
          (.keep [0, 1, 4, 9, 10, 62] [4] (.ite (.tmp 62) (.seq (.reg [
              .op (some 63) none (.mv (.tmp 1)),
              .op (some 64) none (.build [(.int .i64 0), (.string ⟨#[]⟩), (.int .i64 0)] [(0, 1, (.const (.int .i64 1))), (1, 1, (.const (.string ⟨#[]⟩))), (2, 1, (.tmp 63))]),
              .op (some 65) none (.mv (.tmp 0)),
              .op (some 66) none (.slen (.tmp 65)),
              .op none none (.store none 3 (.tmp 4) (.tmp 64)),
              .op (some 5) none (.mv (.tmp 66))])
            (.keep [4, 5] [4] (.ret)))
            (.skip))))
          (.keep [1, 4, 9, 10] [4] (.seq (.reg [
            .op (some 67) none (.mv (.tmp 9)),
            .op (some 68) none (.mv (.tmp 1)),
            .op (some 69) none (.build [(.int .i64 0), (.string ⟨#[]⟩), (.int .i64 0)] [(0, 1, (.const (.int .i64 4))), (1, 1, (.tmp 67)), (2, 1, (.tmp 68))]),
            .op (some 70) none (.mv (.tmp 10)),
            .op none none (.store none 3 (.tmp 4) (.tmp 69)),
            .op (some 5) none (.mv (.tmp 70))])
          (.keep [4, 5] [4] (.ret)))))))
          (.skip)))))))))))
  (.keep [0, 1, 4, 6] [4] (seqM 19 (.seq (.reg [
    .op (some 71) none (.bslice ty_string 1 [(.const (.string ⟨#[60, 47]⟩)), (.const (.string ⟨#[33, 61]⟩)), (.const (.string ⟨#[58, 58]⟩)), (.const (.string ⟨#[37, 99]⟩))]),
    .op (some 72) none (.len (.tmp 71)),
    .op (some 73) none (.mv (.const (.int .i64 0)))])
  (.keep [0, 1, 4, 6, 71, 72, 73] [4] (rangeCC 1 73 72 74 2 (.seq (.reg [
      .op (some 75) none (.iaddr 1 (.tmp 71) (.tmp 73)),
      .op (some 76) none (.load false 1 (.tmp 75)),
      .op (some 12) none (.mv (.tmp 76))])
    (.keep [0, 1, 4, 6, 12, 71, 72, 73] [4] (.seq (.reg [
      .op (some 77) none (.mv (.tmp 0)),
      .op (some 78) none (.mv (.tmp 1)),
      .op (some 79) none (.sslice (.tmp 77) (some (.tmp 78)) none),
      .op (some 80) none (.mv (.tmp 12)),
      .op (some 81) none (.call f_strings_HasPrefix [(.tmp 79), (.tmp 80)])])
    (.keep [0, 1, 4, 6, 12, 71, 72, 73, 81] [4] (.ite (.tmp 81) (.seq (.reg [
        .op (some 82) none (.mv (.tmp 12)),
        .op (some 83) none (.mv (.tmp 1)),
        .op (some 84) none (.build [(.int .i64 0), (.string ⟨#[]⟩), (.int .i64 0)] [(0, 1, (.const (.int .i64 5))), (1, 1, (.tmp 82)), (2, 1, (.tmp 83))]),
        .op (some 85) none (.mv (.tmp 1)),
        .op (some 86) none (.arith .add (.tmp 85) (.const (.int .i64 2))),
        .op none none (.store none 3 (.tmp 4) (.tmp 84)),
        .op (some 5) none (.mv (.tmp 86))])
      (.keep [4, 5] [4] (.ret)))
      (.skip)))))) 87)))
  (.keep [0, 1, 4, 6] [4] (.seq /- 24 -/ (.seq (.reg [
    .op (some 88) none (.mv (.tmp 6)),
    .op (some 89) none (.call f_strings_IndexByte [(.const (.string ⟨#[91, 93, 40, 41, 123, 125, 60, 62, 124, 38, 33, 61, 58, 46, 44, 63, 42, 43, 45]⟩)), (.tmp 88)]),
    .op (some 90) none (.cmp .geq (.tmp 89) (.const (.int .i64 0)))])
  (.keep [0, 1, 4, 90] [4] (.ite (.tmp 90) (.seq (.reg [
      .op (some 91) none (.mv (.tmp 0)),
      .op (some 92) none (.mv (.tmp 1)),
      .op (some 93) none (.mv (.tmp 1)),
      .op (some 94) none (.arith .add (.tmp 93) (.const (.int .i64 1))),
      .op (some 95) none (.sslice (.tmp 91) (some (.tmp 92)) (some (.tmp 94))),
      .op (some 96) none (.mv (.tmp 1)),
      .op (some 97) none (.build [(.int .i64 0), (.string ⟨#[]⟩), (.int .i64 0)] [(0, 1, (.const (.int .i64 5))), (1, 1, (.tmp 95)), (2, 1, (.tmp 96))]),
      .op (some 98) none (.mv (.tmp 1)),
      .op (some 99) none (.arith .add (.tmp 98) (.const (.int .i64 1))),
      .op none none (.store none 3 (.tmp 4) (.tmp 97)),
      .op (some 5) none (.mv (.tmp 99))])
    (.keep [4, 5] [4] (.ret)))
    (.skip))))
  (.keep [1, 4] [4] (.seq (.reg [
    .op (some 100) none (.mv (.tmp 1)),
    .op (some 101) none (.build [(.int .i64 0), (.string ⟨#[]⟩), (.int .i64 0)] [(0, 1, (.const (.int .i64 1))), (1, 1, (.const (.string ⟨#[]⟩))), (2, 1, (.tmp 100))]),
    .op (some 102) none (.mv (.tmp 1)),
    .op none none (.store none 3 (.tmp 4) (.tmp 101)),
    .op (some 5) none (.mv (.tmp 102))])
  (.keep [4, 5] [4] (.ret))))))))))))))))
def rs_query_lex : List CRes := [.cell 4 true 3, .tmp 5]
def im_query_lex : List Nat := []
theorem ok_query_lex : FnOk Tryz.prog f_query_lex im_query_lex cc_query_lex rs_query_lex 103 := fnOk1 mixed (by kernel_rfl)
/-- (*corpora/query.reader).next [P_query_reader] -> [] -/
def cc_query_reader_next : CC :=
  .regd [
    .op (some 3) none (.mv (.tmp 0)),
    .op (some 4) none (.mv (.tmp 0)),
    .op (some 5) none (.mv (.tmp 0)),
    .op (some 6) none (.nilck (.tmp 5)),
    .op (some 7) none (.faddr 0 (.tmp 6)),
    .op (some 8) none (.load false 1 (.tmp 7)),
    .op (some 9) none (.mv (.tmp 0)),
    .op (some 10) none (.nilck (.tmp 9)),
    .op (some 11) none (.faddr 1 (.tmp 10)),
    .op (some 12) none (.load false 1 (.tmp 11)),
    .op (some 13) none (.call f_query_lex [(.tmp 8), (.tmp 12)]),
    .op (some 2) none (.mv (.tmp 13)),
    .op (some 14) none (.ext (.tmp 2) 0),
    .op (some 15) none (.ext (.tmp 2) 1),
    .op (some 16) none (.nilck (.tmp 3)),
    .op (some 17) none (.faddr 2 (.tmp 16)),
    .frz 0 0,
    .op none none (.store (some 0) 3 (.tmp 17) (.tmp 14))] [
    .op (some 18) none (.nilck (.tmp 4)),
    .op (some 19) none (.faddr 1 (.tmp 18)),
    .op none none (.store (some 0) 1 (.tmp 19) (.tmp 15))]
def rs_query_reader_next : List CRes := []
def im_query_reader_next : List Nat := [2019000, 2017000]
theorem ok_query_reader_next : FnOk Tryz.prog f_query_reader_next im_query_reader_next cc_query_reader_next rs_query_reader_next 20 := fnOk1 mixed (by kernel_rfl)
/-- (*corpora/query.reader).peek [P_query_reader] -> [query_lexeme] -/
def cc_query_reader_peek : CC :=
  .seq (.reg [
    .op (some 2) none (.alloc ty_query_lexeme [(.int .i64 0), (.string ⟨#[]⟩), (.int .i64 0)])])
  (.keep [0, 2] [0, 2] (.seq (.regd [
    .op (some 6) none (.mv (.tmp 0)),
    .op (some 7) none (.nilck (.tmp 6)),
    .op (some 8) none (.faddr 0 (.tmp 7)),
    .op (some 9) none (.load false 1 (.tmp 8)),
    .op (some 10) none (.mv (.tmp 0)),
    .op (some 11) none (.nilck (.tmp 10)),
    .op (some 12) none (.faddr 1 (.tmp 11)),
    .op (some 13) none (.load false 1 (.tmp 12)),
    .op (some 14) none (.call f_query_lex [(.tmp 9), (.tmp 13)]),
    .op (some 5) none (.mv (.tmp 14)),
    .op (some 15) none (.ext (.tmp 5) 0),
    .op (some 16) none (.ext (.tmp 5) 1),
    .op (some 3) none (.alloc ty_query_lexeme [(.int .i64 0), (.string ⟨#[]⟩), (.int .i64 0)]),
    .frz 0 0,
    .op none none (.store (some 3) 3 (.tmp 3) (.tmp 15))] [
    .op (some 4) none (.mv (.tmp 16))])
  (.keep [2, 3] [0, 2, 3] (.seq (.reg [
    .op (some 17) none (.load true 3 (.tmp 3)),
    .op none none (.store none 3 (.tmp 2) (.tmp 17))])
  (.keep [2] [0, 2] (.ret))))))
def rs_query_reader_peek : List CRes := [.cell 2 true 3]
def im_query_reader_peek : List Nat := [2003003]
theorem ok_query_reader_peek : FnOk Tryz.prog f_query_reader_peek im_query_reader_peek cc_query_reader_peek rs_query_reader_peek 18 := fnOk1 mixed (by kernel_rfl)
/-- (*corpora/query.reader).sign [P_query_reader, string] -> [bool] -/
def cc_query_reader_sign : CC :=
  .seq (.reg [
    .op (some 4) none (.mv (.const (.bool false)))])
  (.keep [0, 1] [0] (.seq (.reg [
    .op (some 5) none (.mv (.tmp 0)),
    .op (some 6) none (.nilck (.tmp 5)),
    .op (some 7) none (.faddr 2 (.tmp 6)),
    .op (some 8) none (.faddr 0 (.tmp 7)),
    .op (some 9) none (.load false 1 (.tmp 8)),
    .op (some 10) none (.eql false false [.int] (.tmp 9) (.const (.int .i64 5))),
    .op (some 11) none (.mv (.tmp 10)),
    .op (some 12) (some (11, true)) (.mv (.tmp 0)),
    .op (some 13) (some (11, true)) (.nilck (.tmp 12)),
    .op (some 14) (some (11, true)) (.faddr 2 (.tmp 13)),
    .op (some 15) (some (11, true)) (.faddr 1 (.tmp 14)),
    .op (some 16) (some (11, true)) (.load false 1 (.tmp 15)),
    .op (some 17) (some (11, true)) (.mv (.tmp 1)),
    .op (some 18) (some (11, true)) (.eql false false [.str] (.tmp 16) (.tmp 17)),
    .op (some 19) none (.pick (.tmp 11) (.tmp 18) (.const (.bool false))),
    .op (some 4) none (.mv (.tmp 19))])
  (.keep [4] [0] (.ret))))
def rs_query_reader_sign : List CRes := [.tmp 4]
def im_query_reader_sign : List Nat := []
theorem ok_query_reader_sign : FnOk Tryz.prog f_query_reader_sign im_query_reader_sign cc_query_reader_sign rs_query_reader_sign 20 := fnOk1 mixed (by kernel_rfl)
/-- (*corpora/query.reader).take [P_query_reader, string] -> [bool] -/
def cc_query_reader_take : CC :=
  .seq (.reg [
    .op (some 4) none (.mv (.const (.bool false)))])
  (.keep [0, 1] [0] (.seq /- 1 -/ (.seq (.reg [
    .op (some 5) none (.mv (.tmp 0)),
    .op (some 6) none (.mv (.tmp 1)),
    .op (some 7) none (.call f_query_reader_sign [(.tmp 5), (.tmp 6)]),
    .op (some 8) none (.not (.tmp 7))])
  (.keep [0, 8] [0] (.ite (.tmp 8) (.seq (.reg [
      .op (some 4) none (.mv (.const (.bool false)))])
    (.keep [4] [0] (.ret)))
    (.skip))))
  (.keep [0] [0] (.seq (.reg [
    .op (some 9) none (.mv (.tmp 0)),
    .op (some 10) none (.call f_query_reader_next [(.tmp 9)])])
  (.keep [] [0] (.seq (.reg [
    .op (some 4) none (.mv (.const (.bool true)))])
  (.keep [4] [0] (.ret))))))))
def rs_query_reader_take : List CRes := [.tmp 4]
def im_query_reader_take : List Nat := []
theorem ok_query_reader_take : FnOk Tryz.prog f_query_reader_take im_query_reader_take cc_query_reader_take rs_query_reader_take 11 := fnOk1 mixed (by kernel_rfl)
/-- (*corpora/query.reader).word [P_query_reader, L_string] -> [bool] -/
def cc_query_reader_word : CC :=
  .seq (.reg [
    .op (some 4) none (.mv (.const (.bool false)))])
  (.keep [0, 1] [0] (.seq (.reg [
    .op (some 5) none (.mv (.tmp 0)),
    .op (some 6) none (.nilck (.tmp 5)),
    .op (some 7) none (.faddr 2 (.tmp 6)),
    .op (some 8) none (.faddr 0 (.tmp 7)),
    .op (some 9) none (.load false 1 (.tmp 8)),
    .op (some 10) none (.eql false false [.int] (.tmp 9) (.const (.int .i64 2))),
    .op (some 11) none (.mv (.tmp 10)),
    .op (some 12) (some (11, true)) (.mv (.tmp 1)),
    .op (some 13) (some (11, true)) (.mv (.tmp 0)),
    .op (some 14) (some (11, true)) (.nilck (.tmp 13)),
    .op (some 15) (some (11, true)) (.faddr 2 (.tmp 14)),
    .op (some 16) (some (11, true)) (.faddr 1 (.tmp 15)),
    .op (some 17) (some (11, true)) (.load false 1 (.tmp 16)),
    .op (some 18) (some (11, true)) (.call f_slices_Contains_string [(.tmp 12), (.tmp 17)]),
    .op (some 19) none (.pick (.tmp 11) (.tmp 18) (.const (.bool false))),
    .op (some 4) none (.mv (.tmp 19))])
  (.keep [4] [0] (.ret))))
def rs_query_reader_word : List CRes := [.tmp 4]
def im_query_reader_word : List Nat := []
theorem ok_query_reader_word : FnOk Tryz.prog f_query_reader_word im_query_reader_word cc_query_reader_word rs_query_reader_word 20 := fnOk1 mixed (by kernel_rfl)
-- query_reader_must range i=8 n=7 c=9 i2=18 id=0: live [0:r, 6:] changed [] res [0]
/-- (*corpora/query.reader).must [P_query_reader, L_string] -> [] -/
def cc_query_reader_must : CC :=
  .seq (.reg [
    .op (some 6) none (.mv (.tmp 1)),
    .op (some 7) none (.len (.tmp 6)),
    .op (some 8) none (.mv (.const (.int .i64 0)))])
  (.keep [0, 6, 7, 8] [0] (rangeCC 0 8 7 9 1 (.seq (.reg [
      .op (some 10) none (.iaddr 1 (.tmp 6) (.tmp 8)),
      .op (some 11) none (.load false 1 (.tmp 10)),
      .op (some 5) none (.mv (.tmp 11))])
    (.keep [0, 5, 6, 7, 8] [0] (.seq (.reg [
      .op (some 12) none (.mv (.tmp 0)),
      .op (some 13) none (.mv (.tmp 5)),
      .op (some 14) none (.call f_query_reader_take [(.tmp 12), (.tmp 13)]),
      .op (some 15) none (.not (.tmp 14))])
    (.keep [0, 6, 7, 8, 15] [0] (.ite (.tmp 15) (.reg [
        .op (some 16) none (.mv (.tmp 0)),
        .op (some 17) none (.call f_query_reader_wrong [(.tmp 16)])])
      (.skip)))))) 18))
def rs_query_reader_must : List CRes := []
def im_query_reader_must : List Nat := []
theorem ok_query_reader_must : FnOk Tryz.prog f_query_reader_must im_query_reader_must cc_query_reader_must rs_query_reader_must 19 := fnOk1 mixed (by kernel_rfl)
/-- (*corpora/query.reader).text [P_query_reader, int] -> [string] -/
def cc_query_reader_text : CC :=
  .seq (.reg [
    .op (some 4) none (.mv (.const (.string ⟨#[]⟩)))])
  (.keep [0, 1] [0] (.seq /- 1 -/ (.seq (.reg [
    .op (some 6) none (.mv (.tmp 0)),
    .op (some 7) none (.nilck (.tmp 6)),
    .op (some 8) none (.faddr 2 (.tmp 7)),
    .op (some 9) none (.faddr 0 (.tmp 8)),
    .op (some 10) none (.load false 1 (.tmp 9)),
    .op (some 11) none (.mv (.tmp 1)),
    .op (some 12) none (.eql true false [.int] (.tmp 10) (.tmp 11))])
  (.keep [0, 12] [0] (.ite (.tmp 12) (.reg [
      .op (some 13) none (.mv (.tmp 0)),
      .op (some 14) none (.call f_query_reader_wrong [(.tmp 13)])])
    (.skip))))
  (.keep [0] [0] (.seq (.reg [
    .op (some 15) none (.mv (.tmp 0)),
    .op (some 16) none (.nilck (.tmp 15)),
    .op (some 17) none (.faddr 2 (.tmp 16)),
    .op (some 18) none (.faddr 1 (.tmp 17)),
    .op (some 19) none (.load false 1 (.tmp 18)),
    .op (some 5) none (.mv (.tmp 19))])
  (.keep [0, 5] [0] (.seq (.reg [
    .op (some 20) none (.mv (.tmp 0)),
    .op (some 21) none (.call f_query_reader_next [(.tmp 20)])])
  (.keep [5] [0] (.seq (.reg [
    .op (some 22) none (.mv (.tmp 5)),
    .op (some 4) none (.mv (.tmp 22))])
  (.keep [4] [0] (.ret))))))))))
def rs_query_reader_text : List CRes := [.tmp 4]
def im_query_reader_text : List Nat := []
theorem ok_query_reader_text : FnOk Tryz.prog f_query_reader_text im_query_reader_text cc_query_reader_text rs_query_reader_text 23 := fnOk1 mixed (by kernel_rfl)
/-- (*corpora/query.reader).name [P_query_reader] -> [string] -/
def cc_query_reader_name : CC :=
  .seq (.reg [
    .op (some 2) none (.mv (.const (.string ⟨#[]⟩)))])
  (.keep [0] [0] (.seq (.reg [
    .op (some 3) none (.mv (.tmp 0)),
    .op (some 4) none (.call f_query_reader_text [(.tmp 3), (.const (.int .i64 2))]),
    .op (some 2) none (.mv (.tmp 4))])
  (.keep [2] [0] (.ret))))
def rs_query_reader_name : List CRes := [.tmp 2]
def im_query_reader_name : List Nat := []
theorem ok_query_reader_name : FnOk Tryz.prog f_query_reader_name im_query_reader_name cc_query_reader_name rs_query_reader_name 5 := fnOk1 mixed (by kernel_rfl)
/-- (*corpora/query.reader).fold [P_query_reader] -> [bool] -/
def cc_query_reader_fold : CC :=
  .seq (.reg [
    .op (some 2) none (.mv (.const (.bool false)))])
  (.keep [0] [0] (.seq (.reg [
    .op (some 3) none (.mv (.tmp 0)),
    .op (some 4) none (.call f_query_reader_take [(.tmp 3), (.const (.string ⟨#[37, 99]⟩))]),
    .op (some 2) none (.mv (.tmp 4))])
  (.keep [2] [0] (.ret))))
def rs_query_reader_fold : List CRes := [.tmp 2]
def im_query_reader_fold : List Nat := []
theorem ok_query_reader_fold : FnOk Tryz.prog f_query_reader_fold im_query_reader_fold cc_query_reader_fold rs_query_reader_fold 5 := fnOk1 mixed (by kernel_rfl)
/-- corpora/query.patterns [int, L_Pattern] -> [Pattern] -/
def cc_query_patterns : CC :=
  .seq (.reg [
    .op (some 4) none (.alloc ty_Pattern [(.int .i64 0), (.int .i64 0), (.string ⟨#[]⟩), (.string ⟨#[]⟩), (.string ⟨#[]⟩), (.string ⟨#[]⟩), (.bool false), (.slice none 0 0), (.string ⟨#[]⟩), (.string ⟨#[]⟩), (.int .i64 0), (.int .i64 0), (.slice none 0 0)])])
  (.keep [0, 1, 4] [4] (.seq /- 1 -/ (.seq (.reg [
    .op (some 5) none (.mv (.tmp 1)),
    .op (some 6) none (.len (.tmp 5)),
    .op (some 7) none (.eql false false [.int] (.tmp 6) (.const (.int .i64 1)))])
  (.keep [0, 1, 4, 7] [4] (.ite (.tmp 7) (.seq (.reg [
      .op (some 8) none (.mv (.tmp 1)),
      .op (some 9) none (.iaddr 13 (.tmp 8) (.const (.int .i64 0))),
      .op (some 10) none (.load true 13 (.tmp 9)),
      .op none none (.store none 13 (.tmp 4) (.tmp 10))])
    (.keep [4] [4] (.ret)))
    (.skip))))
  (.keep [0, 1, 4] [4] (.seq (.reg [
    .op (some 11) none (.mv (.tmp 0)),
    .op (some 12) none (.mv (.tmp 1)),
    .op (some 13) none (.build [(.int .i64 0), (.int .i64 0), (.string ⟨#[]⟩), (.string ⟨#[]⟩), (.string ⟨#[]⟩), (.string ⟨#[]⟩), (.bool false), (.slice none 0 0), (.string ⟨#[]⟩), (.string ⟨#[]⟩), (.int .i64 0), (.int .i64 0), (.slice none 0 0)] [(0, 1, (.tmp 11)), (12, 1, (.tmp 12))]),
    .op none none (.store none 13 (.tmp 4) (.tmp 13))])
  (.keep [4] [4] (.ret))))))
def rs_query_patterns : List CRes := [.cell 4 true 13]
def im_query_patterns : List Nat := []
theorem ok_query_patterns : FnOk Tryz.prog f_query_patterns im_query_patterns cc_query_patterns rs_query_patterns 14 := fnOk1 mixed (by kernel_rfl)
/-- corpora/query.conds [int, L_Cond] -> [Cond] -/
def cc_query_conds : CC :=
  .seq (.reg [
    .op (some 4) none (.alloc ty_Cond [(.int .i64 0), (.string ⟨#[]⟩), (.string ⟨#[]⟩), (.string ⟨#[]⟩), (.string ⟨#[]⟩), (.bool false), (.slice none 0 0)])])
  (.keep [0, 1, 4] [4] (.seq /- 1 -/ (.seq (.reg [
    .op (some 5) none (.mv (.tmp 1)),
    .op (some 6) none (.len (.tmp 5)),
    .op (some 7) none (.eql false false [.int] (.tmp 6) (.const (.int .i64 1)))])
  (.keep [0, 1, 4, 7] [4] (.ite (.tmp 7) (.seq (.reg [
      .op (some 8) none (.mv (.tmp 1)),
      .op (some 9) none (.iaddr 7 (.tmp 8) (.const (.int .i64 0))),
      .op (some 10) none (.load true 7 (.tmp 9)),
      .op none none (.store none 7 (.tmp 4) (.tmp 10))])
    (.keep [4] [4] (.ret)))
    (.skip))))
  (.keep [0, 1, 4] [4] (.seq (.reg [
    .op (some 11) none (.mv (.tmp 0)),
    .op (some 12) none (.mv (.tmp 1)),
    .op (some 13) none (.build [(.int .i64 0), (.string ⟨#[]⟩), (.string ⟨#[]⟩), (.string ⟨#[]⟩), (.string ⟨#[]⟩), (.bool false), (.slice none 0 0)] [(0, 1, (.tmp 11)), (6, 1, (.tmp 12))]),
    .op none none (.store none 7 (.tmp 4) (.tmp 13))])
  (.keep [4] [4] (.ret))))))
def rs_query_conds : List CRes := [.cell 4 true 7]
def im_query_conds : List Nat := []
theorem ok_query_conds : FnOk Tryz.prog f_query_conds im_query_conds cc_query_conds rs_query_conds 14 := fnOk1 mixed (by kernel_rfl)
/-- strings.HasPrefix [string, string] -> [bool] -/
def cc_strings_HasPrefix : CC :=
  .seq (.reg [
    .op (some 4) none (.mv (.const (.bool false)))])
  (.keep [0, 1] [] (.seq (.reg [
    .op (some 5) none (.mv (.tmp 0)),
    .op (some 6) none (.mv (.tmp 1)),
    .op (some 7) none (.call f_internal_stringslite_HasPrefix [(.tmp 5), (.tmp 6)]),
    .op (some 4) none (.mv (.tmp 7))])
  (.keep [4] [] (.ret))))
def rs_strings_HasPrefix : List CRes := [.tmp 4]
def im_strings_HasPrefix : List Nat := []
theorem ok_strings_HasPrefix : FnOk Tryz.prog f_strings_HasPrefix im_strings_HasPrefix cc_strings_HasPrefix rs_strings_HasPrefix 8 := fnOk1 mixed (by kernel_rfl)
/-- internal/stringslite.HasPrefix [string, string] -> [bool] -/
def cc_internal_stringslite_HasPrefix : CC :=
  .seq (.reg [
    .op (some 4) none (.mv (.const (.bool false)))])
  (.keep [0, 1] [] (.seq (.reg [
    .op (some 5) none (.mv (.tmp 0)),
    .op (some 6) none (.slen (.tmp 5)),
    .op (some 7) none (.mv (.tmp 1)),
    .op (some 8) none (.slen (.tmp 7)),
    .op (some 9) none (.cmp .geq (.tmp 6) (.tmp 8)),
    .op (some 10) none (.mv (.tmp 9)),
    .op (some 11) (some (10, true)) (.mv (.tmp 0)),
    .op (some 12) (some (10, true)) (.mv (.tmp 1)),
    .op (some 13) (some (10, true)) (.slen (.tmp 12)),
    .op (some 14) (some (10, true)) (.sslice (.tmp 11) none (some (.tmp 13))),
    .op (some 15) (some (10, true)) (.mv (.tmp 1)),
    .op (some 16) (some (10, true)) (.eql false false [.str] (.tmp 14) (.tmp 15)),
    .op (some 17) none (.pick (.tmp 10) (.tmp 16) (.const (.bool false))),
    .op (some 4) none (.mv (.tmp 17))])
  (.keep [4] [] (.ret))))
def rs_internal_stringslite_HasPrefix : List CRes := [.tmp 4]
def im_internal_stringslite_HasPrefix : List Nat := []
theorem ok_internal_stringslite_HasPrefix : FnOk Tryz.prog f_internal_stringslite_HasPrefix im_internal_stringslite_HasPrefix cc_internal_stringslite_HasPrefix rs_internal_stringslite_HasPrefix 18 := fnOk1 mixed (by kernel_rfl)
/-- strings.IndexByte [string, uint8] -> [int] -/
def cc_strings_IndexByte : CC :=
  .seq (.reg [
    .op (some 4) none (.mv (.const (.int .i64 0)))])
  (.keep [0, 1] [] (.seq (.reg [
    .op (some 5) none (.mv (.tmp 0)),
    .op (some 6) none (.mv (.tmp 1)),
    .op (some 7) none (.call f_internal_stringslite_IndexByte [(.tmp 5), (.tmp 6)]),
    .op (some 4) none (.mv (.tmp 7))])
  (.keep [4] [] (.ret))))
def rs_strings_IndexByte : List CRes := [.tmp 4]
def im_strings_IndexByte : List Nat := []
theorem ok_strings_IndexByte : FnOk Tryz.prog f_strings_IndexByte im_strings_IndexByte cc_strings_IndexByte rs_strings_IndexByte 8 := fnOk1 mixed (by kernel_rfl)
-- internal_bytealg_IndexByteString: no body
/-- slices.Contains[[]string,string] [L_string, string] -> [bool] -/
def cc_slices_Contains_string : CC :=
  .seq (.reg [
    .op (some 4) none (.mv (.const (.bool false)))])
  (.keep [0, 1] [] (.seq (.reg [
    .op (some 5) none (.mv (.tmp 0)),
    .op (some 6) none (.mv (.tmp 1)),
    .op (some 7) none (.call f_slices_Index_string [(.tmp 5), (.tmp 6)]),
    .op (some 8) none (.cmp .geq (.tmp 7) (.const (.int .i64 0))),
    .op (some 4) none (.mv (.tmp 8))])
  (.keep [4] [] (.ret))))
def rs_slices_Contains_string : List CRes := [.tmp 4]
def im_slices_Contains_string : List Nat := []
theorem ok_slices_Contains_string : FnOk Tryz.prog f_slices_Contains_string im_slices_Contains_string cc_slices_Contains_string rs_slices_Contains_string 9 := fnOk1 mixed (by kernel_rfl)
-- slices_Index_string range i=8 n=7 c=9 i2=18 id=0: live [0:s, 1:v] changed [] res []
/-- slices.Index[[]string,string] [L_string, string] -> [int] -/
def cc_slices_Index_string : CC :=
  .seq (.reg [
    .op (some 4) none (.mv (.const (.int .i64 0)))])
  (.keep [0, 1] [] (.seq /- 1 -/ (.seq (.reg [
    .op (some 6) none (.mv (.tmp 0)),
    .op (some 7) none (.len (.tmp 6)),
    .op (some 8) none (.mv (.const (.int .i64 0)))])
  (.keep [0, 1, 7, 8] [] (rangeCC 0 8 7 9 1 (.seq (.reg [
      .op (some 10) none (.mv (.tmp 8)),
      .op (some 5) none (.mv (.tmp 10))])
    (.keep [0, 1, 5, 7, 8] [] (.seq (.reg [
      .op (some 11) none (.mv (.tmp 1)),
      .op (some 12) none (.mv (.tmp 0)),
      .op (some 13) none (.mv (.tmp 5)),
      .op (some 14) none (.iaddr 1 (.tmp 12) (.tmp 13)),
      .op (some 15) none (.load false 1 (.tmp 14)),
      .op (some 16) none (.eql false false [.str] (.tmp 11) (.tmp 15))])
    (.keep [0, 1, 5, 7, 8, 16] [] (.ite (.tmp 16) (.seq (.reg [
        .op (some 17) none (.mv (.tmp 5)),
        .op (some 4) none (.mv (.tmp 17))])
      (.keep [4] [] (.ret)))
      (.skip)))))) 18)))
  (.keep [] [] (.seq (.reg [
    .op (some 4) none (.mv (.const (.int .i64 (-1))))])
  (.keep [4] [] (.ret))))))
def rs_slices_Index_string : List CRes := [.tmp 4]
def im_slices_Index_string : List Nat := []
theorem ok_slices_Index_string : FnOk Tryz.prog f_slices_Index_string im_slices_Index_string cc_slices_Index_string rs_slices_Index_string 19 := fnOk1 mixed (by kernel_rfl)
-- query_reader_alt while id=0: live [0:r, 1:inner, 4:, 5:l] changed [5] res [0, 4, 9, 17]
/-- (*corpora/query.reader).alt [P_query_reader, bool] -> [Pattern] -/
def cc_query_reader_alt : CC :=
  .seq (.reg [
    .op (some 4) none (.alloc ty_Pattern [(.int .i64 0), (.int .i64 0), (.string ⟨#[]⟩), (.string ⟨#[]⟩), (.string ⟨#[]⟩), (.string ⟨#[]⟩), (.bool false), (.slice none 0 0), (.string ⟨#[]⟩), (.string ⟨#[]⟩), (.int .i64 0), (.int .i64 0), (.slice none 0 0)])])
  (.keep [0, 1, 4] [0, 4, 9, 17] (.seq (.reg [
    .op (some 6) none (.mv (.tmp 0)),
    .op (some 7) none (.mv (.tmp 1)),
    .op (some 8) none (.call f_query_reader_seq [(.tmp 6), (.tmp 7)]),
    .op (some 9) none (.mslice ty_Pattern 13 [(.tmp 8)]),
    .op (some 5) none (.mv (.tmp 9))])
  (.keep [0, 1, 4, 5] [0, 4, 9, 17] (.seq /- 2 -/ (.block 0 (.loop 1 (.seq /- 3 -/ (.seq (.reg [
        .op (some 10) none (.mv (.tmp 0)),
        .op (some 11) none (.call f_query_reader_take [(.tmp 10), (.const (.string ⟨#[124]⟩))])])
      (.keep [0, 1, 4, 5, 11] [0, 4, 9, 17] (.ite (.tmp 11) (.skip)
        (.exit 0))))
      (.keep [0, 1, 4, 5] [0, 4, 9, 17] (.block 1 (.reg [
          .op (some 12) none (.mv (.tmp 5)),
          .op (some 13) none (.mv (.tmp 0)),
          .op (some 14) none (.mv (.tmp 1)),
          .op (some 15) none (.call f_query_reader_seq [(.tmp 13), (.tmp 14)]),
          .op (some 16) none (.bslice ty_Pattern 13 [(.tmp 15)]),
          .op (some 17) none (.append (some 9) ty_Pattern 13 184 (.tmp 12) (.tmp 16)),
          .op (some 5) none (.mv (.tmp 17))]))))))
  (.keep [4, 5] [0, 4, 9, 17] (.seq (.reg [
    .op (some 18) none (.mv (.tmp 5)),
    .frz 18 13,
    .op (some 19) none (.call f_query_patterns [(.const (.int .i64 5)), (.tmp 18)]),
    .op none none (.store none 13 (.tmp 4) (.tmp 19))])
  (.keep [4] [0, 4, 9, 17] (.ret))))))))
def rs_query_reader_alt : List CRes := [.cell 4 true 13]
def im_query_reader_alt : List Nat := [100009, 1017009]
theorem ok_query_reader_alt : FnOk Tryz.prog f_query_reader_alt im_query_reader_alt cc_query_reader_alt rs_query_reader_alt 20 := fnOk1 mixed (by kernel_rfl)
/-- (*corpora/query.reader).begins [P_query_reader, bool] -> [bool] -/
def cc_query_reader_begins : CC :=
  .seq (.reg [
    .op (some 4) none (.mv (.const (.bool false)))])
  (.keep [0, 1] [0] (.seq /- 1 -/ (.seq (.reg [
    .op (some 6) none (.mv (.tmp 0)),
    .op (some 7) none (.nilck (.tmp 6)),
    .op (some 8) none (.faddr 2 (.tmp 7)),
    .op (some 9) none (.faddr 0 (.tmp 8)),
    .op (some 10) none (.load false 1 (.tmp 9))])
  (.keep [0, 1, 10] [0] (.block 0 (.seq (.reg [
      .op (some 12) none (.eql false false [.int] (.tmp 10) (.const (.int .i64 4))),
      .op (some 11) none (.mv (.tmp 12))])
    (.keep [0, 1, 10, 11] [0] (.ite (.tmp 11) (.seq (.reg [
        .op (some 4) none (.mv (.const (.bool true)))])
      (.keep [4] [0] (.ret)))
      (.seq (.reg [
        .op (some 14) none (.eql false false [.int] (.tmp 10) (.const (.int .i64 2))),
        .op (some 13) none (.mv (.tmp 14))])
      (.keep [0, 1, 13] [0] (.ite (.tmp 13) (.seq (.reg [
          .op (some 15) none (.mv (.tmp 0)),
          .op (some 16) none (.call f_query_reader_peek [(.tmp 15)]),
          .op (some 5) none (.alloc ty_query_lexeme [(.int .i64 0), (.string ⟨#[]⟩), (.int .i64 0)]),
          .op none none (.store none 3 (.tmp 5) (.tmp 16))])
        (.keep [0, 1, 5] [0, 5] (.seq (.reg [
          .op (some 17) none (.mv (.tmp 1)),
          .op (some 18) none (.mv (.tmp 17)),
          .op (some 19) (some (18, false)) (.mv (.tmp 0)),
          .op (some 20) (some (18, false)) (.bslice ty_string 1 [(.const (.string ⟨#[119, 105, 116, 104, 105, 110]⟩)), (.const (.string ⟨#[99, 111, 110, 116, 97, 105, 110, 105, 110, 103]⟩)), (.const (.string ⟨#[111, 118, 101, 114, 108, 97, 112, 112, 105, 110, 103]⟩)), (.const (.string ⟨#[115, 116, 114, 97, 116, 101, 103, 121]⟩))]),
          .op (some 21) (some (18, false)) (.call f_query_reader_word [(.tmp 19), (.tmp 20)]),
          .op (some 22) (some (18, false)) (.not (.tmp 21)),
          .op (some 23) none (.pick (.tmp 18) (.const (.bool true)) (.tmp 22)),
          .op (some 24) none (.mv (.tmp 23)),
          .op (some 25) (some (24, false)) (.faddr 0 (.tmp 5)),
          .op (some 26) (some (24, false)) (.load false 1 (.tmp 25)),
          .op (some 27) (some (24, false)) (.eql false false [.int] (.tmp 26) (.const (.int .i64 5))),
          .op (some 28) (some (24, false)) (.mv (.tmp 27)),
          .op (some 29) (some (28, true)) (.faddr 1 (.tmp 5)),
          .op (some 30) (some (28, true)) (.load false 1 (.tmp 29)),
          .op (some 31) (some (28, true)) (.eql false false [.str] (.tmp 30) (.const (.string ⟨#[58]⟩))),
          .op (some 32) (some (24, false)) (.pick (.tmp 28) (.tmp 31) (.const (.bool false))),
          .op (some 33) none (.pick (.tmp 24) (.const (.bool true)) (.tmp 32)),
          .op (some 4) none (.mv (.tmp 33))])
        (.keep [4] [0] (.ret)))))
        (.skip))))))))))
  (.keep [0] [0] (.seq (.reg [
    .op (some 34) none (.mv (.tmp 0)),
    .op (some 35) none (.call f_query_reader_sign [(.tmp 34), (.const (.string ⟨#[91]⟩))]),
    .op (some 36) none (.mv (.tmp 35)),
    .op (some 37) (some (36, false)) (.mv (.tmp 0)),
    .op (some 38) (some (36, false)) (.call f_query_reader_sign [(.tmp 37), (.const (.string ⟨#[60]⟩))]),
    .op (some 39) none (.pick (.tmp 36) (.const (.bool true)) (.tmp 38)),
    .op (some 40) none (.mv (.tmp 39)),
    .op (some 41) (some (40, false)) (.mv (.tmp 0)),
    .op (some 42) (some (40, false)) (.call f_query_reader_sign [(.tmp 41), (.const (.string ⟨#[60, 47]⟩))]),
    .op (some 43) none (.pick (.tmp 40) (.const (.bool true)) (.tmp 42)),
    .op (some 44) none (.mv (.tmp 43)),
    .op (some 45) (some (44, false)) (.mv (.tmp 0)),
    .op (some 46) (some (44, false)) (.call f_query_reader_sign [(.tmp 45), (.const (.string ⟨#[40]⟩))]),
    .op (some 47) none (.pick (.tmp 44) (.const (.bool true)) (.tmp 46)),
    .op (some 4) none (.mv (.tmp 47))])
  (.keep [4] [0] (.ret))))))
def rs_query_reader_begins : List CRes := [.tmp 4]
def im_query_reader_begins : List Nat := []
theorem ok_query_reader_begins : FnOk Tryz.prog f_query_reader_begins im_query_reader_begins cc_query_reader_begins rs_query_reader_begins 48 := fnOk1 mixed (by kernel_rfl)
-- query_reader_seq while id=0: live [0:r, 1:inner, 4:, 5:l] changed [5] res [0, 4, 8, 16]
/-- (*corpora/query.reader).seq [P_query_reader, bool] -> [Pattern] -/
def cc_query_reader_seq : CC :=
  .seq (.reg [
    .op (some 4) none (.alloc ty_Pattern [(.int .i64 0), (.int .i64 0), (.string ⟨#[]⟩), (.string ⟨#[]⟩), (.string ⟨#[]⟩), (.string ⟨#[]⟩), (.bool false), (.slice none 0 0), (.string ⟨#[]⟩), (.string ⟨#[]⟩), (.int .i64 0), (.int .i64 0), (.slice none 0 0)])])
  (.keep [0, 1, 4] [0, 4, 8, 16] (.seq (.reg [
    .op (some 6) none (.mv (.tmp 0)),
    .op (some 7) none (.call f_query_reader_rep [(.tmp 6)]),
    .op (some 8) none (.mslice ty_Pattern 13 [(.tmp 7)]),
    .op (some 5) none (.mv (.tmp 8))])
  (.keep [0, 1, 4, 5] [0, 4, 8, 16] (.seq /- 2 -/ (.block 0 (.loop 1 (.seq /- 3 -/ (.seq (.reg [
        .op (some 9) none (.mv (.tmp 0)),
        .op (some 10) none (.mv (.tmp 1)),
        .op (some 11) none (.call f_query_reader_begins [(.tmp 9), (.tmp 10)])])
      (.keep [0, 1, 4, 5, 11] [0, 4, 8, 16] (.ite (.tmp 11) (.skip)
        (.exit 0))))
      (.keep [0, 1, 4, 5] [0, 4, 8, 16] (.block 1 (.reg [
          .op (some 12) none (.mv (.tmp 5)),
          .op (some 13) none (.mv (.tmp 0)),
          .op (some 14) none (.call f_query_reader_rep [(.tmp 13)]),
          .op (some 15) none (.bslice ty_Pattern 13 [(.tmp 14)]),
          .op (some 16) none (.append (some 8) ty_Pattern 13 184 (.tmp 12) (.tmp 15)),
          .op (some 5) none (.mv (.tmp 16))]))))))
  (.keep [4, 5] [0, 4, 8, 16] (.seq (.reg [
    .op (some 17) none (.mv (.tmp 5)),
    .frz 17 13,
    .op (some 18) none (.call f_query_patterns [(.const (.int .i64 4)), (.tmp 17)]),
    .op none none (.store none 13 (.tmp 4) (.tmp 18))])
  (.keep [4] [0, 4, 8, 16] (.ret))))))))
def rs_query_reader_seq : List CRes := [.cell 4 true 13]
def im_query_reader_seq : List Nat := [100008, 1016008]
theorem ok_query_reader_seq : FnOk Tryz.prog f_query_reader_seq im_query_reader_seq cc_query_reader_seq rs_query_reader_seq 19 := fnOk1 mixed (by kernel_rfl)
-- query_reader_rep while id=0: live [0:r, 2:, 3:p] changed [] res [0, 2, 3]
/-- (*corpora/query.reader).rep [P_query_reader] -> [Pattern] -/
def cc_query_reader_rep : CC :=
  .seq (.reg [
    .op (some 2) none (.alloc ty_Pattern [(.int .i64 0), (.int .i64 0), (.string ⟨#[]⟩), (.string ⟨#[]⟩), (.string ⟨#[]⟩), (.string ⟨#[]⟩), (.bool false), (.slice none 0 0), (.string ⟨#[]⟩), (.string ⟨#[]⟩), (.int .i64 0), (.int .i64 0), (.slice none 0 0)])])
  (.keep [0, 2] [0, 2] (.seq (.reg [
    .op (some 7) none (.mv (.tmp 0)),
    .op (some 8) none (.call f_query_reader_item [(.tmp 7)]),
    .op (some 3) none (.alloc ty_Pattern [(.int .i64 0), (.int .i64 0), (.string ⟨#[]⟩), (.string ⟨#[]⟩), (.string ⟨#[]⟩), (.string ⟨#[]⟩), (.bool false), (.slice none 0 0), (.string ⟨#[]⟩), (.string ⟨#[]⟩), (.int .i64 0), (.int .i64 0), (.slice none 0 0)]),
    .op none none (.store none 13 (.tmp 3) (.tmp 8))])
  (.keep [0, 2, 3] [0, 2, 3] (.block 0 (.loop 1 (.block 1 (.seq (.reg [
          .op (some 4) none (.mv (.const (.int .i64 0))),
          .op (some 5) none (.mv (.const (.int .i64 (-1))))])
        (.keep [0, 2, 3, 4, 5] [0, 2, 3] (.seq /- 3 -/ (.seq (.reg [
          .op (some 9) none (.mv (.tmp 0)),
          .op (some 10) none (.nilck (.tmp 9)),
          .op (some 11) none (.faddr 2 (.tmp 10)),
          .op (some 12) none (.faddr 2 (.tmp 11)),
          .op (some 13) none (.load false 1 (.tmp 12)),
          .op (some 6) none (.mv (.tmp 13))])
        (.keep [0, 2, 3, 4, 5, 6] [0, 2, 3] (.block 2 (.seq (.reg [
            .op (some 16) none (.mv (.tmp 0)),
            .op (some 17) none (.call f_query_reader_take [(.tmp 16), (.const (.string ⟨#[63]⟩))]),
            .op (some 15) none (.mv (.tmp 17))])
          (.keep [0, 2, 3, 4, 5, 6, 15] [0, 2, 3] (.ite (.tmp 15) (.reg [
              .op (some 5) none (.mv (.const (.int .i64 1)))])
            (.seq (.reg [
              .op (some 19) none (.mv (.tmp 0)),
              .op (some 20) none (.call f_query_reader_take [(.tmp 19), (.const (.string ⟨#[42]⟩))]),
              .op (some 18) none (.mv (.tmp 20))])
            (.keep [0, 2, 3, 4, 5, 6, 18] [0, 2, 3] (.ite (.tmp 18) (.skip)
              (.seq (.reg [
                .op (some 22) none (.mv (.tmp 0)),
                .op (some 23) none (.call f_query_reader_take [(.tmp 22), (.const (.string ⟨#[43]⟩))]),
                .op (some 21) none (.mv (.tmp 23))])
              (.keep [0, 2, 3, 5, 6, 21] [0, 2, 3] (.ite (.tmp 21) (.reg [
                  .op (some 4) none (.mv (.const (.int .i64 1)))])
                (.seq (.reg [
                  .op (some 25) none (.mv (.tmp 0)),
                  .op (some 26) none (.call f_query_reader_take [(.tmp 25), (.const (.string ⟨#[123]⟩))]),
                  .op (some 24) none (.mv (.tmp 26))])
                (.keep [0, 2, 3, 6, 24] [0, 2, 3] (.ite (.tmp 24) (.seq (.reg [
                    .op (some 27) none (.mv (.tmp 0)),
                    .op (some 28) none (.mv (.tmp 6)),
                    .op (some 29) none (.call f_query_reader_number [(.tmp 27), (.const (.int .i64 16)), (.tmp 28)]),
                    .op (some 4) none (.mv (.tmp 29))])
                  (.keep [0, 2, 3, 4, 6] [0, 2, 3] (.seq (.reg [
                    .op (some 30) none (.mv (.tmp 4)),
                    .op (some 5) none (.mv (.tmp 30))])
                  (.keep [0, 2, 3, 4, 5, 6] [0, 2, 3] (.seq /- 11 -/ (.seq (.reg [
                    .op (some 31) none (.mv (.tmp 0)),
                    .op (some 32) none (.call f_query_reader_take [(.tmp 31), (.const (.string ⟨#[44]⟩))])])
                  (.keep [0, 2, 3, 4, 5, 6, 32] [0, 2, 3] (.ite (.tmp 32) (.seq (.reg [
                      .op (some 5) none (.mv (.const (.int .i64 (-1))))])
                    (.keep [0, 2, 3, 4, 5, 6] [0, 2, 3] (.seq (.reg [
                      .op (some 33) none (.mv (.tmp 0)),
                      .op (some 34) none (.call f_query_reader_sign [(.tmp 33), (.const (.string ⟨#[125]⟩))]),
                      .op (some 35) none (.not (.tmp 34))])
                    (.keep [0, 2, 3, 4, 5, 6, 35] [0, 2, 3] (.ite (.tmp 35) (.seq (.reg [
                        .op (some 36) none (.mv (.tmp 0)),
                        .op (some 37) none (.mv (.tmp 6)),
                        .op (some 38) none (.call f_query_reader_number [(.tmp 36), (.const (.int .i64 16)), (.tmp 37)]),
                        .op (some 5) none (.mv (.tmp 38))])
                      (.keep [0, 2, 3, 4, 5, 6] [0, 2, 3] (.seq (.reg [
                        .op (some 39) none (.mv (.tmp 5)),
                        .op (some 40) none (.mv (.tmp 4)),
                        .op (some 41) none (.cmp .lss (.tmp 39) (.tmp 40))])
                      (.keep [0, 2, 3, 4, 5, 6, 41] [0, 2, 3] (.ite (.tmp 41) (.reg [
                          .op (some 42) none (.mv (.tmp 6)),
                          .op (some 43) none (.build [(.int .i64 0), (.int .i64 0)] [(0, 1, (.tmp 42)), (1, 1, (.const (.int .i64 8)))]),
                          .op (some 44) none (.bad),
                          .op none none (.bad)])
                        (.skip))))))
                      (.skip))))))
                    (.skip))))
                  (.keep [0, 2, 3, 4, 5] [0, 2, 3] (.reg [
                    .op (some 45) none (.mv (.tmp 0)),
                    .op (some 46) none (.bslice ty_string 1 [(.const (.string ⟨#[125]⟩))]),
                    .op (some 47) none (.call f_query_reader_must [(.tmp 45), (.tmp 46)])])))))))
                  (.seq (.reg [
                    .op (some 14) none (.load true 13 (.tmp 3)),
                    .op none none (.store none 13 (.tmp 2) (.tmp 14))])
                  (.keep [2] [0, 2] (.ret))))))))))))))))))
        (.keep [0, 2, 3, 4, 5] [0, 2, 3] (.reg [
          .op (some 48) none (.mv (.tmp 4)),
          .op (some 49) none (.mv (.tmp 5)),
          .op (some 50) none (.load true 13 (.tmp 3)),
          .op (some 51) none (.bslice ty_Pattern 13 [(.tmp 50)]),
          .op (some 52) none (.build [(.int .i64 0), (.int .i64 0), (.string ⟨#[]⟩), (.string ⟨#[]⟩), (.string ⟨#[]⟩), (.string ⟨#[]⟩), (.bool false), (.slice none 0 0), (.string ⟨#[]⟩), (.string ⟨#[]⟩), (.int .i64 0), (.int .i64 0), (.slice none 0 0)] [(0, 1, (.const (.int .i64 6))), (10, 1, (.tmp 48)), (11, 1, (.tmp 49)), (12, 1, (.tmp 51))]),
          .op none none (.store none 13 (.tmp 3) (.tmp 52))])))))))))))
def rs_query_reader_rep : List CRes := [.cell 2 true 13]
def im_query_reader_rep : List Nat := []
theorem ok_query_reader_rep : FnOk Tryz.prog f_query_reader_rep im_query_reader_rep cc_query_reader_rep rs_query_reader_rep 53 := fnOk1 mixed (by kernel_rfl)
/-- (*corpora/query.reader).item [P_query_reader] -> [Pattern] -/
def cc_query_reader_item : CC :=
  .seq (.reg [
    .op (some 2) none (.alloc ty_Pattern [(.int .i64 0), (.int .i64 0), (.string ⟨#[]⟩), (.string ⟨#[]⟩), (.string ⟨#[]⟩), (.string ⟨#[]⟩), (.bool false), (.slice none 0 0), (.string ⟨#[]⟩), (.string ⟨#[]⟩), (.int .i64 0), (.int .i64 0), (.slice none 0 0)])])
  (.keep [0, 2] [0, 2] (.seq /- 1 -/ (.block 0 (.seq (.reg [
      .op (some 8) none (.mv (.tmp 0)),
      .op (some 9) none (.call f_query_reader_take [(.tmp 8), (.const (.string ⟨#[60]⟩))]),
      .op (some 7) none (.mv (.tmp 9))])
    (.keep [0, 2, 7] [0, 2] (.ite (.tmp 7) (.seq (.reg [
        .op (some 10) none (.mv (.tmp 0)),
        .op (some 11) none (.call f_query_reader_name [(.tmp 10)]),
        .op (some 12) none (.build [(.int .i64 0), (.int .i64 0), (.string ⟨#[]⟩), (.string ⟨#[]⟩), (.string ⟨#[]⟩), (.string ⟨#[]⟩), (.bool false), (.slice none 0 0), (.string ⟨#[]⟩), (.string ⟨#[]⟩), (.int .i64 0), (.int .i64 0), (.slice none 0 0)] [(0, 1, (.const (.int .i64 2))), (9, 1, (.tmp 11))]),
        .op (some 3) none (.alloc ty_Pattern [(.int .i64 0), (.int .i64 0), (.string ⟨#[]⟩), (.string ⟨#[]⟩), (.string ⟨#[]⟩), (.string ⟨#[]⟩), (.bool false), (.slice none 0 0), (.string ⟨#[]⟩), (.string ⟨#[]⟩), (.int .i64 0), (.int .i64 0), (.slice none 0 0)]),
        .op none none (.store none 13 (.tmp 3) (.tmp 12))])
      (.keep [0, 2, 3] [0, 2, 3] (.seq (.reg [
        .op (some 13) none (.mv (.tmp 0)),
        .op (some 14) none (.bslice ty_string 1 [(.const (.string ⟨#[62]⟩))]),
        .op (some 15) none (.call f_query_reader_must [(.tmp 13), (.tmp 14)])])
      (.keep [2, 3] [0, 2, 3] (.seq (.reg [
        .op (some 16) none (.load true 13 (.tmp 3)),
        .op none none (.store none 13 (.tmp 2) (.tmp 16))])
      (.keep [2] [0, 2] (.ret)))))))
      (.seq (.reg [
        .op (some 18) none (.mv (.tmp 0)),
        .op (some 19) none (.call f_query_reader_take [(.tmp 18), (.const (.string ⟨#[60, 47]⟩))]),
        .op (some 17) none (.mv (.tmp 19))])
      (.keep [0, 2, 17] [0, 2] (.ite (.tmp 17) (.seq (.reg [
          .op (some 20) none (.mv (.tmp 0)),
          .op (some 21) none (.call f_query_reader_name [(.tmp 20)]),
          .op (some 22) none (.build [(.int .i64 0), (.int .i64 0), (.string ⟨#[]⟩), (.string ⟨#[]⟩), (.string ⟨#[]⟩), (.string ⟨#[]⟩), (.bool false), (.slice none 0 0), (.string ⟨#[]⟩), (.string ⟨#[]⟩), (.int .i64 0), (.int .i64 0), (.slice none 0 0)] [(0, 1, (.const (.int .i64 3))), (9, 1, (.tmp 21))]),
          .op (some 4) none (.alloc ty_Pattern [(.int .i64 0), (.int .i64 0), (.string ⟨#[]⟩), (.string ⟨#[]⟩), (.string ⟨#[]⟩), (.string ⟨#[]⟩), (.bool false), (.slice none 0 0), (.string ⟨#[]⟩), (.string ⟨#[]⟩), (.int .i64 0), (.int .i64 0), (.slice none 0 0)]),
          .op none none (.store none 13 (.tmp 4) (.tmp 22))])
        (.keep [0, 2, 4] [0, 2, 4] (.seq (.reg [
          .op (some 23) none (.mv (.tmp 0)),
          .op (some 24) none (.bslice ty_string 1 [(.const (.string ⟨#[62]⟩))]),
          .op (some 25) none (.call f_query_reader_must [(.tmp 23), (.tmp 24)])])
        (.keep [2, 4] [0, 2, 4] (.seq (.reg [
          .op (some 26) none (.load true 13 (.tmp 4)),
          .op none none (.store none 13 (.tmp 2) (.tmp 26))])
        (.keep [2] [0, 2] (.ret)))))))
        (.seq (.reg [
          .op (some 28) none (.mv (.tmp 0)),
          .op (some 29) none (.call f_query_reader_take [(.tmp 28), (.const (.string ⟨#[40]⟩))]),
          .op (some 27) none (.mv (.tmp 29))])
        (.keep [0, 2, 27] [0, 2] (.ite (.tmp 27) (.seq (.reg [
            .op (some 30) none (.mv (.tmp 0)),
            .op (some 31) none (.call f_query_reader_alt [(.tmp 30), (.const (.bool true))]),
            .op (some 5) none (.alloc ty_Pattern [(.int .i64 0), (.int .i64 0), (.string ⟨#[]⟩), (.string ⟨#[]⟩), (.string ⟨#[]⟩), (.string ⟨#[]⟩), (.bool false), (.slice none 0 0), (.string ⟨#[]⟩), (.string ⟨#[]⟩), (.int .i64 0), (.int .i64 0), (.slice none 0 0)]),
            .op none none (.store none 13 (.tmp 5) (.tmp 31))])
          (.keep [0, 2, 5] [0, 2, 5] (.seq (.reg [
            .op (some 32) none (.mv (.tmp 0)),
            .op (some 33) none (.bslice ty_string 1 [(.const (.string ⟨#[41]⟩))]),
            .op (some 34) none (.call f_query_reader_must [(.tmp 32), (.tmp 33)])])
          (.keep [2, 5] [0, 2, 5] (.seq (.reg [
            .op (some 35) none (.load true 13 (.tmp 5)),
            .op none none (.store none 13 (.tmp 2) (.tmp 35))])
          (.keep [2] [0, 2] (.ret)))))))
          (.seq (.reg [
            .op (some 37) none (.mv (.tmp 0)),
            .op (some 38) none (.nilck (.tmp 37)),
            .op (some 39) none (.faddr 2 (.tmp 38)),
            .op (some 40) none (.faddr 0 (.tmp 39)),
            .op (some 41) none (.load false 1 (.tmp 40)),
            .op (some 42) none (.eql false false [.int] (.tmp 41) (.const (.int .i64 2))),
            .op (some 36) none (.mv (.tmp 42))])
          (.keep [0, 2, 36] [0, 2] (.ite (.tmp 36) (.seq (.reg [
              .op (some 43) none (.mv (.tmp 0)),
              .op (some 44) none (.call f_query_reader_name [(.tmp 43)]),
              .op (some 6) none (.mv (.tmp 44))])
            (.keep [0, 2, 6] [0, 2] (.seq (.reg [
              .op (some 45) none (.mv (.tmp 0)),
              .op (some 46) none (.bslice ty_string 1 [(.const (.string ⟨#[58]⟩))]),
              .op (some 47) none (.call f_query_reader_must [(.tmp 45), (.tmp 46)])])
            (.keep [0, 2, 6] [0, 2] (.seq (.reg [
              .op (some 48) none (.mv (.tmp 0)),
              .op (some 49) none (.mv (.tmp 6)),
              .op (some 50) none (.call f_query_reader_token [(.tmp 48), (.tmp 49)]),
              .op none none (.store none 13 (.tmp 2) (.tmp 50))])
            (.keep [2] [0, 2] (.ret)))))))
            (.skip))))))))))))))
  (.keep [0, 2] [0, 2] (.seq (.reg [
    .op (some 51) none (.mv (.tmp 0)),
    .op (some 52) none (.call f_query_reader_token [(.tmp 51), (.const (.string ⟨#[]⟩))]),
    .op none none (.store none 13 (.tmp 2) (.tmp 52))])
  (.keep [2] [0, 2] (.ret))))))
def rs_query_reader_item : List CRes := [.cell 2 true 13]
def im_query_reader_item : List Nat := []
theorem ok_query_reader_item : FnOk Tryz.prog f_query_reader_item im_query_reader_item cc_query_reader_item rs_query_reader_item 53 := fnOk1 mixed (by kernel_rfl)
/-- (*corpora/query.reader).token [P_query_reader, string] -> [Pattern] -/
def cc_query_reader_token : CC :=
  .seq (.reg [
    .op (some 4) none (.alloc ty_Pattern [(.int .i64 0), (.int .i64 0), (.string ⟨#[]⟩), (.string ⟨#[]⟩), (.string ⟨#[]⟩), (.string ⟨#[]⟩), (.bool false), (.slice none 0 0), (.string ⟨#[]⟩), (.string ⟨#[]⟩), (.int .i64 0), (.int .i64 0), (.slice none 0 0)])])
  (.keep [0, 1, 4] [0, 4] (.seq (.reg [
    .op (some 6) none (.mv (.tmp 1)),
    .op (some 7) none (.build [(.int .i64 0), (.int .i64 0), (.string ⟨#[]⟩), (.string ⟨#[]⟩), (.string ⟨#[]⟩), (.string ⟨#[]⟩), (.bool false), (.slice none 0 0), (.string ⟨#[]⟩), (.string ⟨#[]⟩), (.int .i64 0), (.int .i64 0), (.slice none 0 0)] [(0, 1, (.const (.int .i64 1))), (8, 1, (.tmp 6))]),
    .op (some 5) none (.alloc ty_Pattern [(.int .i64 0), (.int .i64 0), (.string ⟨#[]⟩), (.string ⟨#[]⟩), (.string ⟨#[]⟩), (.string ⟨#[]⟩), (.bool false), (.slice none 0 0), (.string ⟨#[]⟩), (.string ⟨#[]⟩), (.int .i64 0), (.int .i64 0), (.slice none 0 0)]),
    .op none none (.store none 13 (.tmp 5) (.tmp 7))])
  (.keep [0, 4, 5] [0, 4, 5] (.seq /- 2 -/ (.seq (.reg [
    .op (some 8) none (.mv (.tmp 0)),
    .op (some 9) none (.call f_query_reader_take [(.tmp 8), (.const (.string ⟨#[91]⟩))])])
  (.keep [0, 4, 5, 9] [0, 4, 5] (.ite (.tmp 9) (.seq (.reg [
      .op (some 10) none (.faddr 1 (.tmp 5)),
      .op (some 11) none (.faddr 0 (.tmp 10)),
      .op none none (.store none 1 (.tmp 11) (.const (.int .i64 1)))])
    (.keep [0, 4, 5] [0, 4, 5] (.seq /- 5 -/ (.seq (.reg [
      .op (some 12) none (.mv (.tmp 0)),
      .op (some 13) none (.call f_query_reader_sign [(.tmp 12), (.const (.string ⟨#[93]⟩))]),
      .op (some 14) none (.not (.tmp 13))])
    (.keep [0, 4, 5, 14] [0, 4, 5] (.ite (.tmp 14) (.reg [
        .op (some 15) none (.mv (.tmp 0)),
        .op (some 16) none (.call f_query_reader_or [(.tmp 15)]),
        .op (some 17) none (.faddr 1 (.tmp 5)),
        .op none none (.store none 7 (.tmp 17) (.tmp 16))])
      (.skip))))
    (.keep [0, 4, 5] [0, 4, 5] (.seq (.reg [
      .op (some 18) none (.mv (.tmp 0)),
      .op (some 19) none (.bslice ty_string 1 [(.const (.string ⟨#[93]⟩))]),
      .op (some 20) none (.call f_query_reader_must [(.tmp 18), (.tmp 19)])])
    (.keep [4, 5] [0, 4, 5] (.seq (.reg [
      .op (some 21) none (.load true 13 (.tmp 5)),
      .op none none (.store none 13 (.tmp 4) (.tmp 21))])
    (.keep [4] [0, 4] (.ret)))))))))
    (.skip))))
  (.keep [0, 4, 5] [0, 4, 5] (.seq (.reg [
    .op (some 22) none (.mv (.tmp 0)),
    .op (some 23) none (.call f_query_reader_text [(.tmp 22), (.const (.int .i64 4))]),
    .op (some 24) none (.build [(.int .i64 0), (.string ⟨#[]⟩), (.string ⟨#[]⟩), (.string ⟨#[]⟩), (.string ⟨#[]⟩), (.bool false), (.slice none 0 0)] [(0, 1, (.const (.int .i64 2))), (3, 1, (.tmp 23))]),
    .op (some 25) none (.faddr 1 (.tmp 5)),
    .op none none (.store none 7 (.tmp 25) (.tmp 24))])
  (.keep [0, 4, 5] [0, 4, 5] (.seq (.reg [
    .op (some 26) none (.mv (.tmp 0)),
    .op (some 27) none (.call f_query_reader_fold [(.tmp 26)]),
    .op (some 28) none (.faddr 1 (.tmp 5)),
    .op (some 29) none (.faddr 5 (.tmp 28)),
    .op none none (.store none 1 (.tmp 29) (.tmp 27))])
  (.keep [4, 5] [0, 4, 5] (.seq (.reg [
    .op (some 30) none (.load true 13 (.tmp 5)),
    .op none none (.store none 13 (.tmp 4) (.tmp 30))])
  (.keep [4] [0, 4] (.ret))))))))))))
def rs_query_reader_token : List CRes := [.cell 4 true 13]
def im_query_reader_token : List Nat := []
theorem ok_query_reader_token : FnOk Tryz.prog f_query_reader_token im_query_reader_token cc_query_reader_token rs_query_reader_token 31 := fnOk1 mixed (by kernel_rfl)
-- query_reader_or while id=0: live [0:r, 2:, 3:l] changed [3] res [0, 2, 6, 13]
/-- (*corpora/query.reader).or [P_query_reader] -> [Cond] -/
def cc_query_reader_or : CC :=
  .seq (.reg [
    .op (some 2) none (.alloc ty_Cond [(.int .i64 0), (.string ⟨#[]⟩), (.string ⟨#[]⟩), (.string ⟨#[]⟩), (.string ⟨#[]⟩), (.bool false), (.slice none 0 0)])])
  (.keep [0, 2] [0, 2, 6, 13] (.seq (.reg [
    .op (some 4) none (.mv (.tmp 0)),
    .op (some 5) none (.call f_query_reader_and [(.tmp 4)]),
    .op (some 6) none (.mslice ty_Cond 7 [(.tmp 5)]),
    .op (some 3) none (.mv (.tmp 6))])
  (.keep [0, 2, 3] [0, 2, 6, 13] (.seq /- 2 -/ (.block 0 (.loop 1 (.seq /- 3 -/ (.seq (.reg [
        .op (some 7) none (.mv (.tmp 0)),
        .op (some 8) none (.call f_query_reader_take [(.tmp 7), (.const (.string ⟨#[124]⟩))])])
      (.keep [0, 2, 3, 8] [0, 2, 6, 13] (.ite (.tmp 8) (.skip)
        (.exit 0))))
      (.keep [0, 2, 3] [0, 2, 6, 13] (.block 1 (.reg [
          .op (some 9) none (.mv (.tmp 3)),
          .op (some 10) none (.mv (.tmp 0)),
          .op (some 11) none (.call f_query_reader_and [(.tmp 10)]),
          .op (some 12) none (.bslice ty_Cond 7 [(.tmp 11)]),
          .op (some 13) none (.append (some 6) ty_Cond 7 104 (.tmp 9) (.tmp 12)),
          .op (some 3) none (.mv (.tmp 13))]))))))
  (.keep [2, 3] [0, 2, 6, 13] (.seq (.reg [
    .op (some 14) none (.mv (.tmp 3)),
    .frz 14 7,
    .op (some 15) none (.call f_query_conds [(.const (.int .i64 8)), (.tmp 14)]),
    .op none none (.store none 7 (.tmp 2) (.tmp 15))])
  (.keep [2] [0, 2, 6, 13] (.ret))))))))
def rs_query_reader_or : List CRes := [.cell 2 true 7]
def im_query_reader_or : List Nat := [100006, 1013006]
theorem ok_query_reader_or : FnOk Tryz.prog f_query_reader_or im_query_reader_or cc_query_reader_or rs_query_reader_or 16 := fnOk1 mixed (by kernel_rfl)
-- query_reader_and while id=0: live [0:r, 2:, 3:l] changed [3] res [0, 2, 6, 13]
/-- (*corpora/query.reader).and [P_query_reader] -> [Cond] -/
def cc_query_reader_and : CC :=
  .seq (.reg [
    .op (some 2) none (.alloc ty_Cond [(.int .i64 0), (.string ⟨#[]⟩), (.string ⟨#[]⟩), (.string ⟨#[]⟩), (.string ⟨#[]⟩), (.bool false), (.slice none 0 0)])])
  (.keep [0, 2] [0, 2, 6, 13] (.seq (.reg [
    .op (some 4) none (.mv (.tmp 0)),
    .op (some 5) none (.call f_query_reader_not [(.tmp 4)]),
    .op (some 6) none (.mslice ty_Cond 7 [(.tmp 5)]),
    .op (some 3) none (.mv (.tmp 6))])
  (.keep [0, 2, 3] [0, 2, 6, 13] (.seq /- 2 -/ (.block 0 (.loop 1 (.seq /- 3 -/ (.seq (.reg [
        .op (some 7) none (.mv (.tmp 0)),
        .op (some 8) none (.call f_query_reader_take [(.tmp 7), (.const (.string ⟨#[38]⟩))])])
      (.keep [0, 2, 3, 8] [0, 2, 6, 13] (.ite (.tmp 8) (.skip)
        (.exit 0))))
      (.keep [0, 2, 3] [0, 2, 6, 13] (.block 1 (.reg [
          .op (some 9) none (.mv (.tmp 3)),
          .op (some 10) none (.mv (.tmp 0)),
          .op (some 11) none (.call f_query_reader_not [(.tmp 10)]),
          .op (some 12) none (.bslice ty_Cond 7 [(.tmp 11)]),
          .op (some 13) none (.append (some 6) ty_Cond 7 104 (.tmp 9) (.tmp 12)),
          .op (some 3) none (.mv (.tmp 13))]))))))
  (.keep [2, 3] [0, 2, 6, 13] (.seq (.reg [
    .op (some 14) none (.mv (.tmp 3)),
    .frz 14 7,
    .op (some 15) none (.call f_query_conds [(.const (.int .i64 7)), (.tmp 14)]),
    .op none none (.store none 7 (.tmp 2) (.tmp 15))])
  (.keep [2] [0, 2, 6, 13] (.ret))))))))
def rs_query_reader_and : List CRes := [.cell 2 true 7]
def im_query_reader_and : List Nat := [100006, 1013006]
theorem ok_query_reader_and : FnOk Tryz.prog f_query_reader_and im_query_reader_and cc_query_reader_and rs_query_reader_and 16 := fnOk1 mixed (by kernel_rfl)
/-- (*corpora/query.reader).not [P_query_reader] -> [Cond] -/
def cc_query_reader_not : CC :=
  .seq (.reg [
    .op (some 2) none (.alloc ty_Cond [(.int .i64 0), (.string ⟨#[]⟩), (.string ⟨#[]⟩), (.string ⟨#[]⟩), (.string ⟨#[]⟩), (.bool false), (.slice none 0 0)])])
  (.keep [0, 2] [0, 2] (.seq /- 1 -/ (.block 0 (.seq (.reg [
      .op (some 5) none (.mv (.tmp 0)),
      .op (some 6) none (.call f_query_reader_take [(.tmp 5), (.const (.string ⟨#[33]⟩))]),
      .op (some 4) none (.mv (.tmp 6))])
    (.keep [0, 2, 4] [0, 2] (.ite (.tmp 4) (.seq (.reg [
        .op (some 7) none (.mv (.tmp 0)),
        .op (some 8) none (.call f_query_reader_not [(.tmp 7)]),
        .op (some 9) none (.bslice ty_Cond 7 [(.tmp 8)]),
        .op (some 10) none (.build [(.int .i64 0), (.string ⟨#[]⟩), (.string ⟨#[]⟩), (.string ⟨#[]⟩), (.string ⟨#[]⟩), (.bool false), (.slice none 0 0)] [(0, 1, (.const (.int .i64 6))), (6, 1, (.tmp 9))]),
        .op none none (.store none 7 (.tmp 2) (.tmp 10))])
      (.keep [2] [0, 2] (.ret)))
      (.seq (.reg [
        .op (some 12) none (.mv (.tmp 0)),
        .op (some 13) none (.call f_query_reader_take [(.tmp 12), (.const (.string ⟨#[40]⟩))]),
        .op (some 11) none (.mv (.tmp 13))])
      (.keep [0, 2, 11] [0, 2] (.ite (.tmp 11) (.seq (.reg [
          .op (some 14) none (.mv (.tmp 0)),
          .op (some 15) none (.call f_query_reader_or [(.tmp 14)]),
          .op (some 3) none (.alloc ty_Cond [(.int .i64 0), (.string ⟨#[]⟩), (.string ⟨#[]⟩), (.string ⟨#[]⟩), (.string ⟨#[]⟩), (.bool false), (.slice none 0 0)]),
          .op none none (.store none 7 (.tmp 3) (.tmp 15))])
        (.keep [0, 2, 3] [0, 2, 3] (.seq (.reg [
          .op (some 16) none (.mv (.tmp 0)),
          .op (some 17) none (.bslice ty_string 1 [(.const (.string ⟨#[41]⟩))]),
          .op (some 18) none (.call f_query_reader_must [(.tmp 16), (.tmp 17)])])
        (.keep [2, 3] [0, 2, 3] (.seq (.reg [
          .op (some 19) none (.load true 7 (.tmp 3)),
          .op none none (.store none 7 (.tmp 2) (.tmp 19))])
        (.keep [2] [0, 2] (.ret)))))))
        (.skip))))))))
  (.keep [0, 2] [0, 2] (.seq (.reg [
    .op (some 20) none (.mv (.tmp 0)),
    .op (some 21) none (.call f_query_reader_atom [(.tmp 20)]),
    .op none none (.store none 7 (.tmp 2) (.tmp 21))])
  (.keep [2] [0, 2] (.ret))))))
def rs_query_reader_not : List CRes := [.cell 2 true 7]
def im_query_reader_not : List Nat := []
theorem ok_query_reader_not : FnOk Tryz.prog f_query_reader_not im_query_reader_not cc_query_reader_not rs_query_reader_not 22 := fnOk1 mixed (by kernel_rfl)
/-- (*corpora/query.reader).atom [P_query_reader] -> [Cond] -/
def cc_query_reader_atom : CC :=
  .seq (.reg [
    .op (some 2) none (.alloc ty_Cond [(.int .i64 0), (.string ⟨#[]⟩), (.string ⟨#[]⟩), (.string ⟨#[]⟩), (.string ⟨#[]⟩), (.bool false), (.slice none 0 0)])])
  (.keep [0, 2] [0, 2] (.seq (.reg [
    .op (some 8) none (.mv (.tmp 0)),
    .op (some 9) none (.call f_query_reader_name [(.tmp 8)]),
    .op (some 3) none (.mv (.tmp 9))])
  (.keep [0, 2, 3] [0, 2] (.seq /- 2 -/ (.seq (.reg [
    .op (some 10) none (.mv (.tmp 3)),
    .op (some 11) none (.eql false false [.str] (.tmp 10) (.const (.string ⟨#[105, 110]⟩))),
    .op (some 12) none (.mv (.tmp 11)),
    .op (some 13) (some (12, true)) (.mv (.tmp 0)),
    .op (some 14) (some (12, true)) (.call f_query_reader_take [(.tmp 13), (.const (.string ⟨#[40]⟩))]),
    .op (some 15) none (.pick (.tmp 12) (.tmp 14) (.const (.bool false)))])
  (.keep [0, 2, 3, 15] [0, 2] (.ite (.tmp 15) (.seq (.reg [
      .op (some 16) none (.mv (.tmp 0)),
      .op (some 17) none (.call f_query_reader_name [(.tmp 16)]),
      .op (some 18) none (.build [(.int .i64 0), (.string ⟨#[]⟩), (.string ⟨#[]⟩), (.string ⟨#[]⟩), (.string ⟨#[]⟩), (.bool false), (.slice none 0 0)] [(0, 1, (.const (.int .i64 5))), (1, 1, (.tmp 17))]),
      .op (some 4) none (.alloc ty_Cond [(.int .i64 0), (.string ⟨#[]⟩), (.string ⟨#[]⟩), (.string ⟨#[]⟩), (.string ⟨#[]⟩), (.bool false), (.slice none 0 0)]),
      .op none none (.store none 7 (.tmp 4) (.tmp 18))])
    (.keep [0, 2, 4] [0, 2, 4] (.seq /- 5 -/ (.seq (.reg [
      .op (some 19) none (.mv (.tmp 0)),
      .op (some 20) none (.call f_query_reader_take [(.tmp 19), (.const (.string ⟨#[44]⟩))])])
    (.keep [0, 2, 4, 20] [0, 2, 4] (.ite (.tmp 20) (.seq (.reg [
        .op (some 21) none (.mv (.tmp 0)),
        .op (some 22) none (.call f_query_reader_name [(.tmp 21)]),
        .op (some 23) none (.faddr 2 (.tmp 4)),
        .op none none (.store none 1 (.tmp 23) (.tmp 22))])
      (.keep [0, 2, 4] [0, 2, 4] (.seq (.reg [
        .op (some 24) none (.mv (.tmp 0)),
        .op (some 25) none (.bslice ty_string 1 [(.const (.string ⟨#[61]⟩))]),
        .op (some 26) none (.call f_query_reader_must [(.tmp 24), (.tmp 25)])])
      (.keep [0, 2, 4] [0, 2, 4] (.reg [
        .op (some 27) none (.mv (.tmp 0)),
        .op (some 28) none (.call f_query_reader_text [(.tmp 27), (.const (.int .i64 4))]),
        .op (some 29) none (.faddr 3 (.tmp 4)),
        .op none none (.store none 1 (.tmp 29) (.tmp 28))])))))
      (.skip))))
    (.keep [0, 2, 4] [0, 2, 4] (.seq (.reg [
      .op (some 30) none (.mv (.tmp 0)),
      .op (some 31) none (.bslice ty_string 1 [(.const (.string ⟨#[41]⟩))]),
      .op (some 32) none (.call f_query_reader_must [(.tmp 30), (.tmp 31)])])
    (.keep [2, 4] [0, 2, 4] (.seq (.reg [
      .op (some 33) none (.load true 7 (.tmp 4)),
      .op none none (.store none 7 (.tmp 2) (.tmp 33))])
    (.keep [2] [0, 2] (.ret)))))))))
    (.skip))))
  (.keep [0, 2, 3] [0, 2] (.seq /- 11 -/ (.block 0 (.seq (.reg [
      .op (some 35) none (.mv (.tmp 0)),
      .op (some 36) none (.bslice ty_string 1 [(.const (.string ⟨#[99, 111, 110, 116, 97, 105, 110, 115]⟩))]),
      .op (some 37) none (.call f_query_reader_word [(.tmp 35), (.tmp 36)]),
      .op (some 34) none (.mv (.tmp 37))])
    (.keep [0, 2, 3, 34] [0, 2] (.ite (.tmp 34) (.seq (.reg [
        .op (some 38) none (.mv (.tmp 0)),
        .op (some 39) none (.call f_query_reader_next [(.tmp 38)])])
      (.keep [0, 2, 3] [0, 2] (.seq (.reg [
        .op (some 40) none (.mv (.tmp 3)),
        .op (some 41) none (.mv (.tmp 0)),
        .op (some 42) none (.call f_query_reader_text [(.tmp 41), (.const (.int .i64 4))]),
        .op (some 43) none (.build [(.int .i64 0), (.string ⟨#[]⟩), (.string ⟨#[]⟩), (.string ⟨#[]⟩), (.string ⟨#[]⟩), (.bool false), (.slice none 0 0)] [(0, 1, (.const (.int .i64 3))), (1, 1, (.tmp 40)), (3, 1, (.tmp 42))]),
        .op none none (.store none 7 (.tmp 2) (.tmp 43))])
      (.keep [2] [0, 2] (.ret)))))
      (.seq (.reg [
        .op (some 45) none (.mv (.tmp 0)),
        .op (some 46) none (.call f_query_reader_take [(.tmp 45), (.const (.string ⟨#[33, 61]⟩))]),
        .op (some 44) none (.mv (.tmp 46))])
      (.keep [0, 2, 3, 44] [0, 2] (.ite (.tmp 44) (.seq (.reg [
          .op (some 47) none (.mv (.tmp 3)),
          .op (some 48) none (.mv (.tmp 0)),
          .op (some 49) none (.call f_query_reader_text [(.tmp 48), (.const (.int .i64 4))]),
          .op (some 50) none (.build [(.int .i64 0), (.string ⟨#[]⟩), (.string ⟨#[]⟩), (.string ⟨#[]⟩), (.string ⟨#[]⟩), (.bool false), (.slice none 0 0)] [(0, 1, (.const (.int .i64 2))), (1, 1, (.tmp 47)), (3, 1, (.tmp 49))]),
          .op (some 5) none (.alloc ty_Cond [(.int .i64 0), (.string ⟨#[]⟩), (.string ⟨#[]⟩), (.string ⟨#[]⟩), (.string ⟨#[]⟩), (.bool false), (.slice none 0 0)]),
          .op none none (.store none 7 (.tmp 5) (.tmp 50))])
        (.keep [0, 2, 5] [0, 2, 5] (.seq (.reg [
          .op (some 51) none (.mv (.tmp 0)),
          .op (some 52) none (.call f_query_reader_fold [(.tmp 51)]),
          .op (some 53) none (.faddr 5 (.tmp 5)),
          .op none none (.store none 1 (.tmp 53) (.tmp 52))])
        (.keep [2, 5] [0, 2, 5] (.seq (.reg [
          .op (some 54) none (.load true 7 (.tmp 5)),
          .op (some 55) none (.bslice ty_Cond 7 [(.tmp 54)]),
          .op (some 56) none (.build [(.int .i64 0), (.string ⟨#[]⟩), (.string ⟨#[]⟩), (.string ⟨#[]⟩), (.string ⟨#[]⟩), (.bool false), (.slice none 0 0)] [(0, 1, (.const (.int .i64 6))), (6, 1, (.tmp 55))]),
          .op none none (.store none 7 (.tmp 2) (.tmp 56))])
        (.keep [2] [0, 2] (.ret)))))))
        (.skip))))))))
  (.keep [0, 2, 3] [0, 2] (.seq (.reg [
    .op (some 57) none (.mv (.tmp 0)),
    .op (some 58) none (.bslice ty_string 1 [(.const (.string ⟨#[61]⟩))]),
    .op (some 59) none (.call f_query_reader_must [(.tmp 57), (.tmp 58)])])
  (.keep [0, 2, 3] [0, 2] (.seq /- 20 -/ (.seq (.reg [
    .op (some 60) none (.mv (.tmp 0)),
    .op (some 61) none (.nilck (.tmp 60)),
    .op (some 62) none (.faddr 2 (.tmp 61)),
    .op (some 63) none (.faddr 0 (.tmp 62)),
    .op (some 64) none (.load false 1 (.tmp 63)),
    .op (some 65) none (.eql false false [.int] (.tmp 64) (.const (.int .i64 2)))])
  (.keep [0, 2, 3, 65] [0, 2] (.ite (.tmp 65) (.seq (.reg [
      .op (some 66) none (.mv (.tmp 3)),
      .op (some 67) none (.mv (.tmp 0)),
      .op (some 68) none (.call f_query_reader_name [(.tmp 67)]),
      .op (some 69) none (.build [(.int .i64 0), (.string ⟨#[]⟩), (.string ⟨#[]⟩), (.string ⟨#[]⟩), (.string ⟨#[]⟩), (.bool false), (.slice none 0 0)] [(0, 1, (.const (.int .i64 4))), (1, 1, (.tmp 66)), (4, 1, (.tmp 68))]),
      .op (some 6) none (.alloc ty_Cond [(.int .i64 0), (.string ⟨#[]⟩), (.string ⟨#[]⟩), (.string ⟨#[]⟩), (.string ⟨#[]⟩), (.bool false), (.slice none 0 0)]),
      .op none none (.store none 7 (.tmp 6) (.tmp 69))])
    (.keep [0, 2, 6] [0, 2, 6] (.seq (.reg [
      .op (some 70) none (.mv (.tmp 0)),
      .op (some 71) none (.bslice ty_string 1 [(.const (.string ⟨#[46]⟩))]),
      .op (some 72) none (.call f_query_reader_must [(.tmp 70), (.tmp 71)])])
    (.keep [0, 2, 6] [0, 2, 6] (.seq (.reg [
      .op (some 73) none (.mv (.tmp 0)),
      .op (some 74) none (.call f_query_reader_name [(.tmp 73)]),
      .op (some 75) none (.faddr 2 (.tmp 6)),
      .op none none (.store none 1 (.tmp 75) (.tmp 74))])
    (.keep [2, 6] [0, 2, 6] (.seq (.reg [
      .op (some 76) none (.load true 7 (.tmp 6)),
      .op none none (.store none 7 (.tmp 2) (.tmp 76))])
    (.keep [2] [0, 2] (.ret)))))))))
    (.skip))))
  (.keep [0, 2, 3] [0, 2] (.seq (.reg [
    .op (some 77) none (.mv (.tmp 3)),
    .op (some 78) none (.mv (.tmp 0)),
    .op (some 79) none (.call f_query_reader_text [(.tmp 78), (.const (.int .i64 4))]),
    .op (some 80) none (.build [(.int .i64 0), (.string ⟨#[]⟩), (.string ⟨#[]⟩), (.string ⟨#[]⟩), (.string ⟨#[]⟩), (.bool false), (.slice none 0 0)] [(0, 1, (.const (.int .i64 2))), (1, 1, (.tmp 77)), (3, 1, (.tmp 79))]),
    .op (some 7) none (.alloc ty_Cond [(.int .i64 0), (.string ⟨#[]⟩), (.string ⟨#[]⟩), (.string ⟨#[]⟩), (.string ⟨#[]⟩), (.bool false), (.slice none 0 0)]),
    .op none none (.store none 7 (.tmp 7) (.tmp 80))])
  (.keep [0, 2, 7] [0, 2, 7] (.seq (.reg [
    .op (some 81) none (.mv (.tmp 0)),
    .op (some 82) none (.call f_query_reader_fold [(.tmp 81)]),
    .op (some 83) none (.faddr 5 (.tmp 7)),
    .op none none (.store none 1 (.tmp 83) (.tmp 82))])
  (.keep [2, 7] [0, 2, 7] (.seq (.reg [
    .op (some 84) none (.load true 7 (.tmp 7)),
    .op none none (.store none 7 (.tmp 2) (.tmp 84))])
  (.keep [2] [0, 2] (.ret))))))))))))))))))
def rs_query_reader_atom : List CRes := [.cell 2 true 7]
def im_query_reader_atom : List Nat := []
theorem ok_query_reader_atom : FnOk Tryz.prog f_query_reader_atom im_query_reader_atom cc_query_reader_atom rs_query_reader_atom 85 := fnOk1 mixed (by kernel_rfl)
-- query_reader_query while id=0: live [0:r, 2:, 3:q] changed [] res [0, 2, 3, 55]
/-- (*corpora/query.reader).query [P_query_reader] -> [Query] -/
def cc_query_reader_query : CC :=
  .seq (.reg [
    .op (some 2) none (.alloc ty_Query [(.int .i64 0), (.int .i64 0), (.string ⟨#[]⟩), (.string ⟨#[]⟩), (.string ⟨#[]⟩), (.string ⟨#[]⟩), (.bool false), (.slice none 0 0), (.string ⟨#[]⟩), (.string ⟨#[]⟩), (.int .i64 0), (.int .i64 0), (.slice none 0 0), (.int .i64 0), (.string ⟨#[]⟩), (.string ⟨#[]⟩), (.string ⟨#[]⟩), (.string ⟨#[]⟩), (.string ⟨#[]⟩), (.bool false), (.int .i64 0), (.int .i64 0), (.slice none 0 0), (.slice none 0 0), (.slice none 0 0), (.int .i64 0)])])
  (.keep [0, 2] [0, 2, 55] (.seq (.reg [
    .op (some 5) none (.mv (.tmp 0)),
    .op (some 6) none (.call f_query_reader_next [(.tmp 5)])])
  (.keep [0, 2] [0, 2, 55] (.seq (.reg [
    .op (some 7) none (.mv (.tmp 0)),
    .op (some 8) none (.call f_query_reader_alt [(.tmp 7), (.const (.bool false))]),
    .op (some 9) none (.build [(.int .i64 0), (.int .i64 0), (.string ⟨#[]⟩), (.string ⟨#[]⟩), (.string ⟨#[]⟩), (.string ⟨#[]⟩), (.bool false), (.slice none 0 0), (.string ⟨#[]⟩), (.string ⟨#[]⟩), (.int .i64 0), (.int .i64 0), (.slice none 0 0), (.int .i64 0), (.string ⟨#[]⟩), (.string ⟨#[]⟩), (.string ⟨#[]⟩), (.string ⟨#[]⟩), (.string ⟨#[]⟩), (.bool false), (.int .i64 0), (.int .i64 0), (.slice none 0 0), (.slice none 0 0), (.slice none 0 0), (.int .i64 0)] [(0, 13, (.tmp 8))]),
    .op (some 3) none (.alloc ty_Query [(.int .i64 0), (.int .i64 0), (.string ⟨#[]⟩), (.string ⟨#[]⟩), (.string ⟨#[]⟩), (.string ⟨#[]⟩), (.bool false), (.slice none 0 0), (.string ⟨#[]⟩), (.string ⟨#[]⟩), (.int .i64 0), (.int .i64 0), (.slice none 0 0), (.int .i64 0), (.string ⟨#[]⟩), (.string ⟨#[]⟩), (.string ⟨#[]⟩), (.string ⟨#[]⟩), (.string ⟨#[]⟩), (.bool false), (.int .i64 0), (.int .i64 0), (.slice none 0 0), (.slice none 0 0), (.slice none 0 0), (.int .i64 0)]),
    .op none none (.store none 26 (.tmp 3) (.tmp 9))])
  (.keep [0, 2, 3] [0, 2, 3, 55] (.seq /- 3 -/ (.seq (.reg [
    .op (some 10) none (.mv (.tmp 0)),
    .op (some 11) none (.call f_query_reader_take [(.tmp 10), (.const (.string ⟨#[58, 58]⟩))])])
  (.keep [0, 2, 3, 11] [0, 2, 3, 55] (.ite (.tmp 11) (.reg [
      .op (some 12) none (.mv (.tmp 0)),
      .op (some 13) none (.call f_query_reader_gor [(.tmp 12)]),
      .op (some 14) none (.faddr 13 (.tmp 3)),
      .op none none (.store none 11 (.tmp 14) (.tmp 13))])
    (.skip))))
  (.keep [0, 2, 3] [0, 2, 3, 55] (.seq /- 5 -/ (.block 0 (.loop 1 (.seq /- 6 -/ (.seq (.reg [
        .op (some 15) none (.mv (.tmp 0)),
        .op (some 16) none (.call f_query_reader_sign [(.tmp 15), (.const (.string ⟨#[33]⟩))]),
        .op (some 17) none (.mv (.tmp 16)),
        .op (some 18) (some (17, false)) (.mv (.tmp 0)),
        .op (some 19) (some (17, false)) (.call f_query_filterWords []),
        .op (some 20) (some (17, false)) (.call f_query_reader_word [(.tmp 18), (.tmp 19)]),
        .op (some 21) none (.pick (.tmp 17) (.const (.bool true)) (.tmp 20))])
      (.keep [0, 2, 3, 21] [0, 2, 3, 55] (.ite (.tmp 21) (.skip)
        (.exit 0))))
      (.keep [0, 2, 3] [0, 2, 3, 55] (.block 1 (.seq (.reg [
          .op (some 22) none (.mv (.tmp 0)),
          .op (some 23) none (.call f_query_reader_take [(.tmp 22), (.const (.string ⟨#[33]⟩))]),
          .op (some 24) none (.build [(.int .i64 0), (.bool false), (.string ⟨#[]⟩)] [(1, 1, (.tmp 23))]),
          .op (some 4) none (.alloc ty_Filter [(.int .i64 0), (.bool false), (.string ⟨#[]⟩)]),
          .op none none (.store none 3 (.tmp 4) (.tmp 24))])
        (.keep [0, 2, 3, 4] [0, 2, 3, 4, 55] (.seq (.seq (.regd [
          .op (some 25) none (.call f_query_filterWords []),
          .op (some 26) none (.mv (.tmp 0)),
          .op (some 27) none (.nilck (.tmp 26)),
          .op (some 28) none (.faddr 2 (.tmp 27)),
          .op (some 29) none (.faddr 1 (.tmp 28)),
          .op (some 30) none (.load false 1 (.tmp 29))] [
          .op (some 31) none (.call f_slices_Index_string [(.tmp 25), (.tmp 30)]),
          .op (some 32) none (.faddr 0 (.tmp 4)),
          .op none none (.store (some 4) 1 (.tmp 32) (.tmp 31))])
        (.keep [0, 2, 3, 4] [0, 2, 3, 4, 55] (.seq (.reg [
          .op (some 33) none (.mv (.tmp 0)),
          .op (some 34) none (.nilck (.tmp 33)),
          .op (some 35) none (.faddr 2 (.tmp 34)),
          .op (some 36) none (.faddr 0 (.tmp 35)),
          .op (some 37) none (.load false 1 (.tmp 36)),
          .op (some 38) none (.eql true false [.int] (.tmp 37) (.const (.int .i64 2))),
          .op (some 39) none (.mv (.tmp 38)),
          .op (some 40) (some (39, false)) (.faddr 0 (.tmp 4)),
          .op (some 41) (some (39, false)) (.load false 1 (.tmp 40)),
          .op (some 42) (some (39, false)) (.cmp .lss (.tmp 41) (.const (.int .i64 1))),
          .op (some 43) none (.pick (.tmp 39) (.const (.bool true)) (.tmp 42))])
        (.keep [0, 2, 3, 4, 43] [0, 2, 3, 4, 55] (.ite (.tmp 43) (.reg [
            .op (some 44) none (.mv (.tmp 0)),
            .op (some 45) none (.call f_query_reader_wrong [(.tmp 44)])])
          (.skip))))))
        (.keep [0, 2, 3, 4] [0, 2, 3, 4, 55] (.seq (.reg [
          .op (some 46) none (.mv (.tmp 0)),
          .op (some 47) none (.call f_query_reader_next [(.tmp 46)])])
        (.keep [0, 2, 3, 4] [0, 2, 3, 4, 55] (.seq (.reg [
          .op (some 48) none (.mv (.tmp 0)),
          .op (some 49) none (.call f_query_reader_name [(.tmp 48)]),
          .op (some 50) none (.faddr 2 (.tmp 4)),
          .op none none (.store none 1 (.tmp 50) (.tmp 49))])
        (.keep [0, 2, 3, 4] [0, 2, 3, 4, 55] (.reg [
          .op (some 51) none (.faddr 24 (.tmp 3)),
          .op (some 52) none (.load false 1 (.tmp 51)),
          .op (some 53) none (.load true 3 (.tmp 4)),
          .op (some 54) none (.bslice ty_Filter 3 [(.tmp 53)]),
          .op (some 55) none (.append none ty_Filter 3 32 (.tmp 52) (.tmp 54)),
          .op (some 56) none (.faddr 24 (.tmp 3)),
          .op none none (.store none 1 (.tmp 56) (.tmp 55))]))))))))))))))
  (.keep [0, 2, 3] [0, 2, 3, 55] (.seq /- 14 -/ (.seq (.reg [
    .op (some 57) none (.mv (.tmp 0)),
    .op (some 58) none (.bslice ty_string 1 [(.const (.string ⟨#[115, 116, 114, 97, 116, 101, 103, 121]⟩))]),
    .op (some 59) none (.call f_query_reader_word [(.tmp 57), (.tmp 58)])])
  (.keep [0, 2, 3, 59] [0, 2, 3, 55] (.ite (.tmp 59) (.seq (.reg [
      .op (some 60) none (.mv (.tmp 0)),
      .op (some 61) none (.call f_query_reader_next [(.tmp 60)])])
    (.keep [0, 2, 3] [0, 2, 3, 55] (.seq /- 17 -/ (.seq (.reg [
      .op (some 62) none (.mv (.tmp 0)),
      .op (some 63) none (.call f_query_strategyWords []),
      .op (some 64) none (.call f_query_reader_word [(.tmp 62), (.tmp 63)]),
      .op (some 65) none (.not (.tmp 64))])
    (.keep [0, 2, 3, 65] [0, 2, 3, 55] (.ite (.tmp 65) (.reg [
        .op (some 66) none (.mv (.tmp 0)),
        .op (some 67) none (.call f_query_reader_wrong [(.tmp 66)])])
      (.skip))))
    (.keep [0, 2, 3] [0, 2, 3, 55] (.reg [
      .op (some 68) none (.call f_query_strategyWords []),
      .op (some 69) none (.mv (.tmp 0)),
      .op (some 70) none (.call f_query_reader_name [(.tmp 69)]),
      .op (some 71) none (.call f_slices_Index_string [(.tmp 68), (.tmp 70)]),
      .op (some 72) none (.faddr 25 (.tmp 3)),
      .op none none (.store none 1 (.tmp 72) (.tmp 71))])))))
    (.skip))))
  (.keep [0, 2, 3] [0, 2, 3, 55] (.seq /- 19 -/ (.seq (.reg [
    .op (some 73) none (.mv (.tmp 0)),
    .op (some 74) none (.nilck (.tmp 73)),
    .op (some 75) none (.faddr 2 (.tmp 74)),
    .op (some 76) none (.faddr 0 (.tmp 75)),
    .op (some 77) none (.load false 1 (.tmp 76)),
    .op (some 78) none (.eql true false [.int] (.tmp 77) (.const (.int .i64 0)))])
  (.keep [0, 2, 3, 78] [0, 2, 3, 55] (.ite (.tmp 78) (.reg [
      .op (some 79) none (.mv (.tmp 0)),
      .op (some 80) none (.call f_query_reader_wrong [(.tmp 79)])])
    (.skip))))
  (.keep [2, 3] [0, 2, 3, 55] (.seq (.reg [
    .op (some 81) none (.load true 26 (.tmp 3)),
    .op none none (.store none 26 (.tmp 2) (.tmp 81))])
  (.keep [2] [0, 2, 55] (.ret))))))))))))))))
def rs_query_reader_query : List CRes := [.cell 2 true 26]
def im_query_reader_query : List Nat := [2032004]
theorem ok_query_reader_query : FnOk Tryz.prog f_query_reader_query im_query_reader_query cc_query_reader_query rs_query_reader_query 82 := fnOk1 mixed (by kernel_rfl)
/-- corpora/query.filterWords [] -> [L_string] -/
def cc_query_filterWords : CC :=
  .seq (.reg [
    .op (some 0) none (.mv (.const (.slice none 0 0)))])
  (.keep [] [] (.seq (.reg [
    .op (some 1) none (.bslice ty_string 1 [(.const (.string ⟨#[]⟩)), (.const (.string ⟨#[119, 105, 116, 104, 105, 110]⟩)), (.const (.string ⟨#[99, 111, 110, 116, 97, 105, 110, 105, 110, 103]⟩)), (.const (.string ⟨#[111, 118, 101, 114, 108, 97, 112, 112, 105, 110, 103]⟩))]),
    .op (some 0) none (.mv (.tmp 1))])
  (.keep [0] [] (.ret))))
def rs_query_filterWords : List CRes := [.tmp 0]
def im_query_filterWords : List Nat := []
theorem ok_query_filterWords : FnOk Tryz.prog f_query_filterWords im_query_filterWords cc_query_filterWords rs_query_filterWords 2 := fnOk1 mixed (by kernel_rfl)
-- query_reader_number while id=0: live [1:most, 2:at, 7:s, 8:n, 9:i] changed [8, 9] res [0]
-- query_reader_gor while id=0: live [0:r, 2:, 3:l] changed [3] res [0, 2, 6, 13]
-- query_reader_gand while id=0: live [0:r, 2:, 3:l] changed [3] res [0, 2, 6, 13]
-- query_reader_arguments while id=0: live [0:r, 3:g, 4:] changed [] res [0, 3, 4, 59]
end Go.Gv
