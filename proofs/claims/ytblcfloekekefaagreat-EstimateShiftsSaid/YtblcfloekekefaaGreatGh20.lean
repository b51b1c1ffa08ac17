/- A part of the framework and of the walks: C4 V11 W42 W51 W53. -/
import Derived.Test.YtblcfloekekefaaGreatGh12
import Derived.Test.YtblcfloekekefaaGreatGh16
import Derived.Test.YtblcfloekekefaaGreatGh17
import Derived.Test.YtblcfloekekefaaGreatGh14
import Derived.Test.YtblcfloekekefaaGreatGh13
import Derived.Test.YtblcfloekekefaaGreatGh19

namespace Go.Gv
open Go.Proofs
/-- (*corpora/corporamade.Tape).Cond [P_corporamade_Tape, int, L_string] -> [Cond] -/
def cc_m_Tape_Cond : CC :=
  .seq (.reg [
    .op (some 6) none (.alloc ty_Cond [(.int .i64 0), (.string ⟨#[]⟩), (.string ⟨#[]⟩), (.string ⟨#[]⟩), (.string ⟨#[]⟩), (.bool false), (.slice none 0 0)])])
  (.keep [0, 1, 2, 6] [6] (seqM 1 (.seq (.reg [
    .op (some 7) none (.mv (.tmp 0)),
    .op (some 8) none (.call f_m_Tape_Next [(.tmp 7), (.const (.int .i64 8))])])
  (.keep [0, 1, 2, 6, 8] [6] (.block 0 (.seq (.reg [
      .op (some 10) none (.eql false false [.int] (.tmp 8) (.const (.int .i64 0))),
      .op (some 9) none (.mv (.tmp 10))])
    (.keep [0, 1, 2, 6, 8, 9] [6] (.ite (.tmp 9) (.seq (.reg [
        .op (some 11) none (.build [(.int .i64 0), (.string ⟨#[]⟩), (.string ⟨#[]⟩), (.string ⟨#[]⟩), (.string ⟨#[]⟩), (.bool false), (.slice none 0 0)] [(0, 1, (.const (.int .i64 1)))]),
        .op none none (.store (some 6) 7 (.tmp 6) (.tmp 11))])
      (.keep [6] [6] (.ret)))
      (.seq /- 5 -/ (.seq (.reg [
        .op (some 13) none (.eql false false [.int] (.tmp 8) (.const (.int .i64 1))),
        .op (some 12) none (.mv (.tmp 13))])
      (.keep [0, 1, 2, 6, 8, 12] [6] (.ite (.tmp 12) (.skip)
        (.reg [
          .op (some 14) none (.eql false false [.int] (.tmp 8) (.const (.int .i64 2))),
          .op (some 12) none (.mv (.tmp 14))]))))
      (.keep [0, 1, 2, 6, 12] [6] (.ite (.tmp 12) (.seq (.regd [
          .op (some 15) none (.bslice ty_string 1 [(.const (.string ⟨#[97]⟩)), (.const (.string ⟨#[98]⟩)), (.const (.string ⟨#[97, 46, 42]⟩)), (.const (.string ⟨#[91, 97, 98, 93]⟩))]),
          .op (some 16) none (.mv (.tmp 0)),
          .op (some 17) none (.call f_m_Tape_Next [(.tmp 16), (.const (.int .i64 4))]),
          .op (some 18) none (.iaddr 1 (.tmp 15) (.tmp 17)),
          .op (some 19) none (.load false 1 (.tmp 18)),
          .op (some 20) none (.mv (.tmp 0)),
          .op (some 21) none (.call f_m_Tape_Next [(.tmp 20), (.const (.int .i64 3))]),
          .op (some 22) none (.eql false false [.int] (.tmp 21) (.const (.int .i64 2)))] [
          .op (some 23) none (.build [(.int .i64 0), (.string ⟨#[]⟩), (.string ⟨#[]⟩), (.string ⟨#[]⟩), (.string ⟨#[]⟩), (.bool false), (.slice none 0 0)] [(0, 1, (.const (.int .i64 2))), (3, 1, (.tmp 19)), (5, 1, (.tmp 22))]),
          .op none none (.store (some 6) 7 (.tmp 6) (.tmp 23))])
        (.keep [6] [6] (.ret)))
        (.skip))))))))))
  (.keep [0, 1, 2, 6] [6] (.seq (.reg [
    .op (some 24) none (.mv (.tmp 0)),
    .op (some 25) none (.mv (.tmp 1)),
    .op (some 26) none (.mv (.tmp 2)),
    .op (some 27) none (.call f_m_Tape_inner [(.tmp 24), (.tmp 25), (.tmp 26)]),
    .op none none (.store (some 6) 7 (.tmp 6) (.tmp 27))])
  (.keep [6] [6] (.ret))))))
def rs_m_Tape_Cond : List CRes := [.cell 6 true 7]
def im_m_Tape_Cond : List Nat := [2006006]
theorem ok_m_Tape_Cond : FnOk Tryz.prog f_m_Tape_Cond im_m_Tape_Cond cc_m_Tape_Cond rs_m_Tape_Cond 28 := fnOk1 mixed (by kernel_rfl)
/-- (*corpora/corporamade.Tape).inner [P_corporamade_Tape, int, L_string] -> [Cond] -/
def cc_m_Tape_inner : CC :=
  .seq (.reg [
    .op (some 6) none (.alloc ty_Cond [(.int .i64 0), (.string ⟨#[]⟩), (.string ⟨#[]⟩), (.string ⟨#[]⟩), (.string ⟨#[]⟩), (.bool false), (.slice none 0 0)])])
  (.keep [0, 1, 2, 6] [6] (.seq (.reg [
    .op (some 9) none (.mv (.tmp 0)),
    .op (some 10) none (.call f_m_Tape_Next [(.tmp 9), (.const (.int .i64 12))]),
    .op (some 7) none (.mv (.tmp 10))])
  (.keep [0, 1, 2, 6, 7] [6] (seqM 2 (.seq (.reg [
    .op (some 11) none (.mv (.tmp 1)),
    .op (some 12) none (.cmp .lss (.tmp 11) (.const (.int .i64 1)))])
  (.keep [0, 1, 2, 6, 7, 12] [6] (.ite (.tmp 12) (.reg [
      .op (some 13) none (.mv (.tmp 7)),
      .op (some 14) none (.arith .rem (.tmp 13) (.const (.int .i64 8))),
      .op (some 7) none (.mv (.tmp 14))])
    (.skip))))
  (.keep [0, 1, 2, 6, 7] [6] (seqM 4 (.seq (.reg [
    .op (some 15) none (.mv (.tmp 7))])
  (.keep [0, 1, 2, 6, 7, 15] [6] (.block 0 (seqM 6 (.seq (.reg [
      .op (some 17) none (.eql false false [.int] (.tmp 15) (.const (.int .i64 0))),
      .op (some 16) none (.mv (.tmp 17))])
    (.keep [0, 1, 2, 6, 7, 15, 16] [6] (.ite (.tmp 16) (.skip)
      (.seq (.reg [
        .op (some 18) none (.eql false false [.int] (.tmp 15) (.const (.int .i64 1))),
        .op (some 16) none (.mv (.tmp 18))])
      (.keep [0, 1, 2, 6, 7, 15, 16] [6] (.ite (.tmp 16) (.skip)
        (.seq (.reg [
          .op (some 19) none (.eql false false [.int] (.tmp 15) (.const (.int .i64 2))),
          .op (some 16) none (.mv (.tmp 19))])
        (.keep [0, 1, 2, 6, 7, 15, 16] [6] (.ite (.tmp 16) (.skip)
          (.reg [
            .op (some 20) none (.eql false false [.int] (.tmp 15) (.const (.int .i64 3))),
            .op (some 16) none (.mv (.tmp 20))]))))))))))
    (.keep [0, 1, 2, 6, 7, 15, 16] [6] (.ite (.tmp 16) (.seq (.regd [
        .op (some 21) none (.bslice ty_string 1 [(.const (.string ⟨#[119, 111, 114, 100]⟩)), (.const (.string ⟨#[119, 111, 114, 100]⟩)), (.const (.string ⟨#[116, 97, 103]⟩))]),
        .op (some 22) none (.mv (.tmp 0)),
        .op (some 23) none (.call f_m_Tape_Next [(.tmp 22), (.const (.int .i64 3))]),
        .op (some 24) none (.iaddr 1 (.tmp 21) (.tmp 23)),
        .op (some 25) none (.load false 1 (.tmp 24)),
        .op (some 26) none (.bslice ty_string 1 [(.const (.string ⟨#[97]⟩)), (.const (.string ⟨#[98]⟩)), (.const (.string ⟨#[97, 46, 42]⟩)), (.const (.string ⟨#[91, 97, 98, 93]⟩)), (.const (.string ⟨#[88]⟩)), (.const (.string ⟨#[]⟩)), (.const (.string ⟨#[99, 63]⟩)), (.const (.string ⟨#[97, 124, 98]⟩))]),
        .op (some 27) none (.mv (.tmp 0)),
        .op (some 28) none (.call f_m_Tape_Next [(.tmp 27), (.const (.int .i64 8))]),
        .op (some 29) none (.iaddr 1 (.tmp 26) (.tmp 28)),
        .op (some 30) none (.load false 1 (.tmp 29)),
        .op (some 31) none (.mv (.tmp 0)),
        .op (some 32) none (.call f_m_Tape_Next [(.tmp 31), (.const (.int .i64 3))]),
        .op (some 33) none (.eql false false [.int] (.tmp 32) (.const (.int .i64 2)))] [
        .op (some 34) none (.build [(.int .i64 0), (.string ⟨#[]⟩), (.string ⟨#[]⟩), (.string ⟨#[]⟩), (.string ⟨#[]⟩), (.bool false), (.slice none 0 0)] [(0, 1, (.const (.int .i64 2))), (1, 1, (.tmp 25)), (3, 1, (.tmp 30)), (5, 1, (.tmp 33))]),
        .op none none (.store (some 6) 7 (.tmp 6) (.tmp 34))])
      (.keep [6] [6] (.ret)))
      (.seq (.reg [
        .op (some 36) none (.eql false false [.int] (.tmp 15) (.const (.int .i64 4))),
        .op (some 35) none (.mv (.tmp 36))])
      (.keep [0, 1, 2, 6, 7, 15, 35] [6] (.ite (.tmp 35) (.seq (.reg [
          .op (some 37) none (.bslice ty_string 1 [(.const (.string ⟨#[112]⟩)), (.const (.string ⟨#[113]⟩))]),
          .op (some 38) none (.mv (.tmp 0)),
          .op (some 39) none (.call f_m_Tape_Next [(.tmp 38), (.const (.int .i64 2))]),
          .op (some 40) none (.iaddr 1 (.tmp 37) (.tmp 39)),
          .op (some 41) none (.load false 1 (.tmp 40)),
          .op (some 42) none (.build [(.int .i64 0), (.string ⟨#[]⟩), (.string ⟨#[]⟩), (.string ⟨#[]⟩), (.string ⟨#[]⟩), (.bool false), (.slice none 0 0)] [(0, 1, (.const (.int .i64 3))), (1, 1, (.const (.string ⟨#[102, 101, 97, 116]⟩))), (3, 1, (.tmp 41))]),
          .op none none (.store (some 6) 7 (.tmp 6) (.tmp 42))])
        (.keep [6] [6] (.ret)))
        (.seq (.reg [
          .op (some 44) none (.eql false false [.int] (.tmp 15) (.const (.int .i64 5))),
          .op (some 43) none (.mv (.tmp 44))])
        (.keep [0, 1, 2, 6, 7, 15, 43] [6] (.ite (.tmp 43) (.seq /- 14 -/ (.seq (.reg [
            .op (some 45) none (.mv (.tmp 2)),
            .op (some 46) none (.len (.tmp 45)),
            .op (some 47) none (.cmp .gtr (.tmp 46) (.const (.int .i64 0)))])
          (.keep [0, 2, 6, 47] [6] (.ite (.tmp 47) (.seq (.regd [
              .op (some 48) none (.bslice ty_string 1 [(.const (.string ⟨#[119, 111, 114, 100]⟩)), (.const (.string ⟨#[116, 97, 103]⟩))]),
              .op (some 49) none (.mv (.tmp 0)),
              .op (some 50) none (.call f_m_Tape_Next [(.tmp 49), (.const (.int .i64 2))]),
              .op (some 51) none (.iaddr 1 (.tmp 48) (.tmp 50)),
              .op (some 52) none (.load false 1 (.tmp 51)),
              .op (some 53) none (.mv (.tmp 2)),
              .op (some 54) none (.mv (.tmp 0)),
              .op (some 55) none (.mv (.tmp 2)),
              .op (some 56) none (.len (.tmp 55)),
              .op (some 57) none (.call f_m_Tape_Next [(.tmp 54), (.tmp 56)]),
              .op (some 58) none (.iaddr 1 (.tmp 53) (.tmp 57)),
              .op (some 59) none (.load false 1 (.tmp 58)),
              .op (some 60) none (.bslice ty_string 1 [(.const (.string ⟨#[119, 111, 114, 100]⟩)), (.const (.string ⟨#[116, 97, 103]⟩))]),
              .op (some 61) none (.mv (.tmp 0)),
              .op (some 62) none (.call f_m_Tape_Next [(.tmp 61), (.const (.int .i64 2))]),
              .op (some 63) none (.iaddr 1 (.tmp 60) (.tmp 62)),
              .op (some 64) none (.load false 1 (.tmp 63))] [
              .op (some 65) none (.build [(.int .i64 0), (.string ⟨#[]⟩), (.string ⟨#[]⟩), (.string ⟨#[]⟩), (.string ⟨#[]⟩), (.bool false), (.slice none 0 0)] [(0, 1, (.const (.int .i64 4))), (1, 1, (.tmp 52)), (4, 1, (.tmp 59)), (2, 1, (.tmp 64))]),
              .op none none (.store (some 6) 7 (.tmp 6) (.tmp 65))])
            (.keep [6] [6] (.ret)))
            (.skip))))
          (.keep [6] [6] (.seq (.reg [
            .op (some 66) none (.build [(.int .i64 0), (.string ⟨#[]⟩), (.string ⟨#[]⟩), (.string ⟨#[]⟩), (.string ⟨#[]⟩), (.bool false), (.slice none 0 0)] [(0, 1, (.const (.int .i64 2))), (1, 1, (.const (.string ⟨#[116, 97, 103]⟩))), (3, 1, (.const (.string ⟨#[89]⟩)))]),
            .op none none (.store (some 6) 7 (.tmp 6) (.tmp 66))])
          (.keep [6] [6] (.ret)))))
          (seqM 18 (.seq (.reg [
            .op (some 68) none (.eql false false [.int] (.tmp 15) (.const (.int .i64 6))),
            .op (some 67) none (.mv (.tmp 68))])
          (.keep [0, 1, 2, 6, 7, 15, 67] [6] (.ite (.tmp 67) (.skip)
            (.reg [
              .op (some 69) none (.eql false false [.int] (.tmp 15) (.const (.int .i64 7))),
              .op (some 67) none (.mv (.tmp 69))]))))
          (.keep [0, 1, 2, 6, 7, 15, 67] [6] (.ite (.tmp 67) (.seq (.reg [
              .op (some 70) none (.mv (.tmp 0)),
              .op (some 71) none (.call f_m_Tape_Next [(.tmp 70), (.const (.int .i64 3))]),
              .op (some 72) none (.call f_m_Type [(.tmp 71)]),
              .op (some 73) none (.build [(.int .i64 0), (.string ⟨#[]⟩), (.string ⟨#[]⟩), (.string ⟨#[]⟩), (.string ⟨#[]⟩), (.bool false), (.slice none 0 0)] [(0, 1, (.const (.int .i64 5))), (1, 1, (.tmp 72))]),
              .op (some 8) none (.alloc ty_Cond [(.int .i64 0), (.string ⟨#[]⟩), (.string ⟨#[]⟩), (.string ⟨#[]⟩), (.string ⟨#[]⟩), (.bool false), (.slice none 0 0)]),
              .op none none (.store none 7 (.tmp 8) (.tmp 73))])
            (.keep [0, 6, 8] [6, 8] (seqM 21 (.seq (.reg [
              .op (some 74) none (.mv (.tmp 0)),
              .op (some 75) none (.call f_m_Tape_Next [(.tmp 74), (.const (.int .i64 2))]),
              .op (some 76) none (.eql false false [.int] (.tmp 75) (.const (.int .i64 1)))])
            (.keep [0, 6, 8, 76] [6, 8] (.ite (.tmp 76) (.regd [
                .op (some 77) none (.bslice ty_string 1 [(.const (.string ⟨#[49]⟩)), (.const (.string ⟨#[50]⟩))]),
                .op (some 78) none (.mv (.tmp 0)),
                .op (some 79) none (.call f_m_Tape_Next [(.tmp 78), (.const (.int .i64 2))]),
                .op (some 80) none (.iaddr 1 (.tmp 77) (.tmp 79)),
                .op (some 81) none (.load false 1 (.tmp 80)),
                .op (some 82) none (.faddr 2 (.tmp 8)),
                .op none none (.store (some 8) 1 (.tmp 82) (.const (.string ⟨#[110]⟩)))] [
                .op (some 83) none (.faddr 3 (.tmp 8)),
                .op none none (.store (some 8) 1 (.tmp 83) (.tmp 81))])
              (.skip))))
            (.keep [6, 8] [6, 8] (.seq (.reg [
              .op (some 84) none (.load true 7 (.tmp 8)),
              .op none none (.store (some 6) 7 (.tmp 6) (.tmp 84))])
            (.keep [6] [6] (.ret)))))))
            (seqM 24 (.seq (.reg [
              .op (some 86) none (.eql false false [.int] (.tmp 15) (.const (.int .i64 8))),
              .op (some 85) none (.mv (.tmp 86))])
            (.keep [0, 1, 2, 6, 7, 15, 85] [6] (.ite (.tmp 85) (.skip)
              (.reg [
                .op (some 87) none (.eql false false [.int] (.tmp 15) (.const (.int .i64 9))),
                .op (some 85) none (.mv (.tmp 87))]))))
            (.keep [0, 1, 2, 6, 7, 85] [6] (.ite (.tmp 85) (.seq (.reg [
                .op (some 88) none (.mv (.tmp 0)),
                .op (some 89) none (.mv (.tmp 1)),
                .op (some 90) none (.arith .sub (.tmp 89) (.const (.int .i64 1))),
                .op (some 91) none (.mv (.tmp 2)),
                .op (some 92) none (.call f_m_Tape_inner [(.tmp 88), (.tmp 90), (.tmp 91)]),
                .op (some 93) none (.bslice ty_Cond 7 [(.tmp 92)]),
                .op (some 94) none (.build [(.int .i64 0), (.string ⟨#[]⟩), (.string ⟨#[]⟩), (.string ⟨#[]⟩), (.string ⟨#[]⟩), (.bool false), (.slice none 0 0)] [(0, 1, (.const (.int .i64 6))), (6, 1, (.tmp 93))]),
                .op none none (.store (some 6) 7 (.tmp 6) (.tmp 94))])
              (.keep [6] [6] (.ret)))
              (.skip)))))))))))))))))))
  (.keep [0, 1, 2, 6, 7] [6] (.seq (.reg [
    .op (some 95) none (.mv (.tmp 7)),
    .op (some 96) none (.arith .add (.const (.int .i64 7)) (.tmp 95)),
    .op (some 97) none (.arith .sub (.tmp 96) (.const (.int .i64 10))),
    .op (some 98) none (.mv (.tmp 0)),
    .op (some 99) none (.mv (.tmp 1)),
    .op (some 100) none (.arith .sub (.tmp 99) (.const (.int .i64 1))),
    .op (some 101) none (.mv (.tmp 2)),
    .op (some 102) none (.call f_m_Tape_inner [(.tmp 98), (.tmp 100), (.tmp 101)]),
    .op (some 103) none (.mv (.tmp 0)),
    .op (some 104) none (.mv (.tmp 1)),
    .op (some 105) none (.arith .sub (.tmp 104) (.const (.int .i64 1))),
    .op (some 106) none (.mv (.tmp 2)),
    .op (some 107) none (.call f_m_Tape_inner [(.tmp 103), (.tmp 105), (.tmp 106)]),
    .op (some 108) none (.bslice ty_Cond 7 [(.tmp 102), (.tmp 107)]),
    .op (some 109) none (.build [(.int .i64 0), (.string ⟨#[]⟩), (.string ⟨#[]⟩), (.string ⟨#[]⟩), (.string ⟨#[]⟩), (.bool false), (.slice none 0 0)] [(0, 1, (.tmp 97)), (6, 1, (.tmp 108))]),
    .op none none (.store (some 6) 7 (.tmp 6) (.tmp 109))])
  (.keep [6] [6] (.ret))))))))))
def rs_m_Tape_inner : List CRes := [.cell 6 true 7]
def im_m_Tape_inner : List Nat := [2006006, 2006006, 2083008, 2082008]
theorem ok_m_Tape_inner : FnOk Tryz.prog f_m_Tape_inner im_m_Tape_inner cc_m_Tape_inner rs_m_Tape_inner 110 := fnOk1 mixed (by kernel_rfl)
/-- (*corpora/corporamade.Tape).Pattern [P_corporamade_Tape, int, L_string] -> [Pattern] -/
def cc_m_Tape_Pattern : CC :=
  .seq (.reg [
    .op (some 6) none (.alloc ty_Pattern [(.int .i64 0), (.int .i64 0), (.string ⟨#[]⟩), (.string ⟨#[]⟩), (.string ⟨#[]⟩), (.string ⟨#[]⟩), (.bool false), (.slice none 0 0), (.string ⟨#[]⟩), (.string ⟨#[]⟩), (.int .i64 0), (.int .i64 0), (.slice none 0 0)])])
  (.keep [0, 1, 2, 6] [6] (.seq (.reg [
    .op (some 10) none (.mv (.tmp 0)),
    .op (some 11) none (.call f_m_Tape_Next [(.tmp 10), (.const (.int .i64 14))]),
    .op (some 7) none (.mv (.tmp 11))])
  (.keep [0, 1, 2, 6, 7] [6] (seqM 2 (.seq (.reg [
    .op (some 12) none (.mv (.tmp 1)),
    .op (some 13) none (.cmp .lss (.tmp 12) (.const (.int .i64 1)))])
  (.keep [0, 1, 2, 6, 7, 13] [6] (.ite (.tmp 13) (.reg [
      .op (some 14) none (.mv (.tmp 7)),
      .op (some 15) none (.arith .rem (.tmp 14) (.const (.int .i64 7))),
      .op (some 7) none (.mv (.tmp 15))])
    (.skip))))
  (.keep [0, 1, 2, 6, 7] [6] (seqM 4 (.block 0 (.seq (.reg [
      .op (some 17) none (.mv (.tmp 7)),
      .op (some 18) none (.cmp .lss (.tmp 17) (.const (.int .i64 5))),
      .op (some 16) none (.mv (.tmp 18))])
    (.keep [0, 1, 2, 6, 7, 16] [6] (.ite (.tmp 16) (.seq (.reg [
        .op (some 19) none (.mv (.tmp 0)),
        .op (some 20) none (.mv (.tmp 2)),
        .op (some 21) none (.call f_m_Tape_Cond [(.tmp 19), (.const (.int .i64 1)), (.tmp 20)]),
        .op (some 22) none (.build [(.int .i64 0), (.int .i64 0), (.string ⟨#[]⟩), (.string ⟨#[]⟩), (.string ⟨#[]⟩), (.string ⟨#[]⟩), (.bool false), (.slice none 0 0), (.string ⟨#[]⟩), (.string ⟨#[]⟩), (.int .i64 0), (.int .i64 0), (.slice none 0 0)] [(0, 1, (.const (.int .i64 1))), (1, 7, (.tmp 21))]),
        .op (some 8) none (.alloc ty_Pattern [(.int .i64 0), (.int .i64 0), (.string ⟨#[]⟩), (.string ⟨#[]⟩), (.string ⟨#[]⟩), (.string ⟨#[]⟩), (.bool false), (.slice none 0 0), (.string ⟨#[]⟩), (.string ⟨#[]⟩), (.int .i64 0), (.int .i64 0), (.slice none 0 0)]),
        .op none none (.store none 13 (.tmp 8) (.tmp 22))])
      (.keep [0, 2, 6, 8] [6, 8] (seqM 7 (.seq (.reg [
        .op (some 23) none (.mv (.tmp 2)),
        .op (some 24) none (.len (.tmp 23)),
        .op (some 25) none (.cmp .gtr (.tmp 24) (.const (.int .i64 0))),
        .op (some 26) none (.mv (.tmp 25)),
        .op (some 27) (some (26, true)) (.mv (.tmp 0)),
        .op (some 28) (some (26, true)) (.call f_m_Tape_Next [(.tmp 27), (.const (.int .i64 2))]),
        .op (some 29) (some (26, true)) (.eql false false [.int] (.tmp 28) (.const (.int .i64 1))),
        .op (some 30) none (.pick (.tmp 26) (.tmp 29) (.const (.bool false)))])
      (.keep [0, 2, 6, 8, 30] [6, 8] (.ite (.tmp 30) (.reg [
          .op (some 31) none (.mv (.tmp 2)),
          .op (some 32) none (.mv (.tmp 0)),
          .op (some 33) none (.mv (.tmp 2)),
          .op (some 34) none (.len (.tmp 33)),
          .op (some 35) none (.call f_m_Tape_Next [(.tmp 32), (.tmp 34)]),
          .op (some 36) none (.iaddr 1 (.tmp 31) (.tmp 35)),
          .op (some 37) none (.load false 1 (.tmp 36)),
          .op (some 38) none (.faddr 8 (.tmp 8)),
          .op none none (.store none 1 (.tmp 38) (.tmp 37))])
        (.skip))))
      (.keep [6, 8] [6, 8] (.seq (.reg [
        .op (some 39) none (.load true 13 (.tmp 8)),
        .op none none (.store (some 6) 13 (.tmp 6) (.tmp 39))])
      (.keep [6] [6] (.ret)))))))
      (.seq (.reg [
        .op (some 41) none (.mv (.tmp 7)),
        .op (some 42) none (.cmp .lss (.tmp 41) (.const (.int .i64 7))),
        .op (some 40) none (.mv (.tmp 42))])
      (.keep [0, 1, 2, 6, 7, 40] [6] (.ite (.tmp 40) (.seq (.reg [
          .op (some 43) none (.mv (.tmp 7)),
          .op (some 44) none (.arith .add (.const (.int .i64 2)) (.tmp 43)),
          .op (some 45) none (.arith .sub (.tmp 44) (.const (.int .i64 5))),
          .op (some 46) none (.mv (.tmp 0)),
          .op (some 47) none (.call f_m_Tape_Next [(.tmp 46), (.const (.int .i64 3))]),
          .op (some 48) none (.call f_m_Type [(.tmp 47)]),
          .op (some 49) none (.build [(.int .i64 0), (.int .i64 0), (.string ⟨#[]⟩), (.string ⟨#[]⟩), (.string ⟨#[]⟩), (.string ⟨#[]⟩), (.bool false), (.slice none 0 0), (.string ⟨#[]⟩), (.string ⟨#[]⟩), (.int .i64 0), (.int .i64 0), (.slice none 0 0)] [(0, 1, (.tmp 45)), (9, 1, (.tmp 48))]),
          .op none none (.store (some 6) 13 (.tmp 6) (.tmp 49))])
        (.keep [6] [6] (.ret)))
        (.seq (.reg [
          .op (some 51) none (.mv (.tmp 7)),
          .op (some 52) none (.cmp .lss (.tmp 51) (.const (.int .i64 10))),
          .op (some 50) none (.mv (.tmp 52))])
        (.keep [0, 1, 2, 6, 7, 50] [6] (.ite (.tmp 50) (.seq (.reg [
            .op (some 53) none (.mv (.tmp 0)),
            .op (some 54) none (.mv (.tmp 1)),
            .op (some 55) none (.arith .sub (.tmp 54) (.const (.int .i64 1))),
            .op (some 56) none (.mv (.tmp 2)),
            .op (some 57) none (.call f_m_Tape_Pattern [(.tmp 53), (.tmp 55), (.tmp 56)]),
            .op (some 58) none (.mv (.tmp 0)),
            .op (some 59) none (.mv (.tmp 1)),
            .op (some 60) none (.arith .sub (.tmp 59) (.const (.int .i64 1))),
            .op (some 61) none (.mv (.tmp 2)),
            .op (some 62) none (.call f_m_Tape_Pattern [(.tmp 58), (.tmp 60), (.tmp 61)]),
            .op (some 63) none (.bslice ty_Pattern 13 [(.tmp 57), (.tmp 62)]),
            .op (some 64) none (.build [(.int .i64 0), (.int .i64 0), (.string ⟨#[]⟩), (.string ⟨#[]⟩), (.string ⟨#[]⟩), (.string ⟨#[]⟩), (.bool false), (.slice none 0 0), (.string ⟨#[]⟩), (.string ⟨#[]⟩), (.int .i64 0), (.int .i64 0), (.slice none 0 0)] [(0, 1, (.const (.int .i64 4))), (12, 1, (.tmp 63))]),
            .op none none (.store (some 6) 13 (.tmp 6) (.tmp 64))])
          (.keep [6] [6] (.ret)))
          (.seq (.reg [
            .op (some 66) none (.mv (.tmp 7)),
            .op (some 67) none (.cmp .lss (.tmp 66) (.const (.int .i64 12))),
            .op (some 65) none (.mv (.tmp 67))])
          (.keep [0, 1, 2, 6, 65] [6] (.ite (.tmp 65) (.seq (.reg [
              .op (some 68) none (.mv (.tmp 0)),
              .op (some 69) none (.mv (.tmp 1)),
              .op (some 70) none (.arith .sub (.tmp 69) (.const (.int .i64 1))),
              .op (some 71) none (.mv (.tmp 2)),
              .op (some 72) none (.call f_m_Tape_Pattern [(.tmp 68), (.tmp 70), (.tmp 71)]),
              .op (some 73) none (.mv (.tmp 0)),
              .op (some 74) none (.mv (.tmp 1)),
              .op (some 75) none (.arith .sub (.tmp 74) (.const (.int .i64 1))),
              .op (some 76) none (.mv (.tmp 2)),
              .op (some 77) none (.call f_m_Tape_Pattern [(.tmp 73), (.tmp 75), (.tmp 76)]),
              .op (some 78) none (.bslice ty_Pattern 13 [(.tmp 72), (.tmp 77)]),
              .op (some 79) none (.build [(.int .i64 0), (.int .i64 0), (.string ⟨#[]⟩), (.string ⟨#[]⟩), (.string ⟨#[]⟩), (.string ⟨#[]⟩), (.bool false), (.slice none 0 0), (.string ⟨#[]⟩), (.string ⟨#[]⟩), (.int .i64 0), (.int .i64 0), (.slice none 0 0)] [(0, 1, (.const (.int .i64 5))), (12, 1, (.tmp 78))]),
              .op none none (.store (some 6) 13 (.tmp 6) (.tmp 79))])
            (.keep [6] [6] (.ret)))
            (.skip))))))))))))))
  (.keep [0, 1, 2, 6] [6] (.seq (.reg [
    .op (some 80) none (.build [(.int .i64 0), (.int .i64 0)] [(0, 1, (.const (.int .i64 0))), (1, 1, (.const (.int .i64 1)))]),
    .op (some 81) none (.build [(.int .i64 0), (.int .i64 0)] [(0, 1, (.const (.int .i64 0))), (1, 1, (.const (.int .i64 (-1))))]),
    .op (some 82) none (.build [(.int .i64 0), (.int .i64 0)] [(0, 1, (.const (.int .i64 1))), (1, 1, (.const (.int .i64 (-1))))]),
    .op (some 83) none (.build [(.int .i64 0), (.int .i64 0)] [(0, 1, (.const (.int .i64 2))), (1, 1, (.const (.int .i64 2)))]),
    .op (some 84) none (.build [(.int .i64 0), (.int .i64 0)] [(0, 1, (.const (.int .i64 0))), (1, 1, (.const (.int .i64 2)))]),
    .op (some 85) none (.build [(.int .i64 0), (.int .i64 0)] [(0, 1, (.const (.int .i64 1))), (1, 1, (.const (.int .i64 3)))]),
    .op (some 86) none (.build [(.int .i64 0), (.int .i64 0)] [(0, 1, (.const (.int .i64 0))), (1, 1, (.const (.int .i64 0)))]),
    .op (some 87) none (.bslice ty__2_int 2 [(.tmp 80), (.tmp 81), (.tmp 82), (.tmp 83), (.tmp 84), (.tmp 85), (.tmp 86)]),
    .op (some 88) none (.mv (.tmp 0)),
    .op (some 89) none (.call f_m_Tape_Next [(.tmp 88), (.const (.int .i64 7))]),
    .op (some 90) none (.iaddr 2 (.tmp 87) (.tmp 89)),
    .op (some 91) none (.load true 2 (.tmp 90)),
    .op (some 9) none (.alloc ty__2_int [(.int .i64 0), (.int .i64 0)]),
    .op none none (.store none 2 (.tmp 9) (.tmp 91))])
  (.keep [0, 1, 2, 6, 9] [6, 9] (.seq (.regd [
    .op (some 92) none (.faddr 0 (.tmp 9)),
    .op (some 93) none (.load false 1 (.tmp 92)),
    .op (some 94) none (.faddr 1 (.tmp 9)),
    .op (some 95) none (.load false 1 (.tmp 94)),
    .op (some 96) none (.mv (.tmp 0)),
    .op (some 97) none (.mv (.tmp 1)),
    .op (some 98) none (.arith .sub (.tmp 97) (.const (.int .i64 1))),
    .op (some 99) none (.mv (.tmp 2)),
    .op (some 100) none (.call f_m_Tape_Pattern [(.tmp 96), (.tmp 98), (.tmp 99)]),
    .op (some 101) none (.bslice ty_Pattern 13 [(.tmp 100)])] [
    .op (some 102) none (.build [(.int .i64 0), (.int .i64 0), (.string ⟨#[]⟩), (.string ⟨#[]⟩), (.string ⟨#[]⟩), (.string ⟨#[]⟩), (.bool false), (.slice none 0 0), (.string ⟨#[]⟩), (.string ⟨#[]⟩), (.int .i64 0), (.int .i64 0), (.slice none 0 0)] [(0, 1, (.const (.int .i64 6))), (10, 1, (.tmp 93)), (11, 1, (.tmp 95)), (12, 1, (.tmp 101))]),
    .op none none (.store (some 6) 13 (.tmp 6) (.tmp 102))])
  (.keep [6] [6] (.ret))))))))))))
def rs_m_Tape_Pattern : List CRes := [.cell 6 true 13]
def im_m_Tape_Pattern : List Nat := [2006006]
theorem ok_m_Tape_Pattern : FnOk Tryz.prog f_m_Tape_Pattern im_m_Tape_Pattern cc_m_Tape_Pattern rs_m_Tape_Pattern 103 := fnOk1 mixed (by kernel_rfl)
-- m_bind range i=16 n=15 c=17 i2=26 id=0: live [1:labels, 2:p, 4:, 5:kids, 14:] changed [5] res [2, 4, 25]
-- m_replace range i=15 n=14 c=16 i2=24 id=0: live [2:x, 4:, 13:] changed [] res [2, 4, 40]
-- m_replace range i=31 n=30 c=32 i2=41 id=2: live [1:labels, 2:x, 4:, 7:kids, 29:] changed [7] res [2, 4, 40]
-- m_Bound range i=19 n=18 c=20 i2=28 id=0: live [1:out, 2:p, 17:] changed [] res [1, 43]
-- m_Bound range i=37 n=36 c=38 i2=44 id=2: live [1:out, 35:] changed [1] res [1, 43]
-- m_Tape_Constraint while id=0: live [0:t, 6:, 11:x, 12:n] changed [12] res [6, 11, 111]
-- m_Tape_Query while id=0: live [0:t, 4:, 7:q, 8:n] changed [8] res [4, 7, 18, 49]
end Go.Gv

namespace Go.Gv
set_option linter.unusedSimpArgs false
set_option linter.unusedVariables false
/-- A condition of at most n levels below the top, at most two kids each. -/
def CS : Nat → Cond → Prop
  | 0, c => c.kids = []
  | n + 1, c => c.kids.length ≤ 2 ∧ ∀ k ∈ c.kids, CS n k
theorem cs_nil {n : Nat} {c : Cond} (h : c.kids = []) : CS n c := by
  cases n
  · exact h
  · exact ⟨by rw [h]; exact Nat.zero_le _, fun k hk => by rw [h] at hk; simp at hk⟩
theorem cs_one {n m : Nat} {c a : Cond} (hm : n = m + 1) (h : c.kids = [a]) (ha : CS m a) : CS n c := by
  subst hm
  refine ⟨by rw [h]; exact Nat.le_succ _, fun k hk => ?_⟩
  rw [h] at hk
  have : k = a := by simpa using hk
  subst this
  exact ha
theorem cs_two {n m : Nat} {c a b : Cond} (hm : n = m + 1) (h : c.kids = [a, b]) (ha : CS m a) (hb : CS m b) : CS n c := by
  subst hm
  refine ⟨by rw [h]; exact Nat.le_refl _, fun k hk => ?_⟩
  rw [h] at hk
  have : k = a ∨ k = b := by simpa using hk
  rcases this with rfl | rfl
  · exact ha
  · exact hb
theorem cs_same {n : Nat} {c d : Cond} (h : c.kids = d.kids) (hd : CS n d) : CS n c := by
  cases n
  · exact h.trans hd
  · exact ⟨by rw [h]; exact hd.1, fun k hk => hd.2 k (by rw [← h]; exact hk)⟩
/-- A pattern of at most n levels below the top, at most two kids each, with small conditions. -/
def PD : Nat → Pat → Prop
  | 0, p => (∃ m, CS m p.cond) ∧ p.kids = []
  | n + 1, p => (∃ m, CS m p.cond) ∧ p.kids.length ≤ 2 ∧ ∀ k ∈ p.kids, PD n k
theorem pd_nil {n : Nat} {p : Pat} (hc : ∃ m, CS m p.cond) (h : p.kids = []) : PD n p := by
  cases n
  · exact ⟨hc, h⟩
  · exact ⟨hc, by rw [h]; exact Nat.zero_le _, fun k hk => by rw [h] at hk; simp at hk⟩
theorem pd_one {n m : Nat} {p a : Pat} (hm : n = m + 1) (hc : ∃ m, CS m p.cond) (h : p.kids = [a]) (ha : PD m a) : PD n p := by
  subst hm
  refine ⟨hc, by rw [h]; exact Nat.le_succ _, fun k hk => ?_⟩
  rw [h] at hk
  have : k = a := by simpa using hk
  subst this
  exact ha
theorem pd_two {n m : Nat} {p a b : Pat} (hm : n = m + 1) (hc : ∃ m, CS m p.cond) (h : p.kids = [a, b]) (ha : PD m a) (hb : PD m b) : PD n p := by
  subst hm
  refine ⟨hc, by rw [h]; exact Nat.le_refl _, fun k hk => ?_⟩
  rw [h] at hk
  have : k = a ∨ k = b := by simpa using hk
  rcases this with rfl | rfl
  · exact ha
  · exact hb
theorem cs_c0 : ∃ m, CS m Cond0 := ⟨0, rfl⟩
end Go.Gv

namespace Go.Gv
set_option linter.unusedSimpArgs false
set_option linter.unusedVariables false
set_option maxRecDepth 100000
open Cod (enc dec)
variable {S S0 : Nat → Spc}
abbrev s_m_TypeN : Spc := spc (a1 Int) anyX (enc (X := B)) (fun _ y => y ∈ Types)
theorem w_m_TypeN (h1 : S f_m_Mod = s_m_Mod) : Walk cc_m_Type rs_m_Type S (a1 Int) anyX (enc (X := B)) (fun _ y => y ∈ Types) := by
  rintro n -
  simp [cc_m_Type, rs_m_Type, h1]
  have h3 := modI_rng n 3 (by omega)
  refine ⟨h3.1, h3.2, ?_⟩
  have : modI n 3 = 0 ∨ modI n 3 = 1 ∨ modI n 3 = 2 := by omega
  rcases this with h | h | h <;> simp [h, Types, b_s, b_np, b_t]
def P_gen (n : Nat) (x : List Int × Int × List B) : Prop := x.2.1.toNat < n ∧ -10 ≤ x.2.1 ∧ x.2.1 ≤ 100 ∧ x.2.2.length ≤ 1000
def Q_gen (x : List Int × Int × List B) (y : Cond) : Prop := CS x.2.1.toNat y
abbrev s_m_inner (n : Nat) : Spc := spc (aT (a2 Int (List B))) (P_gen n) (enc (X := Cond)) Q_gen
theorem fin_cond {q : Cond → Prop} {H : HMap} {op : Int} {n a v l : B} {f : Bool} {d : D} (ks : List Cond) (hd : FrzTo H d (enc ks)) (hq : q ⟨op, n, a, v, l, f, ks⟩) : Fin enc q (.agg [.v (.int .i64 op), .v (.string n), .v (.string a), .v (.string v), .v (.string l), .v (.bool f), d]) H := by
  refine fin_of (⟨op, n, a, v, l, f, ks⟩ : Cond) ?_ hq
  rw [enc_Cond]
  refine .agg rfl fun k x y hx hy => ?_
  rcases k with _ | _ | _ | _ | _ | _ | _ | k
  · cases hx; cases hy; exact .same _
  · cases hx; cases hy; exact .same _
  · cases hx; cases hy; exact .same _
  · cases hx; cases hy; exact .same _
  · cases hx; cases hy; exact .same _
  · cases hx; cases hy; exact .same _
  · cases hx; cases hy; exact hd
  · simp at hx
theorem strs8 (a b c d e f g h : B) : D.list 1 [.v (.string a), .v (.string b), .v (.string c), .v (.string d), .v (.string e), .v (.string f), .v (.string g), .v (.string h)] = .list 1 (strs [a, b, c, d, e, f, g, h]) := id rfl
theorem strs4 (a b c d : B) : D.list 1 [.v (.string a), .v (.string b), .v (.string c), .v (.string d)] = .list 1 (strs [a, b, c, d]) := id rfl
theorem w_m_inner (n : Nat) (h1 : S f_m_Tape_Next = s_m_Next) (h2 : S f_m_Type = s_m_TypeN) (h3 : S f_m_Tape_inner = s_m_inner n) : Walk cc_m_Tape_inner rs_m_Tape_inner S (aT (a2 Int (List B))) (P_gen (n + 1)) (enc (X := Cond)) Q_gen := by
  rintro ⟨L, deep, lb⟩ ⟨hn, hd0, hd1, hlb⟩
  simp only at hn hd0 hd1 hlb
  simp [cc_m_Tape_inner, rs_m_Tape_inner, h1]
  intro b6 k0 hk0 hk1
  refine vc_mid (X := Int) [0, 1, 2, 6] [6] (fun k => 0 ≤ k ∧ k < 12 ∧ (deep < 1 → k < 8)) (fun k => [(7, enc k)]) (fun _ => []) ?_ ?_
  · simp
    have : k0.tmod 8 = k0 % 8 := Int.tmod_eq_emod_of_nonneg hk0
    rw [this]
    omega
  rintro k ⟨q0, q1, q2⟩
  refine vc_mid (X := Unit) [0, 1, 2, 6, 7] [6] (fun _ => 10 ≤ k) (fun _ => []) (fun _ => []) ?_ ?_
  · simp
    refine vc_mid (X := Bool) [0, 1, 2, 6, 7, 15] [6] (fun b => b = decide (k < 4)) (fun b => [(16, enc b)]) (fun _ => []) ?_ ?_
    · simp
      repeat' first | apply And.intro | intro _
      all_goals first | omega | (rw [Bool.eq_iff_iff]; simp; omega)
    rintro b hb
    simp [h1, strs2, strs3, strs8, strs4, strs_len, strs_at, -Bool.forall_bool]
    refine ⟨fun _ y hy0 hy1 => ⟨hy0, hy1, fun a ha y hy0 hy1 => ⟨hy0, hy1, fun a' ha' y hy0 hy1 => fin_cond [] (.nil _) (cs_nil rfl)⟩⟩, fun hb0 => ?_⟩
    rw [hb0] at hb
    have hb : 4 ≤ k := by simpa using hb.symm
    refine ⟨fun _ y hy0 hy1 => ⟨hy0, hy1, fun a ha => fin_cond [] (.nil _) (cs_nil rfl)⟩, fun k4 => ⟨fun _ _ => ⟨fun hl y hy0 hy1 => ⟨hy0, hy1, fun a ha _ => ⟨by omega, fun y hy => ⟨by omega, by omega, fun a' ha' y hy0 hy1 => ⟨hy0, hy1, fun a'' ha'' => fin_cond [] (.nil _) (cs_nil rfl)⟩⟩⟩⟩, fun _ => fin_cond [] (.nil _) (cs_nil rfl)⟩, fun k5 => ?_⟩⟩
    refine vc_mid (X := Bool) [0, 1, 2, 6, 7, 15] [6] (fun b => b = decide (k = 6 ∨ k = 7)) (fun b => [(67, enc b)]) (fun _ => []) ?_ ?_
    · simp
      repeat' first | apply And.intro | intro _
      all_goals first | omega | (rw [Bool.eq_iff_iff]; simp; omega)
    rintro b hb2
    simp [h1, h2, -Bool.forall_bool]
    refine ⟨fun _ y hy0 hy1 => ⟨trivial, fun t ht b8 => ?_⟩, fun hb0 => ?_⟩
    · refine vc_mid (X := B × B) [6, 8] [6] (fun _ => True) (fun _ => []) (fun x => [(8, .box b8 [.v (.int .i64 5), .v (.string t), .v (.string x.1), .v (.string x.2), .v (.string ⟨#[]⟩), .v (.bool false), .v (.slice none 0 0)])]) ?_ ?_
      · simp [h1, strs2, strs_len, strs_at]
        refine fun y hy0 hy1 => ⟨fun _ z hz0 hz1 => ⟨hz0, hz1, fun a ha => ⟨_, _, .inl ⟨rfl, rfl⟩⟩⟩, fun _ => ⟨_, _, .inl ⟨rfl, rfl⟩⟩⟩
      · rintro ⟨a, v⟩ -
        simp
        exact fin_cond [] (.nil _) (cs_nil rfl)
    rw [hb0] at hb2
    have hb2 : ¬ (k = 6 ∨ k = 7) := by simpa using hb2.symm
    refine vc_mid (X := Bool) [0, 1, 2, 6, 7, 15] [6] (fun b => b = decide (k = 8 ∨ k = 9)) (fun b => [(85, enc b)]) (fun _ => []) ?_ ?_
    · simp
      repeat' first | apply And.intro | intro _
      all_goals first | omega | (rw [Bool.eq_iff_iff]; simp; omega)
    rintro b hb3
    simp [h3, -Bool.forall_bool]
    have hrec : 1 ≤ deep → P_gen n (L, deep - 1, lb) := fun h => ⟨by show (deep - 1).toNat < n; omega, by show -10 ≤ deep - 1; omega, by show deep - 1 ≤ 100; omega, hlb⟩
    refine ⟨fun hb1 => ?_, fun hb0 => ?_⟩
    · rw [hb1] at hb3
      have hb3 : k = 8 ∨ k = 9 := by simpa using hb3.symm
      have hdn : deep.toNat = (deep - 1).toNat + 1 := by omega
      refine ⟨by simp only [InR]; omega, hrec (by omega), fun y hy => fin_cond [y] (by simp) (cs_one hdn rfl hy)⟩
    rw [hb0] at hb3
    have hb3 : ¬ (k = 8 ∨ k = 9) := by simpa using hb3.symm
    omega
  · rintro - hk
    have hrec : P_gen n (L, deep - 1, lb) := ⟨by show (deep - 1).toNat < n; omega, by show -10 ≤ deep - 1; omega, by show deep - 1 ≤ 100; omega, hlb⟩
    have hdn : deep.toNat = (deep - 1).toNat + 1 := by omega
    simp [h3]
    refine ⟨by simp only [InR]; omega, by simp only [InR]; omega, by simp only [InR]; omega, hrec, fun y hy => ⟨by simp only [InR]; omega, hrec, fun y' hy' => fin_cond [y, y'] (by simp) (cs_two hdn rfl hy hy')⟩⟩
abbrev s_m_Cond : Spc := spc (aT (a2 Int (List B))) (fun x => -10 ≤ x.2.1 ∧ x.2.1 ≤ 100 ∧ x.2.2.length ≤ 1000) (enc (X := Cond)) Q_gen
abbrev s_m_innerA : Spc := spc (aT (a2 Int (List B))) (fun x => ∃ n, P_gen n x) (enc (X := Cond)) Q_gen
theorem w_m_Cond (h1 : S f_m_Tape_Next = s_m_Next) (h3 : S f_m_Tape_inner = s_m_innerA) : Walk cc_m_Tape_Cond rs_m_Tape_Cond S (aT (a2 Int (List B))) (fun x => -10 ≤ x.2.1 ∧ x.2.1 ≤ 100 ∧ x.2.2.length ≤ 1000) (enc (X := Cond)) Q_gen := by
  rintro ⟨L, deep, lb⟩ ⟨hd0, hd1, hlb⟩
  simp only at hd0 hd1 hlb
  simp [cc_m_Tape_Cond, rs_m_Tape_Cond, h1]
  intro b6
  refine vc_mid (X := Unit) [0, 1, 2, 6] [6] (fun _ => True) (fun _ => []) (fun _ => []) ?_ ?_
  · simp [h1, strs4, strs_len, strs_at, -Bool.forall_bool]
    exact fun y _ _ => ⟨fun _ => fin_cond [] (.nil _) (cs_nil rfl), fun _ => ⟨fun _ z z0 z1 => ⟨z0, z1, fun a _ u _ _ => fin_cond [] (.nil _) (cs_nil rfl)⟩, fun _ _ z z0 z1 => ⟨z0, z1, fun a _ u _ _ => fin_cond [] (.nil _) (cs_nil rfl)⟩⟩⟩
  · rintro - -
    have hrec : ∃ n, P_gen n (L, deep, lb) := ⟨deep.toNat + 1, Nat.lt_succ_self _, hd0, hd1, hlb⟩
    simp [h3, hrec]
    exact fun y hy => fin_cond y.kids (.same _) (cs_same (d := y) rfl hy)
theorem fin_pat {q : Pat → Prop} {H : HMap} {op o : Int} {n a v l lb rg : B} {f : Bool} {cd d : D} {mn mx : Int} (cks : List Cond) (ks : List Pat) (hc : FrzTo H cd (enc cks)) (hd : FrzTo H d (enc ks)) (hq : q ⟨op, ⟨o, n, a, v, l, f, cks⟩, lb, rg, mn, mx, ks⟩) :
    Fin enc q (.agg [.v (.int .i64 op), .v (.int .i64 o), .v (.string n), .v (.string a), .v (.string v), .v (.string l), .v (.bool f), cd, .v (.string lb), .v (.string rg), .v (.int .i64 mn), .v (.int .i64 mx), d]) H := by
  refine fin_of (⟨op, ⟨o, n, a, v, l, f, cks⟩, lb, rg, mn, mx, ks⟩ : Pat) ?_ hq
  rw [enc_Pat]
  refine .agg rfl fun k x y hx hy => ?_
  rcases k with _ | _ | _ | _ | _ | _ | _ | _ | _ | _ | _ | _ | _ | k
  · cases hx; cases hy; exact .same _
  · cases hx; cases hy; exact .same _
  · cases hx; cases hy; exact .same _
  · cases hx; cases hy; exact .same _
  · cases hx; cases hy; exact .same _
  · cases hx; cases hy; exact .same _
  · cases hx; cases hy; exact .same _
  · cases hx; cases hy; exact hc
  · cases hx; cases hy; exact .same _
  · cases hx; cases hy; exact .same _
  · cases hx; cases hy; exact .same _
  · cases hx; cases hy; exact .same _
  · cases hx; cases hy; exact hd
  · simp at hx
def P_pat (n : Nat) (x : List Int × Int × List B) : Prop := x.2.1.toNat < n ∧ -10 ≤ x.2.1 ∧ x.2.1 ≤ 100 ∧ x.2.2.length ≤ 1000
def Q_pat (x : List Int × Int × List B) (p : Pat) : Prop := WP x.2.2 x.2.1.toNat p ∧ PD x.2.1.toNat p
abbrev s_m_Pattern (n : Nat) : Spc := spc (aT (a2 Int (List B))) (P_pat n) (enc (X := Pat)) Q_pat
theorem w_m_Pattern (n : Nat) (h1 : S f_m_Tape_Next = s_m_Next) (h2 : S f_m_Type = s_m_TypeN) (h3 : S f_m_Tape_Cond = s_m_Cond) (h4 : S f_m_Tape_Pattern = s_m_Pattern n) : Walk cc_m_Tape_Pattern rs_m_Tape_Pattern S (aT (a2 Int (List B))) (P_pat (n + 1)) (enc (X := Pat)) Q_pat := by
  rintro ⟨L, deep, lb⟩ ⟨hn, hd0, hd1, hlb⟩
  simp only at hn hd0 hd1 hlb
  simp [cc_m_Tape_Pattern, rs_m_Tape_Pattern, h1]
  intro b6 k0 hk0 hk1
  refine vc_mid (X := Int) [0, 1, 2, 6] [6] (fun k => 0 ≤ k ∧ k < 14 ∧ (deep < 1 → k < 7)) (fun k => [(7, enc k)]) (fun _ => []) ?_ ?_
  · simp
    have : k0.tmod 7 = k0 % 7 := Int.tmod_eq_emod_of_nonneg hk0
    rw [this]
    omega
  rintro k ⟨q0, q1, q2⟩
  refine vc_mid (X := Unit) [0, 1, 2, 6] [6] (fun _ => 12 ≤ k) (fun _ => []) (fun _ => []) ?_ ?_
  · have hrec : 1 ≤ deep → P_pat n (L, deep - 1, lb) := fun h => ⟨by show (deep - 1).toNat < n; omega, by show -10 ≤ deep - 1; omega, by show deep - 1 ≤ 100; omega, hlb⟩
    have hdn : 1 ≤ deep → deep.toNat = (deep - 1).toNat + 1 := fun h => by omega
    simp [h1, h2, h3, h4, -Bool.forall_bool]
    refine ⟨fun hk => ⟨hlb, fun c hc b8 => ?_⟩, fun hk => ⟨fun hk7 => ⟨by simp only [InR]; omega, by simp only [InR]; omega, fun y _ _ => ⟨trivial, fun t ht => fin_pat [] [] (.nil _) (.nil _) ⟨wp0 (.inr ⟨by show (2 + k - 5 = 2 ∨ 2 + k - 5 = 3); omega, rfl, rfl, ht, rfl, rfl, rfl⟩), pd_nil cs_c0 rfl⟩⟩⟩, fun hk7 => ⟨fun hk10 => ⟨by simp only [InR]; omega, hrec (by omega), fun y hy => ⟨by simp only [InR]; omega, hrec (by omega), fun y' hy' => ?_⟩⟩, fun hk10 hk12 => ⟨by simp only [InR]; omega, hrec (by omega), fun y hy => ⟨by simp only [InR]; omega, hrec (by omega), fun y' hy' => ?_⟩⟩⟩⟩⟩
    · refine vc_mid (X := B) [6, 8] [6] (fun x => x = ⟨#[]⟩ ∨ x ∈ lb) (fun _ => []) (fun x => [(8, .box b8 [.v (.int .i64 1), .v (.int .i64 c.op), .v (.string c.name), .v (.string c.arg), .v (.string c.val), .v (.string c.lab), .v (.bool c.fold), enc c.kids, .v (.string x), .v (.string ⟨#[]⟩), .v (.int .i64 0), .v (.int .i64 0), .v (.slice none 0 0)])]) ?_ ?_
      · simp [h1]
        exact fun _ h0 y _ _ _ _ => ⟨by omega, fun z hz => ⟨by omega, by omega, fun a ha => .inr ⟨a, mem_at ha, .inl rfl⟩⟩⟩
      · rintro x hx
        simp
        exact fin_pat c.kids [] (.same _) (.nil _) ⟨wp0 (.inl ⟨rfl, hx, rfl, rfl, rfl, rfl⟩), pd_nil ⟨_, cs_same (d := c) rfl hc⟩ rfl⟩
    · refine fin_pat [] [y, y'] (.nil _) (by simp) ?_
      refine ⟨?_, pd_two (hdn (by omega)) cs_c0 rfl hy.2 hy'.2⟩
      show WP lb deep.toNat _
      rw [hdn (by omega)]
      exact .inr (.inl ⟨.inl rfl, rfl, rfl, rfl, rfl, rfl, y, y', rfl, hy.1, hy'.1⟩)
    · refine fin_pat [] [y, y'] (.nil _) (by simp) ?_
      refine ⟨?_, pd_two (hdn (by omega)) cs_c0 rfl hy.2 hy'.2⟩
      show WP lb deep.toNat _
      rw [hdn (by omega)]
      exact .inr (.inl ⟨.inr rfl, rfl, rfl, rfl, rfl, rfl, y, y', rfl, hy.1, hy'.1⟩)
  · rintro - hk
    have hrec : P_pat n (L, deep - 1, lb) := ⟨by show (deep - 1).toNat < n; omega, by show -10 ≤ deep - 1; omega, by show deep - 1 ≤ 100; omega, hlb⟩
    have hdn : deep.toNat = (deep - 1).toNat + 1 := by omega
    have fin : ∀ (mn mx : Int) (y : Pat) (H : HMap), (mn, mx) ∈ Reps → Q_pat (L, deep - 1, lb) y → Fin enc (Q_pat (L, deep, lb)) (.agg [.v (.int .i64 6), .v (.int .i64 0), .v (.string ⟨#[]⟩), .v (.string ⟨#[]⟩), .v (.string ⟨#[]⟩), .v (.string ⟨#[]⟩), .v (.bool false), .v (.slice none 0 0), .v (.string ⟨#[]⟩), .v (.string ⟨#[]⟩), .v (.int .i64 mn), .v (.int .i64 mx), .list 13 [enc y]]) H := by
      intro mn mx y H hm hy
      refine fin_pat [] [y] (.nil _) (by simp) ?_
      refine ⟨?_, pd_one hdn cs_c0 rfl hy.2⟩
      show WP lb deep.toNat _
      rw [hdn]
      exact .inr (.inr ⟨rfl, rfl, rfl, rfl, hm, y, rfl, hy.1⟩)
    simp only [enc_Pat] at fin
    simp [h1, h4]
    intro y hy0 hy1
    refine ⟨hy0, hy1, fun d hd => ?_⟩
    have : y = 0 ∨ y = 1 ∨ y = 2 ∨ y = 3 ∨ y = 4 ∨ y = 5 ∨ y = 6 := by omega
    rcases this with rfl | rfl | rfl | rfl | rfl | rfl | rfl
    all_goals (simp at hd; subst hd; simp [h4])
    all_goals exact ⟨by simp only [InR]; omega, hrec, fun y hy => fin _ _ y _ (by simp [Reps]) hy⟩
end Go.Gv

namespace Go.Gv
set_option linter.unusedSimpArgs false
set_option linter.unusedVariables false
set_option maxRecDepth 100000
open Cod (enc dec)
variable {S S0 : Nat → Spc}
@[simp] abbrev F_alt (n : Nat) (s : Pst) (_ : Unit) : Option (Pst × Pat) := altF n s
abbrev s_alt (n : Nat) : Spc := psF a0 (enc (X := Pat)) (F_alt n)
@[simp] abbrev F_item (A : Pst → Option (Pst × Pat)) (s : Pst) (_ : Unit) : Option (Pst × Pat) := itemF A s
abbrev s_item (A : Pst → Option (Pst × Pat)) : Spc := psF a0 (enc (X := Pat)) (F_item A)
@[simp] abbrev F_rep (A : Pst → Option (Pst × Pat)) (s : Pst) (_ : Unit) : Option (Pst × Pat) := repF A s
abbrev s_rep (A : Pst → Option (Pst × Pat)) : Spc := psF a0 (enc (X := Pat)) (F_rep A)
@[simp] abbrev F_seq (A : Pst → Option (Pst × Pat)) (s : Pst) (_ : Unit) : Option (Pst × Pat) := seqF A s
abbrev s_seq (A : Pst → Option (Pst × Pat)) : Spc := psF a0 (enc (X := Pat)) (F_seq A)
theorem frz_pat {H : HMap} {op o : Int} {n a v l lb rg : B} {f : Bool} {cd d : D} {mn mx : Int} (cks : List Cond) (ks : List Pat) (hc : FrzTo H cd (enc cks)) (hd : FrzTo H d (enc ks)) :
    FrzTo H (.agg [.v (.int .i64 op), .v (.int .i64 o), .v (.string n), .v (.string a), .v (.string v), .v (.string l), .v (.bool f), cd, .v (.string lb), .v (.string rg), .v (.int .i64 mn), .v (.int .i64 mx), d]) (enc (⟨op, ⟨o, n, a, v, l, f, cks⟩, lb, rg, mn, mx, ks⟩ : Pat)) := by
  rw [enc_Pat]
  refine .agg rfl fun k x y hx hy => ?_
  rcases k with _ | _ | _ | _ | _ | _ | _ | _ | _ | _ | _ | _ | _ | k
  · cases hx; cases hy; exact .same _
  · cases hx; cases hy; exact .same _
  · cases hx; cases hy; exact .same _
  · cases hx; cases hy; exact .same _
  · cases hx; cases hy; exact .same _
  · cases hx; cases hy; exact .same _
  · cases hx; cases hy; exact .same _
  · cases hx; cases hy; exact hc
  · cases hx; cases hy; exact .same _
  · cases hx; cases hy; exact .same _
  · cases hx; cases hy; exact .same _
  · cases hx; cases hy; exact .same _
  · cases hx; cases hy; exact hd
  · simp at hx
theorem finP {b : Nat} {post : Pst → Pat → Prop} {H : HMap} {op o : Int} {n a v l lb rg : B} {f : Bool} {cd d : D} {mn mx : Int} (s : Pst) (cks : List Cond) (ks : List Pat) (hc : FrzTo (fun i => if i = 0 then none else H i) cd (enc cks)) (hd : FrzTo (fun i => if i = 0 then none else H i) d (enc ks))
    (h0 : H 0 = some (.box b (cePst s))) (hq : post s ⟨op, ⟨o, n, a, v, l, f, cks⟩, lb, rg, mn, mx, ks⟩) :
    FinPS enc b post (.agg [.v (.int .i64 op), .v (.int .i64 o), .v (.string n), .v (.string a), .v (.string v), .v (.string l), .v (.bool f), cd, .v (.string lb), .v (.string rg), .v (.int .i64 mn), .v (.int .i64 mx), d]) H :=
  finPS s _ (frz_pat cks ks hc hd) h0 hq
theorem eatF_cases {s : Pst} {t : B} {r : Pst × Bool} (h : eatF s t = some r) : (r = (s, false) ∧ isF s 111 t = some false) ∨ (r = (s.step, true) ∧ isF s 111 t = some true) := by
  unfold eatF at h
  obtain ⟨v, hv, rfl⟩ := Option.map_eq_some_iff.1 h
  cases v
  · exact .inl ⟨rfl, hv⟩
  · exact .inr ⟨rfl, hv⟩
theorem eat_no {s : Pst} {x : Tok} {t : B} (he : s.e = 0) (hx : nowT s = some x) (h : ¬ (x.kind = 111 ∧ x.text = t)) : eatF s t = some (s, false) := by
  rw [eatF, kind_eq he hx, decide_eq_false h]; rfl
theorem eat_yes {s : Pst} {x : Tok} {t : B} (he : s.e = 0) (hx : nowT s = some x) (h1 : x.kind = 111) (h2 : x.text = t) : eatF s t = some (s.step, true) := by
  rw [eatF, kind_eq he hx, decide_eq_true ⟨h1, h2⟩]; rfl
theorem w_item (n : Nat) (h1 : S f_r23_parser_now = s_now) (h2 : S f_r23_parser_eat = s_eat) (h3 : S f_r23_parser_want = s_want) (h4 : S f_r23_parser_fold = s_fold) (h5 : S f_r23_parser_alt = s_alt n) :
    WalkPS cc_r23_parser_item rs_r23_parser_item S a0 (enc (X := Pat)) (fun s z => ∃ r, F_item (altF n) s z = some r) (fun s z s' y => F_item (altF n) s z = some (s', y)) := by
  rintro b s ⟨⟩ ⟨⟨s', y⟩, hr⟩
  have hr0 := hr
  simp only [F_item, itemF] at hr
  obtain ⟨⟨s1, v⟩, he1, hr⟩ := Option.bind_eq_some_iff.1 hr
  rcases eatF_cases he1 with ⟨e, hi⟩ | ⟨e, hi⟩
  · cases e
    simp only [Bool.false_eq_true, if_false] at hr
    split at hr
    · cases hr
    rename_i he
    have he : s.e = 0 := by simpa using he
    obtain ⟨x, hx, hr⟩ := Option.bind_eq_some_iff.1 hr
    split at hr
    · cases hr
    rename_i hk
    have hk : x.kind = 115 := by simpa using hk
    obtain ⟨⟨s2, w⟩, hf, hr⟩ := Option.map_eq_some_iff.1 hr
    cases hr
    have n2 : eatF s ⟨#[60]⟩ = some (s, false) := eat_no he hx (by omega)
    have n3 : eatF s ⟨#[60, 47]⟩ = some (s, false) := eat_no he hx (by omega)
    have hw : wantF s 115 ⟨#[]⟩ = some (s.step, x.text) := by
      rw [wantF, if_neg (by simp [he]), hx, Option.bind_some, if_neg (by rw [hk]; simp)]
    simp [cc_r23_parser_item, rs_r23_parser_item, h1, h2, he1, n2, n3, he, eta0 he, hx, hk, h3, h4, hw, hf, -Bool.forall_bool, -Bool.exists_bool]
    exact fun b1 => finP s2 [] [] (.nil _) (.nil _) (by simp) hr0
  · cases e
    simp only [if_true] at hr
    obtain ⟨he, x, hx, _⟩ := isF_true hi
    split at hr
    · rename_i hdp
      obtain ⟨⟨s2, p⟩, ha, hr⟩ := Option.bind_eq_some_iff.1 hr
      simp only at ha hr
      split at hr
      · rename_i hdp2
        obtain ⟨⟨s3, w⟩, hw, hr⟩ := Option.map_eq_some_iff.1 hr
        cases hr
        have hd0 : InR .i64 (s.deep + 1) := by simp only [InR]; omega
        have hd1 : InR .i64 (s2.deep - 1) := by simp only [InR]; omega
        simp [Pst.step] at ha
        simp [cc_r23_parser_item, rs_r23_parser_item, h2, he1, h5, h3, Pst.step, hd0, hd1, ha, hw, -Bool.forall_bool, -Bool.exists_bool]
        exact fun b1 => finPS s3 y (by simp) (by simp) hr0
      · cases hr
    · cases hr
end Go.Gv

namespace Go.Gv
set_option linter.unusedSimpArgs false
set_option linter.unusedVariables false
set_option maxRecDepth 100000
open Cod (enc dec)
variable {S S0 : Nat → Spc}
theorem oneOr_n {op : Int} {l : List Pat} (h : l.length ≠ 1) : oneOr op l = ⟨op, Cond0, E0, E0, 0, 0, l⟩ := by
  match l, h with
  | [], _ => rfl
  | [x], h => exact absurd rfl h
  | x :: y :: l, _ => rfl
@[simp] abbrev F_altS (A : Pst → Option (Pst × Pat)) (s : Pst) (_ : Unit) : Option (Pst × Pat) := altS A s
theorem w_seq (A : Pst → Option (Pst × Pat)) (h1 : S f_r23_parser_begins = s_begins23) (h2 : S f_r23_parser_rep = s_rep A) :
    WalkPS cc_r23_parser_seq rs_r23_parser_seq S a0 (enc (X := Pat)) (fun s z => ∃ r, F_seq A s z = some r) (fun s z s' y => F_seq A s z = some (s', y)) := by
  rintro b s ⟨⟩ ⟨⟨s', y⟩, hr⟩
  have hr0 := hr
  simp only [F_seq, seqF] at hr
  obtain ⟨⟨s1, x1⟩, hi, hr⟩ := Option.bind_eq_some_iff.1 hr
  obtain ⟨⟨s2, l2⟩, hl, hr⟩ := Option.map_eq_some_iff.1 hr
  simp only at hl hr
  cases hr
  simp [cc_r23_parser_seq, rs_r23_parser_seq, h2, hi]
  intro b2 v0
  refine vc_while (X := Nat × Pst × Value × List Pat) [0, 2] [2] (fun z => seqLoop A z.1 z.2.1 z.2.2.2 = some (s', l2) ∧ z.2.2.2.length + z.1 ≤ 101) (fun z => [(3, .own 6 z.2.2.1)]) (fun z => [(0, .box b (cePst z.2.1)), (6, .row z.2.2.1 ty_Pattern 13 (z.2.2.2.map enc))]) (fun z => z.1) (100, s1, v0, [x1]) ⟨hl, by simp⟩ (by simp) (by simp) ?_
  clear hr hl hi
  rintro ⟨k, s, v, l⟩ ⟨hk, hlen⟩
  simp only at hk hlen
  obtain _ | k := k
  · rw [seqLoop] at hk; cases hk
  rw [seqLoop] at hk
  obtain ⟨v1, hb, hk⟩ := Option.bind_eq_some_iff.1 hk
  cases v1
  · simp only [Bool.false_eq_true, if_false] at hk
    cases hk
    simp [h1, hb, -Bool.forall_bool, -Bool.exists_bool]
    clear h1 h2
    refine fun _ => ⟨fun h1 => ⟨by omega, fun a ha => ?_⟩, fun hne => ?_⟩
    · have e : l2 = [a] := by
        match l2, h1, ha with
        | [x], _, ha => simp at ha; rw [ha]
      rw [e] at hr0
      exact finPS s' a (by simp) (by simp) hr0
    · rw [oneOr_n (by omega)] at hr0
      exact finP s' [] l2 (.nil _) (fz_o ty_Pattern (by simp)) (by simp) hr0
  · simp only [if_true] at hk
    obtain ⟨⟨s3, x3⟩, hx, hk⟩ := Option.bind_eq_some_iff.1 hk
    simp only at hk
    simp [h1, hb, h2, hx, -Bool.forall_bool, -Bool.exists_bool]
    exact ⟨by omega, by omega, fun v' => ⟨k, s3, v', l ++ [x3], ⟨hk, by simp; omega⟩, ⟨rfl, .inl ⟨rfl, rfl, rfl, rfl, rfl⟩, .inl ⟨rfl, by simp⟩⟩, by omega⟩⟩
theorem w_alt (A : Pst → Option (Pst × Pat)) (h1 : S f_r23_parser_eat = s_eat) (h2 : S f_r23_parser_seq = s_seq A) :
    WalkPS cc_r23_parser_alt rs_r23_parser_alt S a0 (enc (X := Pat)) (fun s z => ∃ r, F_altS A s z = some r) (fun s z s' y => F_altS A s z = some (s', y)) := by
  rintro b s ⟨⟩ ⟨⟨s', y⟩, hr⟩
  have hr0 := hr
  simp only [F_altS, altS] at hr
  obtain ⟨⟨s1, x1⟩, hi, hr⟩ := Option.bind_eq_some_iff.1 hr
  obtain ⟨⟨s2, l2⟩, hl, hr⟩ := Option.map_eq_some_iff.1 hr
  simp only at hl hr
  cases hr
  simp [cc_r23_parser_alt, rs_r23_parser_alt, h2, hi]
  intro b2 v0
  refine vc_while (X := Nat × Pst × Value × List Pat) [0, 2] [2] (fun z => altLoop A z.1 z.2.1 z.2.2.2 = some (s', l2) ∧ z.2.2.2.length + z.1 ≤ 101) (fun z => [(3, .own 6 z.2.2.1)]) (fun z => [(0, .box b (cePst z.2.1)), (6, .row z.2.2.1 ty_Pattern 13 (z.2.2.2.map enc))]) (fun z => z.1) (100, s1, v0, [x1]) ⟨hl, by simp⟩ (by simp) (by simp) ?_
  clear hr hl hi
  rintro ⟨k, s, v, l⟩ ⟨hk, hlen⟩
  simp only at hk hlen
  obtain _ | k := k
  · rw [altLoop] at hk; cases hk
  rw [altLoop] at hk
  obtain ⟨⟨s4, v1⟩, hb, hk⟩ := Option.bind_eq_some_iff.1 hk
  simp only at hk
  cases v1
  · simp only [Bool.false_eq_true, if_false] at hk
    cases hk
    simp [h1, hb, -Bool.forall_bool, -Bool.exists_bool]
    clear h1 h2
    refine fun _ => ⟨fun h1 => ⟨by omega, fun a ha => ?_⟩, fun hne => ?_⟩
    · have e : l2 = [a] := by
        match l2, h1, ha with
        | [x], _, ha => simp at ha; rw [ha]
      rw [e] at hr0
      exact finPS s' a (by simp) (by simp) hr0
    · rw [oneOr_n (by omega)] at hr0
      exact finP s' [] l2 (.nil _) (fz_o ty_Pattern (by simp)) (by simp) hr0
  · simp only [if_true] at hk
    obtain ⟨⟨s3, x3⟩, hx, hk⟩ := Option.bind_eq_some_iff.1 hk
    simp only at hk
    simp [h1, hb, h2, hx, -Bool.forall_bool, -Bool.exists_bool]
    exact ⟨by omega, by omega, fun v' => ⟨k, s3, v', l ++ [x3], ⟨hk, by simp; omega⟩, ⟨rfl, .inl ⟨rfl, rfl, rfl, rfl, rfl⟩, .inl ⟨rfl, by simp⟩⟩, by omega⟩⟩
end Go.Gv
