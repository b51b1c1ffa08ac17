/- A part of the framework and of the walks: C4. -/
import Derived.Test.YtblcfloekekefaaGreatGx12

namespace Go.Gv
open Go.Proofs
/-- (*corpora/corporamade.Tape).Cond [P_corporamade_Tape, int, L_string] -> [Cond] -/
def cc_m_Tape_Cond : CC :=
  .seq (.reg [
    .op (some 6) none (.alloc ty_Cond [(.int .i64 0), (.string ⟨#[]⟩), (.string ⟨#[]⟩), (.string ⟨#[]⟩), (.string ⟨#[]⟩), (.bool false), (.slice none 0 0)])])
  (.keep [0, 1, 2, 6] [6] (seqM 1 (.seq (.reg [
    .op (some 7) none (.mv (.tmp 0)),
    .op (some 8) none (.call f_m_Tape_Next [(.tmp 7), (.const (.int .i64 8))])])
  (.keep [0, 1, 2, 6, 8] [6] (.block 0 (.seq (.reg [
      .op (some 10) none (.eql false false [.int] (.tmp 8) (.const (.int .i64 0))),
      .op (some 9) none (.mv (.tmp 10))])
    (.keep [0, 1, 2, 6, 8, 9] [6] (.ite (.tmp 9) (.seq (.reg [
        .op (some 11) none (.build [(.int .i64 0), (.string ⟨#[]⟩), (.string ⟨#[]⟩), (.string ⟨#[]⟩), (.string ⟨#[]⟩), (.bool false), (.slice none 0 0)] [(0, 1, (.const (.int .i64 1)))]),
        .op none none (.store (some 6) 7 (.tmp 6) (.tmp 11))])
      (.keep [6] [6] (.ret)))
      (.seq /- 5 -/ (.seq (.reg [
        .op (some 13) none (.eql false false [.int] (.tmp 8) (.const (.int .i64 1))),
        .op (some 12) none (.mv (.tmp 13))])
      (.keep [0, 1, 2, 6, 8, 12] [6] (.ite (.tmp 12) (.skip)
        (.reg [
          .op (some 14) none (.eql false false [.int] (.tmp 8) (.const (.int .i64 2))),
          .op (some 12) none (.mv (.tmp 14))]))))
      (.keep [0, 1, 2, 6, 12] [6] (.ite (.tmp 12) (.seq (.regd [
          .op (some 15) none (.bslice ty_string 1 [(.const (.string ⟨#[97]⟩)), (.const (.string ⟨#[98]⟩)), (.const (.string ⟨#[97, 46, 42]⟩)), (.const (.string ⟨#[91, 97, 98, 93]⟩))]),
          .op (some 16) none (.mv (.tmp 0)),
          .op (some 17) none (.call f_m_Tape_Next [(.tmp 16), (.const (.int .i64 4))]),
          .op (some 18) none (.iaddr 1 (.tmp 15) (.tmp 17)),
          .op (some 19) none (.load false 1 (.tmp 18)),
          .op (some 20) none (.mv (.tmp 0)),
          .op (some 21) none (.call f_m_Tape_Next [(.tmp 20), (.const (.int .i64 3))]),
          .op (some 22) none (.eql false false [.int] (.tmp 21) (.const (.int .i64 2)))] [
          .op (some 23) none (.build [(.int .i64 0), (.string ⟨#[]⟩), (.string ⟨#[]⟩), (.string ⟨#[]⟩), (.string ⟨#[]⟩), (.bool false), (.slice none 0 0)] [(0, 1, (.const (.int .i64 2))), (3, 1, (.tmp 19)), (5, 1, (.tmp 22))]),
          .op none none (.store (some 6) 7 (.tmp 6) (.tmp 23))])
        (.keep [6] [6] (.ret)))
        (.skip))))))))))
  (.keep [0, 1, 2, 6] [6] (.seq (.reg [
    .op (some 24) none (.mv (.tmp 0)),
    .op (some 25) none (.mv (.tmp 1)),
    .op (some 26) none (.mv (.tmp 2)),
    .op (some 27) none (.call f_m_Tape_inner [(.tmp 24), (.tmp 25), (.tmp 26)]),
    .op none none (.store (some 6) 7 (.tmp 6) (.tmp 27))])
  (.keep [6] [6] (.ret))))))
def rs_m_Tape_Cond : List CRes := [.cell 6 true 7]
def im_m_Tape_Cond : List Nat := [2006006]
theorem ok_m_Tape_Cond : FnOk Tryz.prog f_m_Tape_Cond im_m_Tape_Cond cc_m_Tape_Cond rs_m_Tape_Cond 28 := fnOk1 mixed (by kernel_rfl)
/-- (*corpora/corporamade.Tape).inner [P_corporamade_Tape, int, L_string] -> [Cond] -/
def cc_m_Tape_inner : CC :=
  .seq (.reg [
    .op (some 6) none (.alloc ty_Cond [(.int .i64 0), (.string ⟨#[]⟩), (.string ⟨#[]⟩), (.string ⟨#[]⟩), (.string ⟨#[]⟩), (.bool false), (.slice none 0 0)])])
  (.keep [0, 1, 2, 6] [6] (.seq (.reg [
    .op (some 9) none (.mv (.tmp 0)),
    .op (some 10) none (.call f_m_Tape_Next [(.tmp 9), (.const (.int .i64 12))]),
    .op (some 7) none (.mv (.tmp 10))])
  (.keep [0, 1, 2, 6, 7] [6] (seqM 2 (.seq (.reg [
    .op (some 11) none (.mv (.tmp 1)),
    .op (some 12) none (.cmp .lss (.tmp 11) (.const (.int .i64 1)))])
  (.keep [0, 1, 2, 6, 7, 12] [6] (.ite (.tmp 12) (.reg [
      .op (some 13) none (.mv (.tmp 7)),
      .op (some 14) none (.arith .rem (.tmp 13) (.const (.int .i64 8))),
      .op (some 7) none (.mv (.tmp 14))])
    (.skip))))
  (.keep [0, 1, 2, 6, 7] [6] (seqM 4 (.seq (.reg [
    .op (some 15) none (.mv (.tmp 7))])
  (.keep [0, 1, 2, 6, 7, 15] [6] (.block 0 (seqM 6 (.seq (.reg [
      .op (some 17) none (.eql false false [.int] (.tmp 15) (.const (.int .i64 0))),
      .op (some 16) none (.mv (.tmp 17))])
    (.keep [0, 1, 2, 6, 7, 15, 16] [6] (.ite (.tmp 16) (.skip)
      (.seq (.reg [
        .op (some 18) none (.eql false false [.int] (.tmp 15) (.const (.int .i64 1))),
        .op (some 16) none (.mv (.tmp 18))])
      (.keep [0, 1, 2, 6, 7, 15, 16] [6] (.ite (.tmp 16) (.skip)
        (.seq (.reg [
          .op (some 19) none (.eql false false [.int] (.tmp 15) (.const (.int .i64 2))),
          .op (some 16) none (.mv (.tmp 19))])
        (.keep [0, 1, 2, 6, 7, 15, 16] [6] (.ite (.tmp 16) (.skip)
          (.reg [
            .op (some 20) none (.eql false false [.int] (.tmp 15) (.const (.int .i64 3))),
            .op (some 16) none (.mv (.tmp 20))]))))))))))
    (.keep [0, 1, 2, 6, 7, 15, 16] [6] (.ite (.tmp 16) (.seq (.regd [
        .op (some 21) none (.bslice ty_string 1 [(.const (.string ⟨#[119, 111, 114, 100]⟩)), (.const (.string ⟨#[119, 111, 114, 100]⟩)), (.const (.string ⟨#[116, 97, 103]⟩))]),
        .op (some 22) none (.mv (.tmp 0)),
        .op (some 23) none (.call f_m_Tape_Next [(.tmp 22), (.const (.int .i64 3))]),
        .op (some 24) none (.iaddr 1 (.tmp 21) (.tmp 23)),
        .op (some 25) none (.load false 1 (.tmp 24)),
        .op (some 26) none (.bslice ty_string 1 [(.const (.string ⟨#[97]⟩)), (.const (.string ⟨#[98]⟩)), (.const (.string ⟨#[97, 46, 42]⟩)), (.const (.string ⟨#[91, 97, 98, 93]⟩)), (.const (.string ⟨#[88]⟩)), (.const (.string ⟨#[]⟩)), (.const (.string ⟨#[99, 63]⟩)), (.const (.string ⟨#[97, 124, 98]⟩))]),
        .op (some 27) none (.mv (.tmp 0)),
        .op (some 28) none (.call f_m_Tape_Next [(.tmp 27), (.const (.int .i64 8))]),
        .op (some 29) none (.iaddr 1 (.tmp 26) (.tmp 28)),
        .op (some 30) none (.load false 1 (.tmp 29)),
        .op (some 31) none (.mv (.tmp 0)),
        .op (some 32) none (.call f_m_Tape_Next [(.tmp 31), (.const (.int .i64 3))]),
        .op (some 33) none (.eql false false [.int] (.tmp 32) (.const (.int .i64 2)))] [
        .op (some 34) none (.build [(.int .i64 0), (.string ⟨#[]⟩), (.string ⟨#[]⟩), (.string ⟨#[]⟩), (.string ⟨#[]⟩), (.bool false), (.slice none 0 0)] [(0, 1, (.const (.int .i64 2))), (1, 1, (.tmp 25)), (3, 1, (.tmp 30)), (5, 1, (.tmp 33))]),
        .op none none (.store (some 6) 7 (.tmp 6) (.tmp 34))])
      (.keep [6] [6] (.ret)))
      (.seq (.reg [
        .op (some 36) none (.eql false false [.int] (.tmp 15) (.const (.int .i64 4))),
        .op (some 35) none (.mv (.tmp 36))])
      (.keep [0, 1, 2, 6, 7, 15, 35] [6] (.ite (.tmp 35) (.seq (.reg [
          .op (some 37) none (.bslice ty_string 1 [(.const (.string ⟨#[112]⟩)), (.const (.string ⟨#[113]⟩))]),
          .op (some 38) none (.mv (.tmp 0)),
          .op (some 39) none (.call f_m_Tape_Next [(.tmp 38), (.const (.int .i64 2))]),
          .op (some 40) none (.iaddr 1 (.tmp 37) (.tmp 39)),
          .op (some 41) none (.load false 1 (.tmp 40)),
          .op (some 42) none (.build [(.int .i64 0), (.string ⟨#[]⟩), (.string ⟨#[]⟩), (.string ⟨#[]⟩), (.string ⟨#[]⟩), (.bool false), (.slice none 0 0)] [(0, 1, (.const (.int .i64 3))), (1, 1, (.const (.string ⟨#[102, 101, 97, 116]⟩))), (3, 1, (.tmp 41))]),
          .op none none (.store (some 6) 7 (.tmp 6) (.tmp 42))])
        (.keep [6] [6] (.ret)))
        (.seq (.reg [
          .op (some 44) none (.eql false false [.int] (.tmp 15) (.const (.int .i64 5))),
          .op (some 43) none (.mv (.tmp 44))])
        (.keep [0, 1, 2, 6, 7, 15, 43] [6] (.ite (.tmp 43) (.seq /- 14 -/ (.seq (.reg [
            .op (some 45) none (.mv (.tmp 2)),
            .op (some 46) none (.len (.tmp 45)),
            .op (some 47) none (.cmp .gtr (.tmp 46) (.const (.int .i64 0)))])
          (.keep [0, 2, 6, 47] [6] (.ite (.tmp 47) (.seq (.regd [
              .op (some 48) none (.bslice ty_string 1 [(.const (.string ⟨#[119, 111, 114, 100]⟩)), (.const (.string ⟨#[116, 97, 103]⟩))]),
              .op (some 49) none (.mv (.tmp 0)),
              .op (some 50) none (.call f_m_Tape_Next [(.tmp 49), (.const (.int .i64 2))]),
              .op (some 51) none (.iaddr 1 (.tmp 48) (.tmp 50)),
              .op (some 52) none (.load false 1 (.tmp 51)),
              .op (some 53) none (.mv (.tmp 2)),
              .op (some 54) none (.mv (.tmp 0)),
              .op (some 55) none (.mv (.tmp 2)),
              .op (some 56) none (.len (.tmp 55)),
              .op (some 57) none (.call f_m_Tape_Next [(.tmp 54), (.tmp 56)]),
              .op (some 58) none (.iaddr 1 (.tmp 53) (.tmp 57)),
              .op (some 59) none (.load false 1 (.tmp 58)),
              .op (some 60) none (.bslice ty_string 1 [(.const (.string ⟨#[119, 111, 114, 100]⟩)), (.const (.string ⟨#[116, 97, 103]⟩))]),
              .op (some 61) none (.mv (.tmp 0)),
              .op (some 62) none (.call f_m_Tape_Next [(.tmp 61), (.const (.int .i64 2))]),
              .op (some 63) none (.iaddr 1 (.tmp 60) (.tmp 62)),
              .op (some 64) none (.load false 1 (.tmp 63))] [
              .op (some 65) none (.build [(.int .i64 0), (.string ⟨#[]⟩), (.string ⟨#[]⟩), (.string ⟨#[]⟩), (.string ⟨#[]⟩), (.bool false), (.slice none 0 0)] [(0, 1, (.const (.int .i64 4))), (1, 1, (.tmp 52)), (4, 1, (.tmp 59)), (2, 1, (.tmp 64))]),
              .op none none (.store (some 6) 7 (.tmp 6) (.tmp 65))])
            (.keep [6] [6] (.ret)))
            (.skip))))
          (.keep [6] [6] (.seq (.reg [
            .op (some 66) none (.build [(.int .i64 0), (.string ⟨#[]⟩), (.string ⟨#[]⟩), (.string ⟨#[]⟩), (.string ⟨#[]⟩), (.bool false), (.slice none 0 0)] [(0, 1, (.const (.int .i64 2))), (1, 1, (.const (.string ⟨#[116, 97, 103]⟩))), (3, 1, (.const (.string ⟨#[89]⟩)))]),
            .op none none (.store (some 6) 7 (.tmp 6) (.tmp 66))])
          (.keep [6] [6] (.ret)))))
          (seqM 18 (.seq (.reg [
            .op (some 68) none (.eql false false [.int] (.tmp 15) (.const (.int .i64 6))),
            .op (some 67) none (.mv (.tmp 68))])
          (.keep [0, 1, 2, 6, 7, 15, 67] [6] (.ite (.tmp 67) (.skip)
            (.reg [
              .op (some 69) none (.eql false false [.int] (.tmp 15) (.const (.int .i64 7))),
              .op (some 67) none (.mv (.tmp 69))]))))
          (.keep [0, 1, 2, 6, 7, 15, 67] [6] (.ite (.tmp 67) (.seq (.reg [
              .op (some 70) none (.mv (.tmp 0)),
              .op (some 71) none (.call f_m_Tape_Next [(.tmp 70), (.const (.int .i64 3))]),
              .op (some 72) none (.call f_m_Type [(.tmp 71)]),
              .op (some 73) none (.build [(.int .i64 0), (.string ⟨#[]⟩), (.string ⟨#[]⟩), (.string ⟨#[]⟩), (.string ⟨#[]⟩), (.bool false), (.slice none 0 0)] [(0, 1, (.const (.int .i64 5))), (1, 1, (.tmp 72))]),
              .op (some 8) none (.alloc ty_Cond [(.int .i64 0), (.string ⟨#[]⟩), (.string ⟨#[]⟩), (.string ⟨#[]⟩), (.string ⟨#[]⟩), (.bool false), (.slice none 0 0)]),
              .op none none (.store none 7 (.tmp 8) (.tmp 73))])
            (.keep [0, 6, 8] [6, 8] (seqM 21 (.seq (.reg [
              .op (some 74) none (.mv (.tmp 0)),
              .op (some 75) none (.call f_m_Tape_Next [(.tmp 74), (.const (.int .i64 2))]),
              .op (some 76) none (.eql false false [.int] (.tmp 75) (.const (.int .i64 1)))])
            (.keep [0, 6, 8, 76] [6, 8] (.ite (.tmp 76) (.regd [
                .op (some 77) none (.bslice ty_string 1 [(.const (.string ⟨#[49]⟩)), (.const (.string ⟨#[50]⟩))]),
                .op (some 78) none (.mv (.tmp 0)),
                .op (some 79) none (.call f_m_Tape_Next [(.tmp 78), (.const (.int .i64 2))]),
                .op (some 80) none (.iaddr 1 (.tmp 77) (.tmp 79)),
                .op (some 81) none (.load false 1 (.tmp 80)),
                .op (some 82) none (.faddr 2 (.tmp 8)),
                .op none none (.store (some 8) 1 (.tmp 82) (.const (.string ⟨#[110]⟩)))] [
                .op (some 83) none (.faddr 3 (.tmp 8)),
                .op none none (.store (some 8) 1 (.tmp 83) (.tmp 81))])
              (.skip))))
            (.keep [6, 8] [6, 8] (.seq (.reg [
              .op (some 84) none (.load true 7 (.tmp 8)),
              .op none none (.store (some 6) 7 (.tmp 6) (.tmp 84))])
            (.keep [6] [6] (.ret)))))))
            (seqM 24 (.seq (.reg [
              .op (some 86) none (.eql false false [.int] (.tmp 15) (.const (.int .i64 8))),
              .op (some 85) none (.mv (.tmp 86))])
            (.keep [0, 1, 2, 6, 7, 15, 85] [6] (.ite (.tmp 85) (.skip)
              (.reg [
                .op (some 87) none (.eql false false [.int] (.tmp 15) (.const (.int .i64 9))),
                .op (some 85) none (.mv (.tmp 87))]))))
            (.keep [0, 1, 2, 6, 7, 85] [6] (.ite (.tmp 85) (.seq (.reg [
                .op (some 88) none (.mv (.tmp 0)),
                .op (some 89) none (.mv (.tmp 1)),
                .op (some 90) none (.arith .sub (.tmp 89) (.const (.int .i64 1))),
                .op (some 91) none (.mv (.tmp 2)),
                .op (some 92) none (.call f_m_Tape_inner [(.tmp 88), (.tmp 90), (.tmp 91)]),
                .op (some 93) none (.bslice ty_Cond 7 [(.tmp 92)]),
                .op (some 94) none (.build [(.int .i64 0), (.string ⟨#[]⟩), (.string ⟨#[]⟩), (.string ⟨#[]⟩), (.string ⟨#[]⟩), (.bool false), (.slice none 0 0)] [(0, 1, (.const (.int .i64 6))), (6, 1, (.tmp 93))]),
                .op none none (.store (some 6) 7 (.tmp 6) (.tmp 94))])
              (.keep [6] [6] (.ret)))
              (.skip)))))))))))))))))))
  (.keep [0, 1, 2, 6, 7] [6] (.seq (.reg [
    .op (some 95) none (.mv (.tmp 7)),
    .op (some 96) none (.arith .add (.const (.int .i64 7)) (.tmp 95)),
    .op (some 97) none (.arith .sub (.tmp 96) (.const (.int .i64 10))),
    .op (some 98) none (.mv (.tmp 0)),
    .op (some 99) none (.mv (.tmp 1)),
    .op (some 100) none (.arith .sub (.tmp 99) (.const (.int .i64 1))),
    .op (some 101) none (.mv (.tmp 2)),
    .op (some 102) none (.call f_m_Tape_inner [(.tmp 98), (.tmp 100), (.tmp 101)]),
    .op (some 103) none (.mv (.tmp 0)),
    .op (some 104) none (.mv (.tmp 1)),
    .op (some 105) none (.arith .sub (.tmp 104) (.const (.int .i64 1))),
    .op (some 106) none (.mv (.tmp 2)),
    .op (some 107) none (.call f_m_Tape_inner [(.tmp 103), (.tmp 105), (.tmp 106)]),
    .op (some 108) none (.bslice ty_Cond 7 [(.tmp 102), (.tmp 107)]),
    .op (some 109) none (.build [(.int .i64 0), (.string ⟨#[]⟩), (.string ⟨#[]⟩), (.string ⟨#[]⟩), (.string ⟨#[]⟩), (.bool false), (.slice none 0 0)] [(0, 1, (.tmp 97)), (6, 1, (.tmp 108))]),
    .op none none (.store (some 6) 7 (.tmp 6) (.tmp 109))])
  (.keep [6] [6] (.ret))))))))))
def rs_m_Tape_inner : List CRes := [.cell 6 true 7]
def im_m_Tape_inner : List Nat := [2006006, 2006006, 2083008, 2082008]
theorem ok_m_Tape_inner : FnOk Tryz.prog f_m_Tape_inner im_m_Tape_inner cc_m_Tape_inner rs_m_Tape_inner 110 := fnOk1 mixed (by kernel_rfl)
/-- (*corpora/corporamade.Tape).Pattern [P_corporamade_Tape, int, L_string] -> [Pattern] -/
def cc_m_Tape_Pattern : CC :=
  .seq (.reg [
    .op (some 6) none (.alloc ty_Pattern [(.int .i64 0), (.int .i64 0), (.string ⟨#[]⟩), (.string ⟨#[]⟩), (.string ⟨#[]⟩), (.string ⟨#[]⟩), (.bool false), (.slice none 0 0), (.string ⟨#[]⟩), (.string ⟨#[]⟩), (.int .i64 0), (.int .i64 0), (.slice none 0 0)])])
  (.keep [0, 1, 2, 6] [6] (.seq (.reg [
    .op (some 10) none (.mv (.tmp 0)),
    .op (some 11) none (.call f_m_Tape_Next [(.tmp 10), (.const (.int .i64 14))]),
    .op (some 7) none (.mv (.tmp 11))])
  (.keep [0, 1, 2, 6, 7] [6] (seqM 2 (.seq (.reg [
    .op (some 12) none (.mv (.tmp 1)),
    .op (some 13) none (.cmp .lss (.tmp 12) (.const (.int .i64 1)))])
  (.keep [0, 1, 2, 6, 7, 13] [6] (.ite (.tmp 13) (.reg [
      .op (some 14) none (.mv (.tmp 7)),
      .op (some 15) none (.arith .rem (.tmp 14) (.const (.int .i64 7))),
      .op (some 7) none (.mv (.tmp 15))])
    (.skip))))
  (.keep [0, 1, 2, 6, 7] [6] (seqM 4 (.block 0 (.seq (.reg [
      .op (some 17) none (.mv (.tmp 7)),
      .op (some 18) none (.cmp .lss (.tmp 17) (.const (.int .i64 5))),
      .op (some 16) none (.mv (.tmp 18))])
    (.keep [0, 1, 2, 6, 7, 16] [6] (.ite (.tmp 16) (.seq (.reg [
        .op (some 19) none (.mv (.tmp 0)),
        .op (some 20) none (.mv (.tmp 2)),
        .op (some 21) none (.call f_m_Tape_Cond [(.tmp 19), (.const (.int .i64 1)), (.tmp 20)]),
        .op (some 22) none (.build [(.int .i64 0), (.int .i64 0), (.string ⟨#[]⟩), (.string ⟨#[]⟩), (.string ⟨#[]⟩), (.string ⟨#[]⟩), (.bool false), (.slice none 0 0), (.string ⟨#[]⟩), (.string ⟨#[]⟩), (.int .i64 0), (.int .i64 0), (.slice none 0 0)] [(0, 1, (.const (.int .i64 1))), (1, 7, (.tmp 21))]),
        .op (some 8) none (.alloc ty_Pattern [(.int .i64 0), (.int .i64 0), (.string ⟨#[]⟩), (.string ⟨#[]⟩), (.string ⟨#[]⟩), (.string ⟨#[]⟩), (.bool false), (.slice none 0 0), (.string ⟨#[]⟩), (.string ⟨#[]⟩), (.int .i64 0), (.int .i64 0), (.slice none 0 0)]),
        .op none none (.store none 13 (.tmp 8) (.tmp 22))])
      (.keep [0, 2, 6, 8] [6, 8] (seqM 7 (.seq (.reg [
        .op (some 23) none (.mv (.tmp 2)),
        .op (some 24) none (.len (.tmp 23)),
        .op (some 25) none (.cmp .gtr (.tmp 24) (.const (.int .i64 0))),
        .op (some 26) none (.mv (.tmp 25)),
        .op (some 27) (some (26, true)) (.mv (.tmp 0)),
        .op (some 28) (some (26, true)) (.call f_m_Tape_Next [(.tmp 27), (.const (.int .i64 2))]),
        .op (some 29) (some (26, true)) (.eql false false [.int] (.tmp 28) (.const (.int .i64 1))),
        .op (some 30) none (.pick (.tmp 26) (.tmp 29) (.const (.bool false)))])
      (.keep [0, 2, 6, 8, 30] [6, 8] (.ite (.tmp 30) (.reg [
          .op (some 31) none (.mv (.tmp 2)),
          .op (some 32) none (.mv (.tmp 0)),
          .op (some 33) none (.mv (.tmp 2)),
          .op (some 34) none (.len (.tmp 33)),
          .op (some 35) none (.call f_m_Tape_Next [(.tmp 32), (.tmp 34)]),
          .op (some 36) none (.iaddr 1 (.tmp 31) (.tmp 35)),
          .op (some 37) none (.load false 1 (.tmp 36)),
          .op (some 38) none (.faddr 8 (.tmp 8)),
          .op none none (.store none 1 (.tmp 38) (.tmp 37))])
        (.skip))))
      (.keep [6, 8] [6, 8] (.seq (.reg [
        .op (some 39) none (.load true 13 (.tmp 8)),
        .op none none (.store (some 6) 13 (.tmp 6) (.tmp 39))])
      (.keep [6] [6] (.ret)))))))
      (.seq (.reg [
        .op (some 41) none (.mv (.tmp 7)),
        .op (some 42) none (.cmp .lss (.tmp 41) (.const (.int .i64 7))),
        .op (some 40) none (.mv (.tmp 42))])
      (.keep [0, 1, 2, 6, 7, 40] [6] (.ite (.tmp 40) (.seq (.reg [
          .op (some 43) none (.mv (.tmp 7)),
          .op (some 44) none (.arith .add (.const (.int .i64 2)) (.tmp 43)),
          .op (some 45) none (.arith .sub (.tmp 44) (.const (.int .i64 5))),
          .op (some 46) none (.mv (.tmp 0)),
          .op (some 47) none (.call f_m_Tape_Next [(.tmp 46), (.const (.int .i64 3))]),
          .op (some 48) none (.call f_m_Type [(.tmp 47)]),
          .op (some 49) none (.build [(.int .i64 0), (.int .i64 0), (.string ⟨#[]⟩), (.string ⟨#[]⟩), (.string ⟨#[]⟩), (.string ⟨#[]⟩), (.bool false), (.slice none 0 0), (.string ⟨#[]⟩), (.string ⟨#[]⟩), (.int .i64 0), (.int .i64 0), (.slice none 0 0)] [(0, 1, (.tmp 45)), (9, 1, (.tmp 48))]),
          .op none none (.store (some 6) 13 (.tmp 6) (.tmp 49))])
        (.keep [6] [6] (.ret)))
        (.seq (.reg [
          .op (some 51) none (.mv (.tmp 7)),
          .op (some 52) none (.cmp .lss (.tmp 51) (.const (.int .i64 10))),
          .op (some 50) none (.mv (.tmp 52))])
        (.keep [0, 1, 2, 6, 7, 50] [6] (.ite (.tmp 50) (.seq (.reg [
            .op (some 53) none (.mv (.tmp 0)),
            .op (some 54) none (.mv (.tmp 1)),
            .op (some 55) none (.arith .sub (.tmp 54) (.const (.int .i64 1))),
            .op (some 56) none (.mv (.tmp 2)),
            .op (some 57) none (.call f_m_Tape_Pattern [(.tmp 53), (.tmp 55), (.tmp 56)]),
            .op (some 58) none (.mv (.tmp 0)),
            .op (some 59) none (.mv (.tmp 1)),
            .op (some 60) none (.arith .sub (.tmp 59) (.const (.int .i64 1))),
            .op (some 61) none (.mv (.tmp 2)),
            .op (some 62) none (.call f_m_Tape_Pattern [(.tmp 58), (.tmp 60), (.tmp 61)]),
            .op (some 63) none (.bslice ty_Pattern 13 [(.tmp 57), (.tmp 62)]),
            .op (some 64) none (.build [(.int .i64 0), (.int .i64 0), (.string ⟨#[]⟩), (.string ⟨#[]⟩), (.string ⟨#[]⟩), (.string ⟨#[]⟩), (.bool false), (.slice none 0 0), (.string ⟨#[]⟩), (.string ⟨#[]⟩), (.int .i64 0), (.int .i64 0), (.slice none 0 0)] [(0, 1, (.const (.int .i64 4))), (12, 1, (.tmp 63))]),
            .op none none (.store (some 6) 13 (.tmp 6) (.tmp 64))])
          (.keep [6] [6] (.ret)))
          (.seq (.reg [
            .op (some 66) none (.mv (.tmp 7)),
            .op (some 67) none (.cmp .lss (.tmp 66) (.const (.int .i64 12))),
            .op (some 65) none (.mv (.tmp 67))])
          (.keep [0, 1, 2, 6, 65] [6] (.ite (.tmp 65) (.seq (.reg [
              .op (some 68) none (.mv (.tmp 0)),
              .op (some 69) none (.mv (.tmp 1)),
              .op (some 70) none (.arith .sub (.tmp 69) (.const (.int .i64 1))),
              .op (some 71) none (.mv (.tmp 2)),
              .op (some 72) none (.call f_m_Tape_Pattern [(.tmp 68), (.tmp 70), (.tmp 71)]),
              .op (some 73) none (.mv (.tmp 0)),
              .op (some 74) none (.mv (.tmp 1)),
              .op (some 75) none (.arith .sub (.tmp 74) (.const (.int .i64 1))),
              .op (some 76) none (.mv (.tmp 2)),
              .op (some 77) none (.call f_m_Tape_Pattern [(.tmp 73), (.tmp 75), (.tmp 76)]),
              .op (some 78) none (.bslice ty_Pattern 13 [(.tmp 72), (.tmp 77)]),
              .op (some 79) none (.build [(.int .i64 0), (.int .i64 0), (.string ⟨#[]⟩), (.string ⟨#[]⟩), (.string ⟨#[]⟩), (.string ⟨#[]⟩), (.bool false), (.slice none 0 0), (.string ⟨#[]⟩), (.string ⟨#[]⟩), (.int .i64 0), (.int .i64 0), (.slice none 0 0)] [(0, 1, (.const (.int .i64 5))), (12, 1, (.tmp 78))]),
              .op none none (.store (some 6) 13 (.tmp 6) (.tmp 79))])
            (.keep [6] [6] (.ret)))
            (.skip))))))))))))))
  (.keep [0, 1, 2, 6] [6] (.seq (.reg [
    .op (some 80) none (.build [(.int .i64 0), (.int .i64 0)] [(0, 1, (.const (.int .i64 0))), (1, 1, (.const (.int .i64 1)))]),
    .op (some 81) none (.build [(.int .i64 0), (.int .i64 0)] [(0, 1, (.const (.int .i64 0))), (1, 1, (.const (.int .i64 (-1))))]),
    .op (some 82) none (.build [(.int .i64 0), (.int .i64 0)] [(0, 1, (.const (.int .i64 1))), (1, 1, (.const (.int .i64 (-1))))]),
    .op (some 83) none (.build [(.int .i64 0), (.int .i64 0)] [(0, 1, (.const (.int .i64 2))), (1, 1, (.const (.int .i64 2)))]),
    .op (some 84) none (.build [(.int .i64 0), (.int .i64 0)] [(0, 1, (.const (.int .i64 0))), (1, 1, (.const (.int .i64 2)))]),
    .op (some 85) none (.build [(.int .i64 0), (.int .i64 0)] [(0, 1, (.const (.int .i64 1))), (1, 1, (.const (.int .i64 3)))]),
    .op (some 86) none (.build [(.int .i64 0), (.int .i64 0)] [(0, 1, (.const (.int .i64 0))), (1, 1, (.const (.int .i64 0)))]),
    .op (some 87) none (.bslice ty__2_int 2 [(.tmp 80), (.tmp 81), (.tmp 82), (.tmp 83), (.tmp 84), (.tmp 85), (.tmp 86)]),
    .op (some 88) none (.mv (.tmp 0)),
    .op (some 89) none (.call f_m_Tape_Next [(.tmp 88), (.const (.int .i64 7))]),
    .op (some 90) none (.iaddr 2 (.tmp 87) (.tmp 89)),
    .op (some 91) none (.load true 2 (.tmp 90)),
    .op (some 9) none (.alloc ty__2_int [(.int .i64 0), (.int .i64 0)]),
    .op none none (.store none 2 (.tmp 9) (.tmp 91))])
  (.keep [0, 1, 2, 6, 9] [6, 9] (.seq (.regd [
    .op (some 92) none (.faddr 0 (.tmp 9)),
    .op (some 93) none (.load false 1 (.tmp 92)),
    .op (some 94) none (.faddr 1 (.tmp 9)),
    .op (some 95) none (.load false 1 (.tmp 94)),
    .op (some 96) none (.mv (.tmp 0)),
    .op (some 97) none (.mv (.tmp 1)),
    .op (some 98) none (.arith .sub (.tmp 97) (.const (.int .i64 1))),
    .op (some 99) none (.mv (.tmp 2)),
    .op (some 100) none (.call f_m_Tape_Pattern [(.tmp 96), (.tmp 98), (.tmp 99)]),
    .op (some 101) none (.bslice ty_Pattern 13 [(.tmp 100)])] [
    .op (some 102) none (.build [(.int .i64 0), (.int .i64 0), (.string ⟨#[]⟩), (.string ⟨#[]⟩), (.string ⟨#[]⟩), (.string ⟨#[]⟩), (.bool false), (.slice none 0 0), (.string ⟨#[]⟩), (.string ⟨#[]⟩), (.int .i64 0), (.int .i64 0), (.slice none 0 0)] [(0, 1, (.const (.int .i64 6))), (10, 1, (.tmp 93)), (11, 1, (.tmp 95)), (12, 1, (.tmp 101))]),
    .op none none (.store (some 6) 13 (.tmp 6) (.tmp 102))])
  (.keep [6] [6] (.ret))))))))))))
def rs_m_Tape_Pattern : List CRes := [.cell 6 true 13]
def im_m_Tape_Pattern : List Nat := [2006006]
theorem ok_m_Tape_Pattern : FnOk Tryz.prog f_m_Tape_Pattern im_m_Tape_Pattern cc_m_Tape_Pattern rs_m_Tape_Pattern 103 := fnOk1 mixed (by kernel_rfl)
-- m_bind range i=16 n=15 c=17 i2=26 id=0: live [1:labels, 2:p, 4:, 5:kids, 14:] changed [5] res [2, 4, 25]
/-- corpora/corporamade.bind [Pattern, L_string] -> [Pattern] -/
def cc_m_bind : CC :=
  .seq (.reg [
    .op (some 2) none (.box ty_Pattern false (.tmp 0)),
    .op (some 4) none (.alloc ty_Pattern [(.int .i64 0), (.int .i64 0), (.string ⟨#[]⟩), (.string ⟨#[]⟩), (.string ⟨#[]⟩), (.string ⟨#[]⟩), (.bool false), (.slice none 0 0), (.string ⟨#[]⟩), (.string ⟨#[]⟩), (.int .i64 0), (.int .i64 0), (.slice none 0 0)])])
  (.keep [1, 2, 4] [2, 4, 25] (.seq (.reg [
    .op (some 8) none (.faddr 1 (.tmp 2)),
    .op (some 9) none (.load true 7 (.tmp 8)),
    .op (some 10) none (.mv (.tmp 1)),
    .op (some 11) none (.call f_m_replace [(.tmp 9), (.tmp 10)]),
    .op (some 12) none (.faddr 1 (.tmp 2)),
    .op none none (.store none 7 (.tmp 12) (.tmp 11))])
  (.keep [1, 2, 4] [2, 4, 25] (.seq (.reg [
    .op (some 5) none (.mv (.const (.slice none 0 0)))])
  (.keep [1, 2, 4, 5] [2, 4, 25] (.seq /- 3 -/ (.seq (.reg [
    .op (some 13) none (.faddr 12 (.tmp 2)),
    .op (some 14) none (.load false 1 (.tmp 13)),
    .op (some 15) none (.len (.tmp 14)),
    .op (some 16) none (.mv (.const (.int .i64 0)))])
  (.keep [1, 2, 4, 5, 14, 15, 16] [2, 4, 25] (rangeCC 0 16 15 17 1 (.seq (.reg [
      .op (some 18) none (.iaddr 13 (.tmp 14) (.tmp 16)),
      .op (some 19) none (.load true 13 (.tmp 18)),
      .op (some 7) none (.alloc ty_Pattern [(.int .i64 0), (.int .i64 0), (.string ⟨#[]⟩), (.string ⟨#[]⟩), (.string ⟨#[]⟩), (.string ⟨#[]⟩), (.bool false), (.slice none 0 0), (.string ⟨#[]⟩), (.string ⟨#[]⟩), (.int .i64 0), (.int .i64 0), (.slice none 0 0)]),
      .op none none (.store none 13 (.tmp 7) (.tmp 19))])
    (.keep [1, 2, 4, 5, 7, 14, 15, 16] [2, 4, 7, 25] (.reg [
      .op (some 20) none (.mv (.tmp 5)),
      .op (some 21) none (.load true 13 (.tmp 7)),
      .op (some 22) none (.mv (.tmp 1)),
      .op (some 23) none (.call f_m_bind [(.tmp 21), (.tmp 22)]),
      .op (some 24) none (.bslice ty_Pattern 13 [(.tmp 23)]),
      .op (some 25) none (.append none ty_Pattern 13 184 (.tmp 20) (.tmp 24)),
      .op (some 5) none (.mv (.tmp 25))]))) 26)))
  (.keep [2, 4, 5] [2, 4, 25] (.seq (.reg [
    .op (some 27) none (.mv (.tmp 5)),
    .op (some 28) none (.faddr 12 (.tmp 2)),
    .op none none (.store none 1 (.tmp 28) (.tmp 27))])
  (.keep [2, 4] [2, 4, 25] (.seq (.reg [
    .op (some 29) none (.load true 13 (.tmp 2)),
    .op none none (.store none 13 (.tmp 4) (.tmp 29))])
  (.keep [4] [4, 25] (.ret))))))))))))
def rs_m_bind : List CRes := [.cell 4 true 13]
def im_m_bind : List Nat := []
theorem ok_m_bind : FnOk Tryz.prog f_m_bind im_m_bind cc_m_bind rs_m_bind 30 := fnOk1 mixed (by kernel_rfl)
-- m_replace range i=15 n=14 c=16 i2=24 id=0: live [2:x, 4:, 13:] changed [] res [2, 4, 40]
-- m_replace range i=31 n=30 c=32 i2=41 id=2: live [1:labels, 2:x, 4:, 7:kids, 29:] changed [7] res [2, 4, 40]
/-- corpora/corporamade.replace [Cond, L_string] -> [Cond] -/
def cc_m_replace : CC :=
  .seq (.reg [
    .op (some 2) none (.box ty_Cond false (.tmp 0)),
    .op (some 4) none (.alloc ty_Cond [(.int .i64 0), (.string ⟨#[]⟩), (.string ⟨#[]⟩), (.string ⟨#[]⟩), (.string ⟨#[]⟩), (.bool false), (.slice none 0 0)])])
  (.keep [1, 2, 4] [2, 4, 40] (.seq /- 1 -/ (.seq (.reg [
    .op (some 10) none (.faddr 0 (.tmp 2)),
    .op (some 11) none (.load false 1 (.tmp 10)),
    .op (some 12) none (.eql false false [.int] (.tmp 11) (.const (.int .i64 4)))])
  (.keep [1, 2, 4, 12] [2, 4, 40] (.ite (.tmp 12) (.seq /- 3 -/ (.seq (.reg [
      .op (some 13) none (.mv (.tmp 1)),
      .op (some 14) none (.len (.tmp 13)),
      .op (some 15) none (.mv (.const (.int .i64 0)))])
    (.keep [2, 4, 13, 14, 15] [2, 4, 40] (rangeCC 0 15 14 16 1 (.seq (.reg [
        .op (some 17) none (.iaddr 1 (.tmp 13) (.tmp 15)),
        .op (some 18) none (.load false 1 (.tmp 17)),
        .op (some 6) none (.mv (.tmp 18))])
      (.keep [2, 4, 6, 13, 14, 15] [2, 4, 40] (.seq (.reg [
        .op (some 19) none (.mv (.tmp 6)),
        .op (some 20) none (.faddr 4 (.tmp 2)),
        .op (some 21) none (.load false 1 (.tmp 20)),
        .op (some 22) none (.eql false false [.str] (.tmp 19) (.tmp 21))])
      (.keep [2, 4, 13, 14, 15, 22] [2, 4, 40] (.ite (.tmp 22) (.seq (.reg [
          .op (some 23) none (.load true 7 (.tmp 2)),
          .op none none (.store none 7 (.tmp 4) (.tmp 23))])
        (.keep [4] [4, 40] (.ret)))
        (.skip)))))) 24)))
    (.keep [2, 4] [2, 4, 40] (.seq (.reg [
      .op (some 25) none (.faddr 1 (.tmp 2)),
      .op (some 26) none (.load false 1 (.tmp 25)),
      .op (some 27) none (.build [(.int .i64 0), (.string ⟨#[]⟩), (.string ⟨#[]⟩), (.string ⟨#[]⟩), (.string ⟨#[]⟩), (.bool false), (.slice none 0 0)] [(0, 1, (.const (.int .i64 2))), (1, 1, (.tmp 26)), (3, 1, (.const (.string ⟨#[97, 124, 88]⟩)))]),
      .op none none (.store none 7 (.tmp 4) (.tmp 27))])
    (.keep [4] [4, 40] (.ret)))))
    (.skip))))
  (.keep [1, 2, 4] [2, 4, 40] (.seq (.reg [
    .op (some 7) none (.mv (.const (.slice none 0 0)))])
  (.keep [1, 2, 4, 7] [2, 4, 40] (.seq /- 10 -/ (.seq (.reg [
    .op (some 28) none (.faddr 6 (.tmp 2)),
    .op (some 29) none (.load false 1 (.tmp 28)),
    .op (some 30) none (.len (.tmp 29)),
    .op (some 31) none (.mv (.const (.int .i64 0)))])
  (.keep [1, 2, 4, 7, 29, 30, 31] [2, 4, 40] (rangeCC 2 31 30 32 3 (.seq (.reg [
      .op (some 33) none (.iaddr 7 (.tmp 29) (.tmp 31)),
      .op (some 34) none (.load true 7 (.tmp 33)),
      .op (some 9) none (.alloc ty_Cond [(.int .i64 0), (.string ⟨#[]⟩), (.string ⟨#[]⟩), (.string ⟨#[]⟩), (.string ⟨#[]⟩), (.bool false), (.slice none 0 0)]),
      .op none none (.store none 7 (.tmp 9) (.tmp 34))])
    (.keep [1, 2, 4, 7, 9, 29, 30, 31] [2, 4, 9, 40] (.reg [
      .op (some 35) none (.mv (.tmp 7)),
      .op (some 36) none (.load true 7 (.tmp 9)),
      .op (some 37) none (.mv (.tmp 1)),
      .op (some 38) none (.call f_m_replace [(.tmp 36), (.tmp 37)]),
      .op (some 39) none (.bslice ty_Cond 7 [(.tmp 38)]),
      .op (some 40) none (.append none ty_Cond 7 104 (.tmp 35) (.tmp 39)),
      .op (some 7) none (.mv (.tmp 40))]))) 41)))
  (.keep [2, 4, 7] [2, 4, 40] (.seq (.reg [
    .op (some 42) none (.mv (.tmp 7)),
    .op (some 43) none (.faddr 6 (.tmp 2)),
    .op none none (.store none 1 (.tmp 43) (.tmp 42))])
  (.keep [2, 4] [2, 4, 40] (.seq (.reg [
    .op (some 44) none (.load true 7 (.tmp 2)),
    .op none none (.store none 7 (.tmp 4) (.tmp 44))])
  (.keep [4] [4, 40] (.ret))))))))))))
def rs_m_replace : List CRes := [.cell 4 true 7]
def im_m_replace : List Nat := []
theorem ok_m_replace : FnOk Tryz.prog f_m_replace im_m_replace cc_m_replace rs_m_replace 45 := fnOk1 mixed (by kernel_rfl)
-- m_Bound range i=19 n=18 c=20 i2=28 id=0: live [1:out, 2:p, 17:] changed [] res [1, 43]
-- m_Bound range i=37 n=36 c=38 i2=44 id=2: live [1:out, 35:] changed [1] res [1, 43]
/-- corpora/corporamade.Bound [Pattern, L_string] -> [L_string] -/
def cc_m_Bound : CC :=
  .seq (.reg [
    .op (some 2) none (.box ty_Pattern true (.tmp 0)),
    .op (some 4) none (.mv (.const (.slice none 0 0)))])
  (.keep [1, 2] [1, 43] (seqM 1 (.seq (.reg [
    .op (some 9) none (.faddr 0 (.tmp 2)),
    .op (some 10) none (.load false 1 (.tmp 9)),
    .op (some 11) none (.eql false false [.int] (.tmp 10) (.const (.int .i64 1))),
    .op (some 12) none (.mv (.tmp 11)),
    .op (some 13) (some (12, true)) (.faddr 8 (.tmp 2)),
    .op (some 14) (some (12, true)) (.load false 1 (.tmp 13)),
    .op (some 15) (some (12, true)) (.eql true false [.str] (.tmp 14) (.const (.string ⟨#[]⟩))),
    .op (some 16) none (.pick (.tmp 12) (.tmp 15) (.const (.bool false)))])
  (.keep [1, 2, 16] [1, 43] (.ite (.tmp 16) (.seq /- 3 -/ (.seq (.reg [
      .op (some 17) none (.mv (.tmp 1)),
      .op (some 18) none (.len (.tmp 17)),
      .op (some 19) none (.mv (.const (.int .i64 0)))])
    (.keep [1, 2, 17, 18, 19] [1, 43] (rangeCC 0 19 18 20 1 (.seq (.reg [
        .op (some 21) none (.iaddr 1 (.tmp 17) (.tmp 19)),
        .op (some 22) none (.load false 1 (.tmp 21)),
        .op (some 6) none (.mv (.tmp 22))])
      (.keep [1, 2, 6, 17, 18, 19] [1, 43] (.seq (.reg [
        .op (some 23) none (.mv (.tmp 6)),
        .op (some 24) none (.faddr 8 (.tmp 2)),
        .op (some 25) none (.load false 1 (.tmp 24)),
        .op (some 26) none (.eql false false [.str] (.tmp 23) (.tmp 25))])
      (.keep [1, 2, 17, 18, 19, 26] [1, 43] (.ite (.tmp 26) (.seq (.reg [
          .op (some 27) none (.mv (.tmp 1)),
          .op (some 4) none (.mv (.tmp 27))])
        (.keep [4] [1, 33, 43] (.ret)))
        (.skip)))))) 28)))
    (.keep [1, 2] [1, 43] (.seq (.reg [
      .op (some 29) none (.mv (.tmp 1)),
      .op (some 30) none (.faddr 8 (.tmp 2)),
      .op (some 31) none (.load false 1 (.tmp 30)),
      .op (some 32) none (.bslice ty_string 1 [(.tmp 31)]),
      .op (some 33) none (.append none ty_string 1 16 (.tmp 29) (.tmp 32)),
      .op (some 4) none (.mv (.tmp 33))])
    (.keep [4] [1, 33, 43] (.ret)))))
    (.skip))))
  (.keep [1, 2] [1, 43] (.seq /- 9 -/ (.seq (.reg [
    .op (some 34) none (.faddr 12 (.tmp 2)),
    .op (some 35) none (.load false 1 (.tmp 34)),
    .op (some 36) none (.len (.tmp 35)),
    .op (some 37) none (.mv (.const (.int .i64 0)))])
  (.keep [1, 35, 36, 37] [1, 43] (rangeCC 2 37 36 38 3 (.seq (.reg [
      .op (some 39) none (.iaddr 13 (.tmp 35) (.tmp 37)),
      .op (some 40) none (.load true 13 (.tmp 39)),
      .op (some 8) none (.alloc ty_Pattern [(.int .i64 0), (.int .i64 0), (.string ⟨#[]⟩), (.string ⟨#[]⟩), (.string ⟨#[]⟩), (.string ⟨#[]⟩), (.bool false), (.slice none 0 0), (.string ⟨#[]⟩), (.string ⟨#[]⟩), (.int .i64 0), (.int .i64 0), (.slice none 0 0)]),
      .op none none (.store none 13 (.tmp 8) (.tmp 40))])
    (.keep [1, 8, 35, 36, 37] [1, 8, 43] (.reg [
      .op (some 41) none (.load true 13 (.tmp 8)),
      .op (some 42) none (.mv (.tmp 1)),
      .op (some 43) none (.call f_m_Bound [(.tmp 41), (.tmp 42)]),
      .op (some 1) none (.mv (.tmp 43))]))) 44)))
  (.keep [1] [1, 43] (.seq (.reg [
    .op (some 45) none (.mv (.tmp 1)),
    .op (some 4) none (.mv (.tmp 45))])
  (.keep [4] [1, 33, 43] (.ret))))))))
def rs_m_Bound : List CRes := [.tmp 4]
def im_m_Bound : List Nat := [2]
theorem ok_m_Bound : FnOk Tryz.prog f_m_Bound im_m_Bound cc_m_Bound rs_m_Bound 46 := fnOk1 mixed (by kernel_rfl)
-- m_Tape_Constraint while id=0: live [0:t, 6:, 11:x, 12:n] changed [12] res [6, 11, 111]
/-- (*corpora/corporamade.Tape).Constraint [P_corporamade_Tape, int, L_string] -> [Constraint] -/
def cc_m_Tape_Constraint : CC :=
  .seq (.reg [
    .op (some 6) none (.alloc ty_Constraint [(.int .i64 0), (.string ⟨#[]⟩), (.string ⟨#[]⟩), (.string ⟨#[]⟩), (.string ⟨#[]⟩), (.string ⟨#[]⟩), (.bool false), (.int .i64 0), (.int .i64 0), (.slice none 0 0), (.slice none 0 0)])])
  (.keep [0, 1, 2, 6] [6, 111] (.seq (.reg [
    .op (some 14) none (.mv (.tmp 0)),
    .op (some 15) none (.call f_m_Tape_Next [(.tmp 14), (.const (.int .i64 13))]),
    .op (some 7) none (.mv (.tmp 15))])
  (.keep [0, 1, 2, 6, 7] [6, 111] (seqM 2 (.seq (.reg [
    .op (some 16) none (.mv (.tmp 1)),
    .op (some 17) none (.cmp .lss (.tmp 16) (.const (.int .i64 1)))])
  (.keep [0, 1, 2, 6, 7, 17] [6, 111] (.ite (.tmp 17) (.reg [
      .op (some 18) none (.mv (.tmp 7)),
      .op (some 19) none (.arith .rem (.tmp 18) (.const (.int .i64 10))),
      .op (some 7) none (.mv (.tmp 19))])
    (.skip))))
  (.keep [0, 1, 2, 6, 7] [6, 111] (.seq (.regd [
    .op (some 20) none (.mv (.tmp 2)),
    .op (some 21) none (.mv (.tmp 0)),
    .op (some 22) none (.mv (.tmp 2)),
    .op (some 23) none (.len (.tmp 22)),
    .op (some 24) none (.call f_m_Tape_Next [(.tmp 21), (.tmp 23)]),
    .op (some 25) none (.iaddr 1 (.tmp 20) (.tmp 24)),
    .op (some 26) none (.load false 1 (.tmp 25)),
    .op (some 27) none (.mv (.tmp 2)),
    .op (some 28) none (.mv (.tmp 0)),
    .op (some 29) none (.mv (.tmp 2)),
    .op (some 30) none (.len (.tmp 29)),
    .op (some 31) none (.call f_m_Tape_Next [(.tmp 28), (.tmp 30)]),
    .op (some 32) none (.iaddr 1 (.tmp 27) (.tmp 31)),
    .op (some 33) none (.load false 1 (.tmp 32)),
    .op (some 8) none (.mv (.tmp 26))] [
    .op (some 9) none (.mv (.tmp 33))])
  (.keep [0, 1, 2, 6, 7, 8, 9] [6, 111] (seqM 5 (.seq (.reg [
    .op (some 34) none (.mv (.tmp 7))])
  (.keep [0, 1, 2, 6, 7, 8, 9, 34] [6, 111] (.block 0 (.seq (.reg [
      .op (some 36) none (.eql false false [.int] (.tmp 34) (.const (.int .i64 0))),
      .op (some 35) none (.mv (.tmp 36))])
    (.keep [0, 1, 2, 6, 7, 8, 9, 34, 35] [6, 111] (.ite (.tmp 35) (.seq (.reg [
        .op (some 37) none (.mv (.tmp 8)),
        .op (some 38) none (.build [(.int .i64 0), (.string ⟨#[]⟩), (.string ⟨#[]⟩), (.string ⟨#[]⟩), (.string ⟨#[]⟩), (.string ⟨#[]⟩), (.bool false), (.int .i64 0), (.int .i64 0), (.slice none 0 0), (.slice none 0 0)] [(0, 1, (.const (.int .i64 1))), (1, 1, (.tmp 37))]),
        .op none none (.store (some 6) 11 (.tmp 6) (.tmp 38))])
      (.keep [6] [6, 111] (.ret)))
      (.seq (.reg [
        .op (some 40) none (.eql false false [.int] (.tmp 34) (.const (.int .i64 1))),
        .op (some 39) none (.mv (.tmp 40))])
      (.keep [0, 1, 2, 6, 7, 8, 9, 34, 39] [6, 111] (.ite (.tmp 39) (.seq (.regd [
          .op (some 41) none (.mv (.tmp 8)),
          .op (some 42) none (.bslice ty_string 1 [(.const (.string ⟨#[97]⟩)), (.const (.string ⟨#[98, 124, 99]⟩)), (.const (.string ⟨#[46]⟩))]),
          .op (some 43) none (.mv (.tmp 0)),
          .op (some 44) none (.call f_m_Tape_Next [(.tmp 43), (.const (.int .i64 3))]),
          .op (some 45) none (.iaddr 1 (.tmp 42) (.tmp 44)),
          .op (some 46) none (.load false 1 (.tmp 45)),
          .op (some 47) none (.mv (.tmp 0)),
          .op (some 48) none (.call f_m_Tape_Next [(.tmp 47), (.const (.int .i64 3))]),
          .op (some 49) none (.eql false false [.int] (.tmp 48) (.const (.int .i64 2)))] [
          .op (some 50) none (.build [(.int .i64 0), (.string ⟨#[]⟩), (.string ⟨#[]⟩), (.string ⟨#[]⟩), (.string ⟨#[]⟩), (.string ⟨#[]⟩), (.bool false), (.int .i64 0), (.int .i64 0), (.slice none 0 0), (.slice none 0 0)] [(0, 1, (.const (.int .i64 2))), (1, 1, (.tmp 41)), (3, 1, (.const (.string ⟨#[119, 111, 114, 100]⟩))), (5, 1, (.tmp 46)), (6, 1, (.tmp 49))]),
          .op none none (.store (some 6) 11 (.tmp 6) (.tmp 50))])
        (.keep [6] [6, 111] (.ret)))
        (.seq (.reg [
          .op (some 52) none (.eql false false [.int] (.tmp 34) (.const (.int .i64 2))),
          .op (some 51) none (.mv (.tmp 52))])
        (.keep [0, 1, 2, 6, 7, 8, 9, 34, 51] [6, 111] (.ite (.tmp 51) (.seq (.reg [
            .op (some 53) none (.mv (.tmp 8)),
            .op (some 54) none (.mv (.tmp 9)),
            .op (some 55) none (.bslice ty_string 1 [(.const (.string ⟨#[119, 111, 114, 100]⟩)), (.const (.string ⟨#[116, 97, 103]⟩))]),
            .op (some 56) none (.mv (.tmp 0)),
            .op (some 57) none (.call f_m_Tape_Next [(.tmp 56), (.const (.int .i64 2))]),
            .op (some 58) none (.iaddr 1 (.tmp 55) (.tmp 57)),
            .op (some 59) none (.load false 1 (.tmp 58)),
            .op (some 60) none (.build [(.int .i64 0), (.string ⟨#[]⟩), (.string ⟨#[]⟩), (.string ⟨#[]⟩), (.string ⟨#[]⟩), (.string ⟨#[]⟩), (.bool false), (.int .i64 0), (.int .i64 0), (.slice none 0 0), (.slice none 0 0)] [(0, 1, (.const (.int .i64 3))), (1, 1, (.tmp 53)), (3, 1, (.const (.string ⟨#[119, 111, 114, 100]⟩))), (2, 1, (.tmp 54)), (4, 1, (.tmp 59))]),
            .op none none (.store (some 6) 11 (.tmp 6) (.tmp 60))])
          (.keep [6] [6, 111] (.ret)))
          (.seq (.reg [
            .op (some 62) none (.eql false false [.int] (.tmp 34) (.const (.int .i64 3))),
            .op (some 61) none (.mv (.tmp 62))])
          (.keep [0, 1, 2, 6, 7, 8, 9, 34, 61] [6, 111] (.ite (.tmp 61) (.seq (.reg [
              .op (some 63) none (.mv (.tmp 0)),
              .op (some 64) none (.call f_m_Tape_Next [(.tmp 63), (.const (.int .i64 5))]),
              .op (some 65) none (.arith .sub (.tmp 64) (.const (.int .i64 2))),
              .op (some 10) none (.mv (.tmp 65))])
            (.keep [0, 6, 8, 9, 10] [6, 111] (.seq (.reg [
              .op (some 66) none (.mv (.tmp 8)),
              .op (some 67) none (.mv (.tmp 9)),
              .op (some 68) none (.mv (.tmp 10)),
              .op (some 69) none (.mv (.tmp 10)),
              .op (some 70) none (.mv (.tmp 0)),
              .op (some 71) none (.call f_m_Tape_Next [(.tmp 70), (.const (.int .i64 4))]),
              .op (some 72) none (.arith .add (.tmp 69) (.tmp 71)),
              .op (some 73) none (.build [(.int .i64 0), (.string ⟨#[]⟩), (.string ⟨#[]⟩), (.string ⟨#[]⟩), (.string ⟨#[]⟩), (.string ⟨#[]⟩), (.bool false), (.int .i64 0), (.int .i64 0), (.slice none 0 0), (.slice none 0 0)] [(0, 1, (.const (.int .i64 4))), (1, 1, (.tmp 66)), (2, 1, (.tmp 67)), (7, 1, (.tmp 68)), (8, 1, (.tmp 72))]),
              .op none none (.store (some 6) 11 (.tmp 6) (.tmp 73))])
            (.keep [6] [6, 111] (.ret)))))
            (.seq (.reg [
              .op (some 75) none (.eql false false [.int] (.tmp 34) (.const (.int .i64 4))),
              .op (some 74) none (.mv (.tmp 75))])
            (.keep [0, 1, 2, 6, 7, 8, 9, 34, 74] [6, 111] (.ite (.tmp 74) (.seq (.reg [
                .op (some 76) none (.mv (.tmp 8)),
                .op (some 77) none (.mv (.tmp 9)),
                .op (some 78) none (.mv (.tmp 0)),
                .op (some 79) none (.call f_m_Tape_Next [(.tmp 78), (.const (.int .i64 3))]),
                .op (some 80) none (.call f_m_Type [(.tmp 79)]),
                .op (some 81) none (.build [(.int .i64 0), (.string ⟨#[]⟩), (.string ⟨#[]⟩), (.string ⟨#[]⟩), (.string ⟨#[]⟩), (.string ⟨#[]⟩), (.bool false), (.int .i64 0), (.int .i64 0), (.slice none 0 0), (.slice none 0 0)] [(0, 1, (.const (.int .i64 5))), (1, 1, (.tmp 76)), (2, 1, (.tmp 77)), (3, 1, (.tmp 80))]),
                .op none none (.store (some 6) 11 (.tmp 6) (.tmp 81))])
              (.keep [6] [6, 111] (.ret)))
              (.seq (.reg [
                .op (some 83) none (.eql false false [.int] (.tmp 34) (.const (.int .i64 5))),
                .op (some 82) none (.mv (.tmp 83))])
              (.keep [0, 1, 2, 6, 7, 8, 9, 34, 82] [6, 111] (.ite (.tmp 82) (.seq (.reg [
                  .op (some 84) none (.mv (.tmp 8)),
                  .op (some 85) none (.mv (.tmp 9)),
                  .op (some 86) none (.build [(.int .i64 0), (.string ⟨#[]⟩), (.string ⟨#[]⟩), (.string ⟨#[]⟩), (.string ⟨#[]⟩), (.string ⟨#[]⟩), (.bool false), (.int .i64 0), (.int .i64 0), (.slice none 0 0), (.slice none 0 0)] [(0, 1, (.const (.int .i64 6))), (1, 1, (.tmp 84)), (2, 1, (.tmp 85))]),
                  .op none none (.store (some 6) 11 (.tmp 6) (.tmp 86))])
                (.keep [6] [6, 111] (.ret)))
                (.seq (.reg [
                  .op (some 88) none (.eql false false [.int] (.tmp 34) (.const (.int .i64 6))),
                  .op (some 87) none (.mv (.tmp 88))])
                (.keep [0, 1, 2, 6, 7, 8, 9, 34, 87] [6, 111] (.ite (.tmp 87) (.seq (.reg [
                    .op (some 89) none (.mv (.tmp 8)),
                    .op (some 90) none (.mv (.tmp 9)),
                    .op (some 91) none (.build [(.int .i64 0), (.string ⟨#[]⟩), (.string ⟨#[]⟩), (.string ⟨#[]⟩), (.string ⟨#[]⟩), (.string ⟨#[]⟩), (.bool false), (.int .i64 0), (.int .i64 0), (.slice none 0 0), (.slice none 0 0)] [(0, 1, (.const (.int .i64 7))), (1, 1, (.tmp 89)), (2, 1, (.tmp 90))]),
                    .op none none (.store (some 6) 11 (.tmp 6) (.tmp 91))])
                  (.keep [6] [6, 111] (.ret)))
                  (.seq (.reg [
                    .op (some 93) none (.eql false false [.int] (.tmp 34) (.const (.int .i64 7))),
                    .op (some 92) none (.mv (.tmp 93))])
                  (.keep [0, 1, 2, 6, 7, 8, 9, 34, 92] [6, 111] (.ite (.tmp 92) (.seq (.reg [
                      .op (some 94) none (.mv (.tmp 8)),
                      .op (some 95) none (.mv (.tmp 9)),
                      .op (some 96) none (.build [(.int .i64 0), (.string ⟨#[]⟩), (.string ⟨#[]⟩), (.string ⟨#[]⟩), (.string ⟨#[]⟩), (.string ⟨#[]⟩), (.bool false), (.int .i64 0), (.int .i64 0), (.slice none 0 0), (.slice none 0 0)] [(0, 1, (.const (.int .i64 8))), (1, 1, (.tmp 94)), (2, 1, (.tmp 95))]),
                      .op (some 11) none (.alloc ty_Constraint [(.int .i64 0), (.string ⟨#[]⟩), (.string ⟨#[]⟩), (.string ⟨#[]⟩), (.string ⟨#[]⟩), (.string ⟨#[]⟩), (.bool false), (.int .i64 0), (.int .i64 0), (.slice none 0 0), (.slice none 0 0)]),
                      .op none none (.store none 11 (.tmp 11) (.tmp 96))])
                    (.keep [0, 6, 11] [6, 11, 111] (.seq /- 24 -/ (.seq (.reg [
                      .op (some 97) none (.mv (.tmp 0)),
                      .op (some 98) none (.call f_m_Tape_Next [(.tmp 97), (.const (.int .i64 3))]),
                      .op (some 12) none (.mv (.tmp 98))])
                    (.keep [0, 6, 11, 12] [6, 11, 111] (.block 1 (.loop 1 (.seq /- 26 -/ (.seq (.reg [
                          .op (some 99) none (.mv (.tmp 12)),
                          .op (some 100) none (.cmp .gtr (.tmp 99) (.const (.int .i64 0)))])
                        (.keep [0, 6, 11, 12, 100] [6, 11, 111] (.ite (.tmp 100) (.skip)
                          (.exit 1))))
                        (.keep [0, 6, 11, 12] [6, 11, 111] (.seq /- 28 -/ (.block 2 (.regd [
                            .op (some 103) none (.faddr 9 (.tmp 11)),
                            .op (some 104) none (.load false 1 (.tmp 103)),
                            .op (some 105) none (.bslice ty_string 1 [(.const (.string ⟨#[111, 98, 106]⟩)), (.const (.string ⟨#[100, 101, 116]⟩)), (.const (.string ⟨#[]⟩))]),
                            .op (some 106) none (.mv (.tmp 0)),
                            .op (some 107) none (.call f_m_Tape_Next [(.tmp 106), (.const (.int .i64 3))]),
                            .op (some 108) none (.iaddr 1 (.tmp 105) (.tmp 107)),
                            .op (some 109) none (.load false 1 (.tmp 108)),
                            .op (some 110) none (.bslice ty_string 1 [(.tmp 109)])] [
                            .op (some 111) none (.append (some 111) ty_string 1 16 (.tmp 104) (.tmp 110)),
                            .op (some 112) none (.faddr 9 (.tmp 11)),
                            .op none none (.store (some 11) 1 (.tmp 112) (.tmp 111))]))
                        (.keep [0, 6, 11, 12] [6, 11, 111] (.reg [
                          .op (some 101) none (.mv (.tmp 12)),
                          .op (some 102) none (.arith .sub (.tmp 101) (.const (.int .i64 1))),
                          .op (some 12) none (.mv (.tmp 102))])))))))))
                    (.keep [6, 11] [6, 11, 111] (.seq (.reg [
                      .op (some 113) none (.load true 11 (.tmp 11)),
                      .op none none (.store (some 6) 11 (.tmp 6) (.tmp 113))])
                    (.keep [6] [6, 111] (.ret)))))))
                    (.seq (.reg [
                      .op (some 115) none (.eql false false [.int] (.tmp 34) (.const (.int .i64 8))),
                      .op (some 114) none (.mv (.tmp 115))])
                    (.keep [0, 1, 2, 6, 7, 8, 9, 34, 114] [6, 111] (.ite (.tmp 114) (.seq (.reg [
                        .op (some 116) none (.mv (.tmp 8)),
                        .op (some 117) none (.mv (.tmp 9)),
                        .op (some 118) none (.bslice ty_string 1 [(.const (.string ⟨#[83]⟩)), (.const (.string ⟨#[78, 80]⟩)), (.const (.string ⟨#[86, 80]⟩))]),
                        .op (some 119) none (.mv (.tmp 0)),
                        .op (some 120) none (.call f_m_Tape_Next [(.tmp 119), (.const (.int .i64 3))]),
                        .op (some 121) none (.iaddr 1 (.tmp 118) (.tmp 120)),
                        .op (some 122) none (.load false 1 (.tmp 121)),
                        .op (some 123) none (.build [(.int .i64 0), (.string ⟨#[]⟩), (.string ⟨#[]⟩), (.string ⟨#[]⟩), (.string ⟨#[]⟩), (.string ⟨#[]⟩), (.bool false), (.int .i64 0), (.int .i64 0), (.slice none 0 0), (.slice none 0 0)] [(0, 1, (.const (.int .i64 9))), (1, 1, (.tmp 116)), (2, 1, (.tmp 117)), (3, 1, (.tmp 122))]),
                        .op none none (.store (some 6) 11 (.tmp 6) (.tmp 123))])
                      (.keep [6] [6, 111] (.ret)))
                      (.seq (.reg [
                        .op (some 125) none (.eql false false [.int] (.tmp 34) (.const (.int .i64 9))),
                        .op (some 124) none (.mv (.tmp 125))])
                      (.keep [0, 1, 2, 6, 7, 8, 34, 124] [6, 111] (.ite (.tmp 124) (.seq (.reg [
                          .op (some 126) none (.mv (.tmp 0)),
                          .op (some 127) none (.call f_m_Tape_Next [(.tmp 126), (.const (.int .i64 3))]),
                          .op (some 13) none (.mv (.tmp 127))])
                        (.keep [0, 6, 8, 13] [6, 111] (.seq (.reg [
                          .op (some 128) none (.mv (.tmp 8)),
                          .op (some 129) none (.mv (.tmp 13)),
                          .op (some 130) none (.mv (.tmp 13)),
                          .op (some 131) none (.mv (.tmp 0)),
                          .op (some 132) none (.call f_m_Tape_Next [(.tmp 131), (.const (.int .i64 2))]),
                          .op (some 133) none (.arith .add (.tmp 130) (.tmp 132)),
                          .op (some 134) none (.build [(.int .i64 0), (.string ⟨#[]⟩), (.string ⟨#[]⟩), (.string ⟨#[]⟩), (.string ⟨#[]⟩), (.string ⟨#[]⟩), (.bool false), (.int .i64 0), (.int .i64 0), (.slice none 0 0), (.slice none 0 0)] [(0, 1, (.const (.int .i64 10))), (1, 1, (.tmp 128)), (7, 1, (.tmp 129)), (8, 1, (.tmp 133))]),
                          .op none none (.store (some 6) 11 (.tmp 6) (.tmp 134))])
                        (.keep [6] [6, 111] (.ret)))))
                        (.seq (.reg [
                          .op (some 136) none (.eql false false [.int] (.tmp 34) (.const (.int .i64 10))),
                          .op (some 135) none (.mv (.tmp 136))])
                        (.keep [0, 1, 2, 6, 7, 135] [6, 111] (.ite (.tmp 135) (.seq (.reg [
                            .op (some 137) none (.mv (.tmp 0)),
                            .op (some 138) none (.mv (.tmp 1)),
                            .op (some 139) none (.arith .sub (.tmp 138) (.const (.int .i64 1))),
                            .op (some 140) none (.mv (.tmp 2)),
                            .op (some 141) none (.call f_m_Tape_Constraint [(.tmp 137), (.tmp 139), (.tmp 140)]),
                            .op (some 142) none (.bslice ty_Constraint 11 [(.tmp 141)]),
                            .op (some 143) none (.build [(.int .i64 0), (.string ⟨#[]⟩), (.string ⟨#[]⟩), (.string ⟨#[]⟩), (.string ⟨#[]⟩), (.string ⟨#[]⟩), (.bool false), (.int .i64 0), (.int .i64 0), (.slice none 0 0), (.slice none 0 0)] [(0, 1, (.const (.int .i64 11))), (10, 1, (.tmp 142))]),
                            .op none none (.store (some 6) 11 (.tmp 6) (.tmp 143))])
                          (.keep [6] [6, 111] (.ret)))
                          (.skip)))))))))))))))))))))))))))))))))))))
  (.keep [0, 1, 2, 6, 7] [6, 111] (.seq (.reg [
    .op (some 144) none (.mv (.tmp 7)),
    .op (some 145) none (.arith .add (.const (.int .i64 12)) (.tmp 144)),
    .op (some 146) none (.arith .sub (.tmp 145) (.const (.int .i64 11))),
    .op (some 147) none (.mv (.tmp 0)),
    .op (some 148) none (.mv (.tmp 1)),
    .op (some 149) none (.arith .sub (.tmp 148) (.const (.int .i64 1))),
    .op (some 150) none (.mv (.tmp 2)),
    .op (some 151) none (.call f_m_Tape_Constraint [(.tmp 147), (.tmp 149), (.tmp 150)]),
    .op (some 152) none (.mv (.tmp 0)),
    .op (some 153) none (.mv (.tmp 1)),
    .op (some 154) none (.arith .sub (.tmp 153) (.const (.int .i64 1))),
    .op (some 155) none (.mv (.tmp 2)),
    .op (some 156) none (.call f_m_Tape_Constraint [(.tmp 152), (.tmp 154), (.tmp 155)]),
    .op (some 157) none (.bslice ty_Constraint 11 [(.tmp 151), (.tmp 156)]),
    .op (some 158) none (.build [(.int .i64 0), (.string ⟨#[]⟩), (.string ⟨#[]⟩), (.string ⟨#[]⟩), (.string ⟨#[]⟩), (.string ⟨#[]⟩), (.bool false), (.int .i64 0), (.int .i64 0), (.slice none 0 0), (.slice none 0 0)] [(0, 1, (.tmp 146)), (10, 1, (.tmp 157))]),
    .op none none (.store (some 6) 11 (.tmp 6) (.tmp 158))])
  (.keep [6] [6, 111] (.ret))))))))))))
def rs_m_Tape_Constraint : List CRes := [.cell 6 true 11]
def im_m_Tape_Constraint : List Nat := [2006006, 2112011, 1111111]
theorem ok_m_Tape_Constraint : FnOk Tryz.prog f_m_Tape_Constraint im_m_Tape_Constraint cc_m_Tape_Constraint rs_m_Tape_Constraint 159 := fnOk1 mixed (by kernel_rfl)
/-- (*corpora/corporamade.Tape).Filter [P_corporamade_Tape] -> [Filter] -/
def cc_m_Tape_Filter : CC :=
  .seq (.reg [
    .op (some 2) none (.alloc ty_Filter [(.int .i64 0), (.bool false), (.string ⟨#[]⟩)])])
  (.keep [0, 2] [2] (.seq (.reg [
    .op (some 3) none (.mv (.tmp 0)),
    .op (some 4) none (.call f_m_Tape_Next [(.tmp 3), (.const (.int .i64 3))]),
    .op (some 5) none (.arith .add (.const (.int .i64 1)) (.tmp 4)),
    .op (some 6) none (.mv (.tmp 0)),
    .op (some 7) none (.call f_m_Tape_Next [(.tmp 6), (.const (.int .i64 3))]),
    .op (some 8) none (.eql false false [.int] (.tmp 7) (.const (.int .i64 2))),
    .op (some 9) none (.mv (.tmp 0)),
    .op (some 10) none (.call f_m_Tape_Next [(.tmp 9), (.const (.int .i64 3))]),
    .op (some 11) none (.call f_m_Type [(.tmp 10)]),
    .op (some 12) none (.build [(.int .i64 0), (.bool false), (.string ⟨#[]⟩)] [(0, 1, (.tmp 5)), (1, 1, (.tmp 8)), (2, 1, (.tmp 11))]),
    .op none none (.store none 3 (.tmp 2) (.tmp 12))])
  (.keep [2] [2] (.ret))))
def rs_m_Tape_Filter : List CRes := [.cell 2 true 3]
def im_m_Tape_Filter : List Nat := []
theorem ok_m_Tape_Filter : FnOk Tryz.prog f_m_Tape_Filter im_m_Tape_Filter cc_m_Tape_Filter rs_m_Tape_Filter 13 := fnOk1 mixed (by kernel_rfl)
-- m_Tape_Query while id=0: live [0:t, 4:, 7:q, 8:n] changed [8] res [4, 7, 18, 49]
/-- (*corpora/corporamade.Tape).Query [P_corporamade_Tape, int] -> [Query] -/
def cc_m_Tape_Query : CC :=
  .seq (.reg [
    .op (some 4) none (.alloc ty_Query [(.int .i64 0), (.int .i64 0), (.string ⟨#[]⟩), (.string ⟨#[]⟩), (.string ⟨#[]⟩), (.string ⟨#[]⟩), (.bool false), (.slice none 0 0), (.string ⟨#[]⟩), (.string ⟨#[]⟩), (.int .i64 0), (.int .i64 0), (.slice none 0 0), (.int .i64 0), (.string ⟨#[]⟩), (.string ⟨#[]⟩), (.string ⟨#[]⟩), (.string ⟨#[]⟩), (.string ⟨#[]⟩), (.bool false), (.int .i64 0), (.int .i64 0), (.slice none 0 0), (.slice none 0 0), (.slice none 0 0), (.int .i64 0)])])
  (.keep [0, 1, 4] [4, 18, 49] (.seq (.reg [
    .op (some 5) none (.mv (.const (.slice none 0 0)))])
  (.keep [0, 1, 4, 5] [4, 18, 49] (seqM 2 (.seq (.reg [
    .op (some 9) none (.mv (.tmp 0)),
    .op (some 10) none (.call f_m_Tape_Next [(.tmp 9), (.const (.int .i64 2))]),
    .op (some 11) none (.eql false false [.int] (.tmp 10) (.const (.int .i64 1)))])
  (.keep [0, 1, 4, 5, 11] [4, 18, 49] (.ite (.tmp 11) (.reg [
      .op (some 12) none (.bslice ty_string 1 [(.const (.string ⟨#[120]⟩)), (.const (.string ⟨#[121]⟩))]),
      .op (some 5) none (.mv (.tmp 12))])
    (.skip))))
  (.keep [0, 1, 4, 5] [4, 18, 49] (.seq (.reg [
    .op (some 13) none (.mv (.tmp 0)),
    .op (some 14) none (.mv (.tmp 1)),
    .op (some 15) none (.mv (.tmp 5)),
    .op (some 16) none (.call f_m_Tape_Pattern [(.tmp 13), (.tmp 14), (.tmp 15)]),
    .op (some 6) none (.alloc ty_Pattern [(.int .i64 0), (.int .i64 0), (.string ⟨#[]⟩), (.string ⟨#[]⟩), (.string ⟨#[]⟩), (.string ⟨#[]⟩), (.bool false), (.slice none 0 0), (.string ⟨#[]⟩), (.string ⟨#[]⟩), (.int .i64 0), (.int .i64 0), (.slice none 0 0)]),
    .op none none (.store none 13 (.tmp 6) (.tmp 16))])
  (.keep [0, 4, 6] [4, 6, 18, 49] (.seq (.reg [
    .op (some 17) none (.load true 13 (.tmp 6)),
    .op (some 18) none (.call f_m_Bound [(.tmp 17), (.const (.slice none 0 0))]),
    .frz 18 1,
    .op (some 5) none (.mv (.tmp 18))])
  (.keep [0, 4, 5, 6] [4, 6, 18, 49] (.seq (.reg [
    .op (some 19) none (.load true 13 (.tmp 6)),
    .op (some 20) none (.mv (.tmp 5)),
    .op (some 21) none (.call f_m_bind [(.tmp 19), (.tmp 20)]),
    .op (some 22) none (.mv (.tmp 0)),
    .op (some 23) none (.call f_m_Tape_Next [(.tmp 22), (.const (.int .i64 4))]),
    .op (some 24) none (.build [(.int .i64 0), (.int .i64 0), (.string ⟨#[]⟩), (.string ⟨#[]⟩), (.string ⟨#[]⟩), (.string ⟨#[]⟩), (.bool false), (.slice none 0 0), (.string ⟨#[]⟩), (.string ⟨#[]⟩), (.int .i64 0), (.int .i64 0), (.slice none 0 0), (.int .i64 0), (.string ⟨#[]⟩), (.string ⟨#[]⟩), (.string ⟨#[]⟩), (.string ⟨#[]⟩), (.string ⟨#[]⟩), (.bool false), (.int .i64 0), (.int .i64 0), (.slice none 0 0), (.slice none 0 0), (.slice none 0 0), (.int .i64 0)] [(0, 13, (.tmp 21)), (25, 1, (.tmp 23))]),
    .op (some 7) none (.alloc ty_Query [(.int .i64 0), (.int .i64 0), (.string ⟨#[]⟩), (.string ⟨#[]⟩), (.string ⟨#[]⟩), (.string ⟨#[]⟩), (.bool false), (.slice none 0 0), (.string ⟨#[]⟩), (.string ⟨#[]⟩), (.int .i64 0), (.int .i64 0), (.slice none 0 0), (.int .i64 0), (.string ⟨#[]⟩), (.string ⟨#[]⟩), (.string ⟨#[]⟩), (.string ⟨#[]⟩), (.string ⟨#[]⟩), (.bool false), (.int .i64 0), (.int .i64 0), (.slice none 0 0), (.slice none 0 0), (.slice none 0 0), (.int .i64 0)]),
    .op none none (.store none 26 (.tmp 7) (.tmp 24))])
  (.keep [0, 4, 5, 7] [4, 7, 18, 49] (seqM 7 (.seq (.reg [
    .op (some 25) none (.mv (.tmp 5)),
    .op (some 26) none (.len (.tmp 25)),
    .op (some 27) none (.cmp .gtr (.tmp 26) (.const (.int .i64 0))),
    .op (some 28) none (.mv (.tmp 27)),
    .op (some 29) (some (28, true)) (.mv (.tmp 0)),
    .op (some 30) (some (28, true)) (.call f_m_Tape_Next [(.tmp 29), (.const (.int .i64 2))]),
    .op (some 31) (some (28, true)) (.eql false false [.int] (.tmp 30) (.const (.int .i64 1))),
    .op (some 32) none (.pick (.tmp 28) (.tmp 31) (.const (.bool false)))])
  (.keep [0, 4, 5, 7, 32] [4, 7, 18, 49] (.ite (.tmp 32) (.reg [
      .op (some 33) none (.mv (.tmp 0)),
      .op (some 34) none (.mv (.tmp 5)),
      .op (some 35) none (.call f_m_Tape_Constraint [(.tmp 33), (.const (.int .i64 2)), (.tmp 34)]),
      .op (some 36) none (.faddr 13 (.tmp 7)),
      .op none none (.store none 11 (.tmp 36) (.tmp 35))])
    (.skip))))
  (.keep [0, 4, 7] [4, 7, 18, 49] (seqM 9 (.seq (.reg [
    .op (some 37) none (.mv (.tmp 0)),
    .op (some 38) none (.call f_m_Tape_Next [(.tmp 37), (.const (.int .i64 4))]),
    .op (some 39) none (.arith .quo (.tmp 38) (.const (.int .i64 2))),
    .op (some 8) none (.mv (.tmp 39))])
  (.keep [0, 4, 7, 8] [4, 7, 18, 49] (.block 0 (.loop 1 (.seq /- 11 -/ (.seq (.reg [
        .op (some 40) none (.mv (.tmp 8)),
        .op (some 41) none (.cmp .gtr (.tmp 40) (.const (.int .i64 0)))])
      (.keep [0, 4, 7, 8, 41] [4, 7, 18, 49] (.ite (.tmp 41) (.skip)
        (.exit 0))))
      (.keep [0, 4, 7, 8] [4, 7, 18, 49] (.seq /- 13 -/ (.block 1 (.regd [
          .op (some 44) none (.faddr 24 (.tmp 7)),
          .op (some 45) none (.load false 1 (.tmp 44)),
          .op (some 46) none (.mv (.tmp 0)),
          .op (some 47) none (.call f_m_Tape_Filter [(.tmp 46)]),
          .op (some 48) none (.bslice ty_Filter 3 [(.tmp 47)])] [
          .op (some 49) none (.append (some 49) ty_Filter 3 32 (.tmp 45) (.tmp 48)),
          .op (some 50) none (.faddr 24 (.tmp 7)),
          .op none none (.store (some 7) 1 (.tmp 50) (.tmp 49))]))
      (.keep [0, 4, 7, 8] [4, 7, 18, 49] (.reg [
        .op (some 42) none (.mv (.tmp 8)),
        .op (some 43) none (.arith .sub (.tmp 42) (.const (.int .i64 1))),
        .op (some 8) none (.mv (.tmp 43))])))))))))
  (.keep [4, 7] [4, 7, 18, 49] (.seq (.reg [
    .op (some 51) none (.load true 26 (.tmp 7)),
    .op none none (.store none 26 (.tmp 4) (.tmp 51))])
  (.keep [4] [4, 18, 49] (.ret))))))))))))))))))
def rs_m_Tape_Query : List CRes := [.cell 4 true 26]
def im_m_Tape_Query : List Nat := [1049049, 2050007]
theorem ok_m_Tape_Query : FnOk Tryz.prog f_m_Tape_Query im_m_Tape_Query cc_m_Tape_Query rs_m_Tape_Query 52 := fnOk1 mixed (by kernel_rfl)

end Go.Gv
