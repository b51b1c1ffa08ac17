/- A part of the framework and of the walks: C4 V5 V11 W1 W10 W11 W12 W4 W5 W6 W7 W8 W13 W14 W15 W16 W9. -/
import Derived.Test.YtaiffcbkmgfklaaGreatDoorGz13
import Derived.Test.YtaiffcbkmgfklaaGreatDoorGz16
import Derived.Test.YtaiffcbkmgfklaaGreatDoorGz15
import Derived.Test.YtaiffcbkmgfklaaGreatDoorGz17

namespace Go.Gv
open Go.Proofs
/-- (*corpora/corporamade.Tape).Cond [P_corporamade_Tape, int, L_string] -> [Cond] -/
def cc_m_Tape_Cond : CC :=
  .seq (.reg [
    .op (some 6) none (.alloc ty_Cond [(.int .i64 0), (.string ⟨#[]⟩), (.string ⟨#[]⟩), (.string ⟨#[]⟩), (.string ⟨#[]⟩), (.bool false), (.slice none 0 0)])])
  (.keep [0, 1, 2, 6] [6] (seqM 1 (.seq (.reg [
    .op (some 7) none (.mv (.tmp 0)),
    .op (some 8) none (.call f_m_Tape_Next [(.tmp 7), (.const (.int .i64 8))])])
  (.keep [0, 1, 2, 6, 8] [6] (.block 0 (.seq (.reg [
      .op (some 10) none (.eql false false [.int] (.tmp 8) (.const (.int .i64 0))),
      .op (some 9) none (.mv (.tmp 10))])
    (.keep [0, 1, 2, 6, 8, 9] [6] (.ite (.tmp 9) (.seq (.reg [
        .op (some 11) none (.build [(.int .i64 0), (.string ⟨#[]⟩), (.string ⟨#[]⟩), (.string ⟨#[]⟩), (.string ⟨#[]⟩), (.bool false), (.slice none 0 0)] [(0, 1, (.const (.int .i64 1)))]),
        .op none none (.store (some 6) 7 (.tmp 6) (.tmp 11))])
      (.keep [6] [6] (.ret)))
      (.seq /- 5 -/ (.seq (.reg [
        .op (some 13) none (.eql false false [.int] (.tmp 8) (.const (.int .i64 1))),
        .op (some 12) none (.mv (.tmp 13))])
      (.keep [0, 1, 2, 6, 8, 12] [6] (.ite (.tmp 12) (.skip)
        (.reg [
          .op (some 14) none (.eql false false [.int] (.tmp 8) (.const (.int .i64 2))),
          .op (some 12) none (.mv (.tmp 14))]))))
      (.keep [0, 1, 2, 6, 12] [6] (.ite (.tmp 12) (.seq (.regd [
          .op (some 15) none (.bslice ty_string 1 [(.const (.string ⟨#[97]⟩)), (.const (.string ⟨#[98]⟩)), (.const (.string ⟨#[97, 46, 42]⟩)), (.const (.string ⟨#[91, 97, 98, 93]⟩))]),
          .op (some 16) none (.mv (.tmp 0)),
          .op (some 17) none (.call f_m_Tape_Next [(.tmp 16), (.const (.int .i64 4))]),
          .op (some 18) none (.iaddr 1 (.tmp 15) (.tmp 17)),
          .op (some 19) none (.load false 1 (.tmp 18)),
          .op (some 20) none (.mv (.tmp 0)),
          .op (some 21) none (.call f_m_Tape_Next [(.tmp 20), (.const (.int .i64 3))]),
          .op (some 22) none (.eql false false [.int] (.tmp 21) (.const (.int .i64 2)))] [
          .op (some 23) none (.build [(.int .i64 0), (.string ⟨#[]⟩), (.string ⟨#[]⟩), (.string ⟨#[]⟩), (.string ⟨#[]⟩), (.bool false), (.slice none 0 0)] [(0, 1, (.const (.int .i64 2))), (3, 1, (.tmp 19)), (5, 1, (.tmp 22))]),
          .op none none (.store (some 6) 7 (.tmp 6) (.tmp 23))])
        (.keep [6] [6] (.ret)))
        (.skip))))))))))
  (.keep [0, 1, 2, 6] [6] (.seq (.reg [
    .op (some 24) none (.mv (.tmp 0)),
    .op (some 25) none (.mv (.tmp 1)),
    .op (some 26) none (.mv (.tmp 2)),
    .op (some 27) none (.call f_m_Tape_inner [(.tmp 24), (.tmp 25), (.tmp 26)]),
    .op none none (.store (some 6) 7 (.tmp 6) (.tmp 27))])
  (.keep [6] [6] (.ret))))))
def rs_m_Tape_Cond : List CRes := [.cell 6 true 7]
def im_m_Tape_Cond : List Nat := [2006006]
theorem ok_m_Tape_Cond : FnOk Tryz.prog f_m_Tape_Cond im_m_Tape_Cond cc_m_Tape_Cond rs_m_Tape_Cond 28 := fnOk1 mixed (by kernel_rfl)
/-- (*corpora/corporamade.Tape).inner [P_corporamade_Tape, int, L_string] -> [Cond] -/
def cc_m_Tape_inner : CC :=
  .seq (.reg [
    .op (some 6) none (.alloc ty_Cond [(.int .i64 0), (.string ⟨#[]⟩), (.string ⟨#[]⟩), (.string ⟨#[]⟩), (.string ⟨#[]⟩), (.bool false), (.slice none 0 0)])])
  (.keep [0, 1, 2, 6] [6] (.seq (.reg [
    .op (some 9) none (.mv (.tmp 0)),
    .op (some 10) none (.call f_m_Tape_Next [(.tmp 9), (.const (.int .i64 12))]),
    .op (some 7) none (.mv (.tmp 10))])
  (.keep [0, 1, 2, 6, 7] [6] (seqM 2 (.seq (.reg [
    .op (some 11) none (.mv (.tmp 1)),
    .op (some 12) none (.cmp .lss (.tmp 11) (.const (.int .i64 1)))])
  (.keep [0, 1, 2, 6, 7, 12] [6] (.ite (.tmp 12) (.reg [
      .op (some 13) none (.mv (.tmp 7)),
      .op (some 14) none (.arith .rem (.tmp 13) (.const (.int .i64 8))),
      .op (some 7) none (.mv (.tmp 14))])
    (.skip))))
  (.keep [0, 1, 2, 6, 7] [6] (seqM 4 (.seq (.reg [
    .op (some 15) none (.mv (.tmp 7))])
  (.keep [0, 1, 2, 6, 7, 15] [6] (.block 0 (seqM 6 (.seq (.reg [
      .op (some 17) none (.eql false false [.int] (.tmp 15) (.const (.int .i64 0))),
      .op (some 16) none (.mv (.tmp 17))])
    (.keep [0, 1, 2, 6, 7, 15, 16] [6] (.ite (.tmp 16) (.skip)
      (.seq (.reg [
        .op (some 18) none (.eql false false [.int] (.tmp 15) (.const (.int .i64 1))),
        .op (some 16) none (.mv (.tmp 18))])
      (.keep [0, 1, 2, 6, 7, 15, 16] [6] (.ite (.tmp 16) (.skip)
        (.seq (.reg [
          .op (some 19) none (.eql false false [.int] (.tmp 15) (.const (.int .i64 2))),
          .op (some 16) none (.mv (.tmp 19))])
        (.keep [0, 1, 2, 6, 7, 15, 16] [6] (.ite (.tmp 16) (.skip)
          (.reg [
            .op (some 20) none (.eql false false [.int] (.tmp 15) (.const (.int .i64 3))),
            .op (some 16) none (.mv (.tmp 20))]))))))))))
    (.keep [0, 1, 2, 6, 7, 15, 16] [6] (.ite (.tmp 16) (.seq (.regd [
        .op (some 21) none (.bslice ty_string 1 [(.const (.string ⟨#[119, 111, 114, 100]⟩)), (.const (.string ⟨#[119, 111, 114, 100]⟩)), (.const (.string ⟨#[116, 97, 103]⟩))]),
        .op (some 22) none (.mv (.tmp 0)),
        .op (some 23) none (.call f_m_Tape_Next [(.tmp 22), (.const (.int .i64 3))]),
        .op (some 24) none (.iaddr 1 (.tmp 21) (.tmp 23)),
        .op (some 25) none (.load false 1 (.tmp 24)),
        .op (some 26) none (.bslice ty_string 1 [(.const (.string ⟨#[97]⟩)), (.const (.string ⟨#[98]⟩)), (.const (.string ⟨#[97, 46, 42]⟩)), (.const (.string ⟨#[91, 97, 98, 93]⟩)), (.const (.string ⟨#[88]⟩)), (.const (.string ⟨#[]⟩)), (.const (.string ⟨#[99, 63]⟩)), (.const (.string ⟨#[97, 124, 98]⟩))]),
        .op (some 27) none (.mv (.tmp 0)),
        .op (some 28) none (.call f_m_Tape_Next [(.tmp 27), (.const (.int .i64 8))]),
        .op (some 29) none (.iaddr 1 (.tmp 26) (.tmp 28)),
        .op (some 30) none (.load false 1 (.tmp 29)),
        .op (some 31) none (.mv (.tmp 0)),
        .op (some 32) none (.call f_m_Tape_Next [(.tmp 31), (.const (.int .i64 3))]),
        .op (some 33) none (.eql false false [.int] (.tmp 32) (.const (.int .i64 2)))] [
        .op (some 34) none (.build [(.int .i64 0), (.string ⟨#[]⟩), (.string ⟨#[]⟩), (.string ⟨#[]⟩), (.string ⟨#[]⟩), (.bool false), (.slice none 0 0)] [(0, 1, (.const (.int .i64 2))), (1, 1, (.tmp 25)), (3, 1, (.tmp 30)), (5, 1, (.tmp 33))]),
        .op none none (.store (some 6) 7 (.tmp 6) (.tmp 34))])
      (.keep [6] [6] (.ret)))
      (.seq (.reg [
        .op (some 36) none (.eql false false [.int] (.tmp 15) (.const (.int .i64 4))),
        .op (some 35) none (.mv (.tmp 36))])
      (.keep [0, 1, 2, 6, 7, 15, 35] [6] (.ite (.tmp 35) (.seq (.reg [
          .op (some 37) none (.bslice ty_string 1 [(.const (.string ⟨#[112]⟩)), (.const (.string ⟨#[113]⟩))]),
          .op (some 38) none (.mv (.tmp 0)),
          .op (some 39) none (.call f_m_Tape_Next [(.tmp 38), (.const (.int .i64 2))]),
          .op (some 40) none (.iaddr 1 (.tmp 37) (.tmp 39)),
          .op (some 41) none (.load false 1 (.tmp 40)),
          .op (some 42) none (.build [(.int .i64 0), (.string ⟨#[]⟩), (.string ⟨#[]⟩), (.string ⟨#[]⟩), (.string ⟨#[]⟩), (.bool false), (.slice none 0 0)] [(0, 1, (.const (.int .i64 3))), (1, 1, (.const (.string ⟨#[102, 101, 97, 116]⟩))), (3, 1, (.tmp 41))]),
          .op none none (.store (some 6) 7 (.tmp 6) (.tmp 42))])
        (.keep [6] [6] (.ret)))
        (.seq (.reg [
          .op (some 44) none (.eql false false [.int] (.tmp 15) (.const (.int .i64 5))),
          .op (some 43) none (.mv (.tmp 44))])
        (.keep [0, 1, 2, 6, 7, 15, 43] [6] (.ite (.tmp 43) (.seq /- 14 -/ (.seq (.reg [
            .op (some 45) none (.mv (.tmp 2)),
            .op (some 46) none (.len (.tmp 45)),
            .op (some 47) none (.cmp .gtr (.tmp 46) (.const (.int .i64 0)))])
          (.keep [0, 2, 6, 47] [6] (.ite (.tmp 47) (.seq (.regd [
              .op (some 48) none (.bslice ty_string 1 [(.const (.string ⟨#[119, 111, 114, 100]⟩)), (.const (.string ⟨#[116, 97, 103]⟩))]),
              .op (some 49) none (.mv (.tmp 0)),
              .op (some 50) none (.call f_m_Tape_Next [(.tmp 49), (.const (.int .i64 2))]),
              .op (some 51) none (.iaddr 1 (.tmp 48) (.tmp 50)),
              .op (some 52) none (.load false 1 (.tmp 51)),
              .op (some 53) none (.mv (.tmp 2)),
              .op (some 54) none (.mv (.tmp 0)),
              .op (some 55) none (.mv (.tmp 2)),
              .op (some 56) none (.len (.tmp 55)),
              .op (some 57) none (.call f_m_Tape_Next [(.tmp 54), (.tmp 56)]),
              .op (some 58) none (.iaddr 1 (.tmp 53) (.tmp 57)),
              .op (some 59) none (.load false 1 (.tmp 58)),
              .op (some 60) none (.bslice ty_string 1 [(.const (.string ⟨#[119, 111, 114, 100]⟩)), (.const (.string ⟨#[116, 97, 103]⟩))]),
              .op (some 61) none (.mv (.tmp 0)),
              .op (some 62) none (.call f_m_Tape_Next [(.tmp 61), (.const (.int .i64 2))]),
              .op (some 63) none (.iaddr 1 (.tmp 60) (.tmp 62)),
              .op (some 64) none (.load false 1 (.tmp 63))] [
              .op (some 65) none (.build [(.int .i64 0), (.string ⟨#[]⟩), (.string ⟨#[]⟩), (.string ⟨#[]⟩), (.string ⟨#[]⟩), (.bool false), (.slice none 0 0)] [(0, 1, (.const (.int .i64 4))), (1, 1, (.tmp 52)), (4, 1, (.tmp 59)), (2, 1, (.tmp 64))]),
              .op none none (.store (some 6) 7 (.tmp 6) (.tmp 65))])
            (.keep [6] [6] (.ret)))
            (.skip))))
          (.keep [6] [6] (.seq (.reg [
            .op (some 66) none (.build [(.int .i64 0), (.string ⟨#[]⟩), (.string ⟨#[]⟩), (.string ⟨#[]⟩), (.string ⟨#[]⟩), (.bool false), (.slice none 0 0)] [(0, 1, (.const (.int .i64 2))), (1, 1, (.const (.string ⟨#[116, 97, 103]⟩))), (3, 1, (.const (.string ⟨#[89]⟩)))]),
            .op none none (.store (some 6) 7 (.tmp 6) (.tmp 66))])
          (.keep [6] [6] (.ret)))))
          (seqM 18 (.seq (.reg [
            .op (some 68) none (.eql false false [.int] (.tmp 15) (.const (.int .i64 6))),
            .op (some 67) none (.mv (.tmp 68))])
          (.keep [0, 1, 2, 6, 7, 15, 67] [6] (.ite (.tmp 67) (.skip)
            (.reg [
              .op (some 69) none (.eql false false [.int] (.tmp 15) (.const (.int .i64 7))),
              .op (some 67) none (.mv (.tmp 69))]))))
          (.keep [0, 1, 2, 6, 7, 15, 67] [6] (.ite (.tmp 67) (.seq (.reg [
              .op (some 70) none (.mv (.tmp 0)),
              .op (some 71) none (.call f_m_Tape_Next [(.tmp 70), (.const (.int .i64 3))]),
              .op (some 72) none (.call f_m_Type [(.tmp 71)]),
              .op (some 73) none (.build [(.int .i64 0), (.string ⟨#[]⟩), (.string ⟨#[]⟩), (.string ⟨#[]⟩), (.string ⟨#[]⟩), (.bool false), (.slice none 0 0)] [(0, 1, (.const (.int .i64 5))), (1, 1, (.tmp 72))]),
              .op (some 8) none (.alloc ty_Cond [(.int .i64 0), (.string ⟨#[]⟩), (.string ⟨#[]⟩), (.string ⟨#[]⟩), (.string ⟨#[]⟩), (.bool false), (.slice none 0 0)]),
              .op none none (.store none 7 (.tmp 8) (.tmp 73))])
            (.keep [0, 6, 8] [6, 8] (seqM 21 (.seq (.reg [
              .op (some 74) none (.mv (.tmp 0)),
              .op (some 75) none (.call f_m_Tape_Next [(.tmp 74), (.const (.int .i64 2))]),
              .op (some 76) none (.eql false false [.int] (.tmp 75) (.const (.int .i64 1)))])
            (.keep [0, 6, 8, 76] [6, 8] (.ite (.tmp 76) (.regd [
                .op (some 77) none (.bslice ty_string 1 [(.const (.string ⟨#[49]⟩)), (.const (.string ⟨#[50]⟩))]),
                .op (some 78) none (.mv (.tmp 0)),
                .op (some 79) none (.call f_m_Tape_Next [(.tmp 78), (.const (.int .i64 2))]),
                .op (some 80) none (.iaddr 1 (.tmp 77) (.tmp 79)),
                .op (some 81) none (.load false 1 (.tmp 80)),
                .op (some 82) none (.faddr 2 (.tmp 8)),
                .op none none (.store (some 8) 1 (.tmp 82) (.const (.string ⟨#[110]⟩)))] [
                .op (some 83) none (.faddr 3 (.tmp 8)),
                .op none none (.store (some 8) 1 (.tmp 83) (.tmp 81))])
              (.skip))))
            (.keep [6, 8] [6, 8] (.seq (.reg [
              .op (some 84) none (.load true 7 (.tmp 8)),
              .op none none (.store (some 6) 7 (.tmp 6) (.tmp 84))])
            (.keep [6] [6] (.ret)))))))
            (seqM 24 (.seq (.reg [
              .op (some 86) none (.eql false false [.int] (.tmp 15) (.const (.int .i64 8))),
              .op (some 85) none (.mv (.tmp 86))])
            (.keep [0, 1, 2, 6, 7, 15, 85] [6] (.ite (.tmp 85) (.skip)
              (.reg [
                .op (some 87) none (.eql false false [.int] (.tmp 15) (.const (.int .i64 9))),
                .op (some 85) none (.mv (.tmp 87))]))))
            (.keep [0, 1, 2, 6, 7, 85] [6] (.ite (.tmp 85) (.seq (.reg [
                .op (some 88) none (.mv (.tmp 0)),
                .op (some 89) none (.mv (.tmp 1)),
                .op (some 90) none (.arith .sub (.tmp 89) (.const (.int .i64 1))),
                .op (some 91) none (.mv (.tmp 2)),
                .op (some 92) none (.call f_m_Tape_inner [(.tmp 88), (.tmp 90), (.tmp 91)]),
                .op (some 93) none (.bslice ty_Cond 7 [(.tmp 92)]),
                .op (some 94) none (.build [(.int .i64 0), (.string ⟨#[]⟩), (.string ⟨#[]⟩), (.string ⟨#[]⟩), (.string ⟨#[]⟩), (.bool false), (.slice none 0 0)] [(0, 1, (.const (.int .i64 6))), (6, 1, (.tmp 93))]),
                .op none none (.store (some 6) 7 (.tmp 6) (.tmp 94))])
              (.keep [6] [6] (.ret)))
              (.skip)))))))))))))))))))
  (.keep [0, 1, 2, 6, 7] [6] (.seq (.reg [
    .op (some 95) none (.mv (.tmp 7)),
    .op (some 96) none (.arith .add (.const (.int .i64 7)) (.tmp 95)),
    .op (some 97) none (.arith .sub (.tmp 96) (.const (.int .i64 10))),
    .op (some 98) none (.mv (.tmp 0)),
    .op (some 99) none (.mv (.tmp 1)),
    .op (some 100) none (.arith .sub (.tmp 99) (.const (.int .i64 1))),
    .op (some 101) none (.mv (.tmp 2)),
    .op (some 102) none (.call f_m_Tape_inner [(.tmp 98), (.tmp 100), (.tmp 101)]),
    .op (some 103) none (.mv (.tmp 0)),
    .op (some 104) none (.mv (.tmp 1)),
    .op (some 105) none (.arith .sub (.tmp 104) (.const (.int .i64 1))),
    .op (some 106) none (.mv (.tmp 2)),
    .op (some 107) none (.call f_m_Tape_inner [(.tmp 103), (.tmp 105), (.tmp 106)]),
    .op (some 108) none (.bslice ty_Cond 7 [(.tmp 102), (.tmp 107)]),
    .op (some 109) none (.build [(.int .i64 0), (.string ⟨#[]⟩), (.string ⟨#[]⟩), (.string ⟨#[]⟩), (.string ⟨#[]⟩), (.bool false), (.slice none 0 0)] [(0, 1, (.tmp 97)), (6, 1, (.tmp 108))]),
    .op none none (.store (some 6) 7 (.tmp 6) (.tmp 109))])
  (.keep [6] [6] (.ret))))))))))
def rs_m_Tape_inner : List CRes := [.cell 6 true 7]
def im_m_Tape_inner : List Nat := [2006006, 2006006, 2083008, 2082008]
theorem ok_m_Tape_inner : FnOk Tryz.prog f_m_Tape_inner im_m_Tape_inner cc_m_Tape_inner rs_m_Tape_inner 110 := fnOk1 mixed (by kernel_rfl)
/-- (*corpora/corporamade.Tape).Pattern [P_corporamade_Tape, int, L_string] -> [Pattern] -/
def cc_m_Tape_Pattern : CC :=
  .seq (.reg [
    .op (some 6) none (.alloc ty_Pattern [(.int .i64 0), (.int .i64 0), (.string ⟨#[]⟩), (.string ⟨#[]⟩), (.string ⟨#[]⟩), (.string ⟨#[]⟩), (.bool false), (.slice none 0 0), (.string ⟨#[]⟩), (.string ⟨#[]⟩), (.int .i64 0), (.int .i64 0), (.slice none 0 0)])])
  (.keep [0, 1, 2, 6] [6] (.seq (.reg [
    .op (some 10) none (.mv (.tmp 0)),
    .op (some 11) none (.call f_m_Tape_Next [(.tmp 10), (.const (.int .i64 14))]),
    .op (some 7) none (.mv (.tmp 11))])
  (.keep [0, 1, 2, 6, 7] [6] (seqM 2 (.seq (.reg [
    .op (some 12) none (.mv (.tmp 1)),
    .op (some 13) none (.cmp .lss (.tmp 12) (.const (.int .i64 1)))])
  (.keep [0, 1, 2, 6, 7, 13] [6] (.ite (.tmp 13) (.reg [
      .op (some 14) none (.mv (.tmp 7)),
      .op (some 15) none (.arith .rem (.tmp 14) (.const (.int .i64 7))),
      .op (some 7) none (.mv (.tmp 15))])
    (.skip))))
  (.keep [0, 1, 2, 6, 7] [6] (seqM 4 (.block 0 (.seq (.reg [
      .op (some 17) none (.mv (.tmp 7)),
      .op (some 18) none (.cmp .lss (.tmp 17) (.const (.int .i64 5))),
      .op (some 16) none (.mv (.tmp 18))])
    (.keep [0, 1, 2, 6, 7, 16] [6] (.ite (.tmp 16) (.seq (.reg [
        .op (some 19) none (.mv (.tmp 0)),
        .op (some 20) none (.mv (.tmp 2)),
        .op (some 21) none (.call f_m_Tape_Cond [(.tmp 19), (.const (.int .i64 1)), (.tmp 20)]),
        .op (some 22) none (.build [(.int .i64 0), (.int .i64 0), (.string ⟨#[]⟩), (.string ⟨#[]⟩), (.string ⟨#[]⟩), (.string ⟨#[]⟩), (.bool false), (.slice none 0 0), (.string ⟨#[]⟩), (.string ⟨#[]⟩), (.int .i64 0), (.int .i64 0), (.slice none 0 0)] [(0, 1, (.const (.int .i64 1))), (1, 7, (.tmp 21))]),
        .op (some 8) none (.alloc ty_Pattern [(.int .i64 0), (.int .i64 0), (.string ⟨#[]⟩), (.string ⟨#[]⟩), (.string ⟨#[]⟩), (.string ⟨#[]⟩), (.bool false), (.slice none 0 0), (.string ⟨#[]⟩), (.string ⟨#[]⟩), (.int .i64 0), (.int .i64 0), (.slice none 0 0)]),
        .op none none (.store none 13 (.tmp 8) (.tmp 22))])
      (.keep [0, 2, 6, 8] [6, 8] (seqM 7 (.seq (.reg [
        .op (some 23) none (.mv (.tmp 2)),
        .op (some 24) none (.len (.tmp 23)),
        .op (some 25) none (.cmp .gtr (.tmp 24) (.const (.int .i64 0))),
        .op (some 26) none (.mv (.tmp 25)),
        .op (some 27) (some (26, true)) (.mv (.tmp 0)),
        .op (some 28) (some (26, true)) (.call f_m_Tape_Next [(.tmp 27), (.const (.int .i64 2))]),
        .op (some 29) (some (26, true)) (.eql false false [.int] (.tmp 28) (.const (.int .i64 1))),
        .op (some 30) none (.pick (.tmp 26) (.tmp 29) (.const (.bool false)))])
      (.keep [0, 2, 6, 8, 30] [6, 8] (.ite (.tmp 30) (.reg [
          .op (some 31) none (.mv (.tmp 2)),
          .op (some 32) none (.mv (.tmp 0)),
          .op (some 33) none (.mv (.tmp 2)),
          .op (some 34) none (.len (.tmp 33)),
          .op (some 35) none (.call f_m_Tape_Next [(.tmp 32), (.tmp 34)]),
          .op (some 36) none (.iaddr 1 (.tmp 31) (.tmp 35)),
          .op (some 37) none (.load false 1 (.tmp 36)),
          .op (some 38) none (.faddr 8 (.tmp 8)),
          .op none none (.store none 1 (.tmp 38) (.tmp 37))])
        (.skip))))
      (.keep [6, 8] [6, 8] (.seq (.reg [
        .op (some 39) none (.load true 13 (.tmp 8)),
        .op none none (.store (some 6) 13 (.tmp 6) (.tmp 39))])
      (.keep [6] [6] (.ret)))))))
      (.seq (.reg [
        .op (some 41) none (.mv (.tmp 7)),
        .op (some 42) none (.cmp .lss (.tmp 41) (.const (.int .i64 7))),
        .op (some 40) none (.mv (.tmp 42))])
      (.keep [0, 1, 2, 6, 7, 40] [6] (.ite (.tmp 40) (.seq (.reg [
          .op (some 43) none (.mv (.tmp 7)),
          .op (some 44) none (.arith .add (.const (.int .i64 2)) (.tmp 43)),
          .op (some 45) none (.arith .sub (.tmp 44) (.const (.int .i64 5))),
          .op (some 46) none (.mv (.tmp 0)),
          .op (some 47) none (.call f_m_Tape_Next [(.tmp 46), (.const (.int .i64 3))]),
          .op (some 48) none (.call f_m_Type [(.tmp 47)]),
          .op (some 49) none (.build [(.int .i64 0), (.int .i64 0), (.string ⟨#[]⟩), (.string ⟨#[]⟩), (.string ⟨#[]⟩), (.string ⟨#[]⟩), (.bool false), (.slice none 0 0), (.string ⟨#[]⟩), (.string ⟨#[]⟩), (.int .i64 0), (.int .i64 0), (.slice none 0 0)] [(0, 1, (.tmp 45)), (9, 1, (.tmp 48))]),
          .op none none (.store (some 6) 13 (.tmp 6) (.tmp 49))])
        (.keep [6] [6] (.ret)))
        (.seq (.reg [
          .op (some 51) none (.mv (.tmp 7)),
          .op (some 52) none (.cmp .lss (.tmp 51) (.const (.int .i64 10))),
          .op (some 50) none (.mv (.tmp 52))])
        (.keep [0, 1, 2, 6, 7, 50] [6] (.ite (.tmp 50) (.seq (.reg [
            .op (some 53) none (.mv (.tmp 0)),
            .op (some 54) none (.mv (.tmp 1)),
            .op (some 55) none (.arith .sub (.tmp 54) (.const (.int .i64 1))),
            .op (some 56) none (.mv (.tmp 2)),
            .op (some 57) none (.call f_m_Tape_Pattern [(.tmp 53), (.tmp 55), (.tmp 56)]),
            .op (some 58) none (.mv (.tmp 0)),
            .op (some 59) none (.mv (.tmp 1)),
            .op (some 60) none (.arith .sub (.tmp 59) (.const (.int .i64 1))),
            .op (some 61) none (.mv (.tmp 2)),
            .op (some 62) none (.call f_m_Tape_Pattern [(.tmp 58), (.tmp 60), (.tmp 61)]),
            .op (some 63) none (.bslice ty_Pattern 13 [(.tmp 57), (.tmp 62)]),
            .op (some 64) none (.build [(.int .i64 0), (.int .i64 0), (.string ⟨#[]⟩), (.string ⟨#[]⟩), (.string ⟨#[]⟩), (.string ⟨#[]⟩), (.bool false), (.slice none 0 0), (.string ⟨#[]⟩), (.string ⟨#[]⟩), (.int .i64 0), (.int .i64 0), (.slice none 0 0)] [(0, 1, (.const (.int .i64 4))), (12, 1, (.tmp 63))]),
            .op none none (.store (some 6) 13 (.tmp 6) (.tmp 64))])
          (.keep [6] [6] (.ret)))
          (.seq (.reg [
            .op (some 66) none (.mv (.tmp 7)),
            .op (some 67) none (.cmp .lss (.tmp 66) (.const (.int .i64 12))),
            .op (some 65) none (.mv (.tmp 67))])
          (.keep [0, 1, 2, 6, 65] [6] (.ite (.tmp 65) (.seq (.reg [
              .op (some 68) none (.mv (.tmp 0)),
              .op (some 69) none (.mv (.tmp 1)),
              .op (some 70) none (.arith .sub (.tmp 69) (.const (.int .i64 1))),
              .op (some 71) none (.mv (.tmp 2)),
              .op (some 72) none (.call f_m_Tape_Pattern [(.tmp 68), (.tmp 70), (.tmp 71)]),
              .op (some 73) none (.mv (.tmp 0)),
              .op (some 74) none (.mv (.tmp 1)),
              .op (some 75) none (.arith .sub (.tmp 74) (.const (.int .i64 1))),
              .op (some 76) none (.mv (.tmp 2)),
              .op (some 77) none (.call f_m_Tape_Pattern [(.tmp 73), (.tmp 75), (.tmp 76)]),
              .op (some 78) none (.bslice ty_Pattern 13 [(.tmp 72), (.tmp 77)]),
              .op (some 79) none (.build [(.int .i64 0), (.int .i64 0), (.string ⟨#[]⟩), (.string ⟨#[]⟩), (.string ⟨#[]⟩), (.string ⟨#[]⟩), (.bool false), (.slice none 0 0), (.string ⟨#[]⟩), (.string ⟨#[]⟩), (.int .i64 0), (.int .i64 0), (.slice none 0 0)] [(0, 1, (.const (.int .i64 5))), (12, 1, (.tmp 78))]),
              .op none none (.store (some 6) 13 (.tmp 6) (.tmp 79))])
            (.keep [6] [6] (.ret)))
            (.skip))))))))))))))
  (.keep [0, 1, 2, 6] [6] (.seq (.reg [
    .op (some 80) none (.build [(.int .i64 0), (.int .i64 0)] [(0, 1, (.const (.int .i64 0))), (1, 1, (.const (.int .i64 1)))]),
    .op (some 81) none (.build [(.int .i64 0), (.int .i64 0)] [(0, 1, (.const (.int .i64 0))), (1, 1, (.const (.int .i64 (-1))))]),
    .op (some 82) none (.build [(.int .i64 0), (.int .i64 0)] [(0, 1, (.const (.int .i64 1))), (1, 1, (.const (.int .i64 (-1))))]),
    .op (some 83) none (.build [(.int .i64 0), (.int .i64 0)] [(0, 1, (.const (.int .i64 2))), (1, 1, (.const (.int .i64 2)))]),
    .op (some 84) none (.build [(.int .i64 0), (.int .i64 0)] [(0, 1, (.const (.int .i64 0))), (1, 1, (.const (.int .i64 2)))]),
    .op (some 85) none (.build [(.int .i64 0), (.int .i64 0)] [(0, 1, (.const (.int .i64 1))), (1, 1, (.const (.int .i64 3)))]),
    .op (some 86) none (.build [(.int .i64 0), (.int .i64 0)] [(0, 1, (.const (.int .i64 0))), (1, 1, (.const (.int .i64 0)))]),
    .op (some 87) none (.bslice ty__2_int 2 [(.tmp 80), (.tmp 81), (.tmp 82), (.tmp 83), (.tmp 84), (.tmp 85), (.tmp 86)]),
    .op (some 88) none (.mv (.tmp 0)),
    .op (some 89) none (.call f_m_Tape_Next [(.tmp 88), (.const (.int .i64 7))]),
    .op (some 90) none (.iaddr 2 (.tmp 87) (.tmp 89)),
    .op (some 91) none (.load true 2 (.tmp 90)),
    .op (some 9) none (.alloc ty__2_int [(.int .i64 0), (.int .i64 0)]),
    .op none none (.store none 2 (.tmp 9) (.tmp 91))])
  (.keep [0, 1, 2, 6, 9] [6, 9] (.seq (.regd [
    .op (some 92) none (.faddr 0 (.tmp 9)),
    .op (some 93) none (.load false 1 (.tmp 92)),
    .op (some 94) none (.faddr 1 (.tmp 9)),
    .op (some 95) none (.load false 1 (.tmp 94)),
    .op (some 96) none (.mv (.tmp 0)),
    .op (some 97) none (.mv (.tmp 1)),
    .op (some 98) none (.arith .sub (.tmp 97) (.const (.int .i64 1))),
    .op (some 99) none (.mv (.tmp 2)),
    .op (some 100) none (.call f_m_Tape_Pattern [(.tmp 96), (.tmp 98), (.tmp 99)]),
    .op (some 101) none (.bslice ty_Pattern 13 [(.tmp 100)])] [
    .op (some 102) none (.build [(.int .i64 0), (.int .i64 0), (.string ⟨#[]⟩), (.string ⟨#[]⟩), (.string ⟨#[]⟩), (.string ⟨#[]⟩), (.bool false), (.slice none 0 0), (.string ⟨#[]⟩), (.string ⟨#[]⟩), (.int .i64 0), (.int .i64 0), (.slice none 0 0)] [(0, 1, (.const (.int .i64 6))), (10, 1, (.tmp 93)), (11, 1, (.tmp 95)), (12, 1, (.tmp 101))]),
    .op none none (.store (some 6) 13 (.tmp 6) (.tmp 102))])
  (.keep [6] [6] (.ret))))))))))))
def rs_m_Tape_Pattern : List CRes := [.cell 6 true 13]
def im_m_Tape_Pattern : List Nat := [2006006]
theorem ok_m_Tape_Pattern : FnOk Tryz.prog f_m_Tape_Pattern im_m_Tape_Pattern cc_m_Tape_Pattern rs_m_Tape_Pattern 103 := fnOk1 mixed (by kernel_rfl)
-- m_bind range i=16 n=15 c=17 i2=26 id=0: live [1:labels, 2:p, 4:, 5:kids, 14:] changed [5] res [2, 4, 25]
-- m_replace range i=15 n=14 c=16 i2=24 id=0: live [2:x, 4:, 13:] changed [] res [2, 4, 40]
-- m_replace range i=31 n=30 c=32 i2=41 id=2: live [1:labels, 2:x, 4:, 7:kids, 29:] changed [7] res [2, 4, 40]
-- m_Bound range i=19 n=18 c=20 i2=28 id=0: live [1:out, 2:p, 17:] changed [] res [1, 43]
-- m_Bound range i=37 n=36 c=38 i2=44 id=2: live [1:out, 35:] changed [1] res [1, 43]
-- m_Tape_Constraint while id=0: live [0:t, 6:, 11:x, 12:n] changed [12] res [6, 11, 111]
-- m_Tape_Query while id=0: live [0:t, 4:, 7:q, 8:n] changed [8] res [4, 7, 18, 49]
end Go.Gv

namespace Go.Gv
set_option linter.unusedSimpArgs false
end Go.Gv

namespace Go.Gv
set_option linter.unusedSimpArgs false
set_option linter.unusedVariables false
/-- A condition of at most n levels below the top, at most two kids each. -/
def CS : Nat → Cond → Prop
  | 0, c => c.kids = []
  | n + 1, c => c.kids.length ≤ 2 ∧ ∀ k ∈ c.kids, CS n k
theorem cs_nil {n : Nat} {c : Cond} (h : c.kids = []) : CS n c := by
  cases n
  · exact h
  · exact ⟨by rw [h]; exact Nat.zero_le _, fun k hk => by rw [h] at hk; simp at hk⟩
theorem cs_one {n m : Nat} {c a : Cond} (hm : n = m + 1) (h : c.kids = [a]) (ha : CS m a) : CS n c := by
  subst hm
  refine ⟨by rw [h]; exact Nat.le_succ _, fun k hk => ?_⟩
  rw [h] at hk
  have : k = a := by simpa using hk
  subst this
  exact ha
theorem cs_two {n m : Nat} {c a b : Cond} (hm : n = m + 1) (h : c.kids = [a, b]) (ha : CS m a) (hb : CS m b) : CS n c := by
  subst hm
  refine ⟨by rw [h]; exact Nat.le_refl _, fun k hk => ?_⟩
  rw [h] at hk
  have : k = a ∨ k = b := by simpa using hk
  rcases this with rfl | rfl
  · exact ha
  · exact hb
theorem cs_same {n : Nat} {c d : Cond} (h : c.kids = d.kids) (hd : CS n d) : CS n c := by
  cases n
  · exact h.trans hd
  · exact ⟨by rw [h]; exact hd.1, fun k hk => hd.2 k (by rw [← h]; exact hk)⟩
/-- A pattern of at most n levels below the top, at most two kids each, with small conditions. -/
def PD : Nat → Pat → Prop
  | 0, p => (∃ m, CS m p.cond) ∧ p.kids = []
  | n + 1, p => (∃ m, CS m p.cond) ∧ p.kids.length ≤ 2 ∧ ∀ k ∈ p.kids, PD n k
theorem pd_nil {n : Nat} {p : Pat} (hc : ∃ m, CS m p.cond) (h : p.kids = []) : PD n p := by
  cases n
  · exact ⟨hc, h⟩
  · exact ⟨hc, by rw [h]; exact Nat.zero_le _, fun k hk => by rw [h] at hk; simp at hk⟩
theorem pd_one {n m : Nat} {p a : Pat} (hm : n = m + 1) (hc : ∃ m, CS m p.cond) (h : p.kids = [a]) (ha : PD m a) : PD n p := by
  subst hm
  refine ⟨hc, by rw [h]; exact Nat.le_succ _, fun k hk => ?_⟩
  rw [h] at hk
  have : k = a := by simpa using hk
  subst this
  exact ha
theorem pd_two {n m : Nat} {p a b : Pat} (hm : n = m + 1) (hc : ∃ m, CS m p.cond) (h : p.kids = [a, b]) (ha : PD m a) (hb : PD m b) : PD n p := by
  subst hm
  refine ⟨hc, by rw [h]; exact Nat.le_refl _, fun k hk => ?_⟩
  rw [h] at hk
  have : k = a ∨ k = b := by simpa using hk
  rcases this with rfl | rfl
  · exact ha
  · exact hb
theorem cs_c0 : ∃ m, CS m Cond0 := ⟨0, rfl⟩
end Go.Gv

namespace Go.Gv
set_option linter.unusedSimpArgs false
set_option linter.unusedVariables false
set_option maxRecDepth 100000
open Cod (enc dec)
variable {S : Nat → Spc}

def modI (x n : Int) : Int := if n < 1 then 0 else if x.tmod n < 0 then x.tmod n + n else x.tmod n
abbrev s_m_Mod : Spc := spc (a2 Int Int) (fun x => x.2 ≤ 1000000000) enc fun x y => y = modI x.1 x.2
theorem w_m_Mod : Walk cc_m_Mod rs_m_Mod S (a2 Int Int) (fun x => x.2 ≤ 1000000000) enc fun x y => y = modI x.1 x.2 := by
  rintro ⟨a, b⟩ hl
  simp at hl
  simp [cc_m_Mod, rs_m_Mod, modI]
  refine ⟨fun h1 h2 => by omega, fun h1 => ⟨by omega, fun h2 => ⟨?_, ?_⟩, fun h2 => ?_⟩⟩
  · have := Int.lt_tmod_of_pos a (b := b) (by omega)
    simp [InR]; omega
  · rw [if_neg (by omega), if_pos h2]
  · rw [if_neg (by omega), if_neg (by omega)]
end Go.Gv

namespace Go.Gv
set_option linter.unusedSimpArgs false
set_option linter.unusedVariables false
set_option maxRecDepth 100000
open Cod (enc dec)
variable {S S0 : Nat → Spc}
theorem modI_rng (x n : Int) (h : 1 ≤ n) : 0 ≤ modI x n ∧ modI x n < n := by
  unfold modI
  rw [if_neg (by omega)]
  have h1 := Int.tmod_lt_of_pos x (show 0 < n by omega)
  have h2 : -n < x.tmod n := by
    have h3 := Int.natAbs_tmod x n
    have h4 : x.natAbs % n.natAbs < n.natAbs := Nat.mod_lt _ (by omega)
    omega
  split <;> omega
def nx0 : CC := .reg [
    .op (some 4) none (.mv (.const (.int .i64 0)))]
def nxA : CC := .seq (.regd [
    .op (some 5) none (.mv (.tmp 0)),
    .op (some 6) none (.nilck (.tmp 5)),
    .op (some 7) none (.faddr 1 (.tmp 6)),
    .op (some 8) none (.load false 1 (.tmp 7)),
    .op (some 9) none (.mv (.tmp 0)),
    .op (some 10) none (.nilck (.tmp 9)),
    .op (some 11) none (.faddr 0 (.tmp 10)),
    .op (some 12) none (.load false 1 (.tmp 11)),
    .op (some 13) none (.len (.tmp 12))] [
    .op (some 14) none (.cmp .geq (.tmp 8) (.tmp 13))]) (.ite (.tmp 14) (.seq (.reg [
      .op (some 4) none (.mv (.const (.int .i64 0)))]) .ret) .skip)
def nxB : CC := .reg [
    .op (some 15) none (.mv (.tmp 0)),
    .op (some 16) none (.nilck (.tmp 15)),
    .op (some 17) none (.faddr 1 (.tmp 16)),
    .op (some 18) none (.load false 1 (.tmp 17)),
    .op (some 19) none (.arith .add (.tmp 18) (.const (.int .i64 1))),
    .op (some 20) none (.nilck (.tmp 15)),
    .op (some 21) none (.faddr 1 (.tmp 20)),
    .op none none (.store none 1 (.tmp 21) (.tmp 19))]
def nxC : CC := .seq (.regd [
    .op (some 22) none (.mv (.tmp 0)),
    .op (some 23) none (.nilck (.tmp 22)),
    .op (some 24) none (.faddr 0 (.tmp 23)),
    .op (some 25) none (.load false 1 (.tmp 24)),
    .op (some 26) none (.mv (.tmp 0)),
    .op (some 27) none (.nilck (.tmp 26)),
    .op (some 28) none (.faddr 1 (.tmp 27)),
    .op (some 29) none (.load false 1 (.tmp 28)),
    .op (some 30) none (.arith .sub (.tmp 29) (.const (.int .i64 1))),
    .op (some 31) none (.iaddr 1 (.tmp 25) (.tmp 30)),
    .op (some 32) none (.load false 1 (.tmp 31)),
    .op (some 33) none (.mv (.tmp 1))] [
    .op (some 34) none (.call f_m_Mod [(.tmp 32), (.tmp 33)]),
    .op (some 4) none (.mv (.tmp 34))]) .ret
theorem nx_strip : strip cc_m_Tape_Next = .seq nx0 (.seq nxA (.seq nxB nxC)) := rfl
theorem nx0_s : strip nx0 = nx0 := rfl
theorem nxA_s : strip nxA = nxA := rfl
theorem nxB_s : strip nxB = nxB := rfl
theorem nxC_s : strip nxC = nxC := rfl

def nxK (b : Nat) (s : Value) (i n : Int) : Ex → Sg → HMap → Prop := fun e σ H => match e with
  | .norm => σ 0 = .bptr 0 b 0 ∧ σ 1 = .v (.int .i64 n) ∧ H 0 = some (.box b [.v s, .v (.int .i64 (i + 1))]) ∧ i < slen s
  | .ret => σ 4 = .v (.int .i64 0) ∧ H 0 = some (.box b [.v s, .v (.int .i64 i)])
  | .ex _ => False
@[simp ↓] theorem nxK_n (b : Nat) (s : Value) (i n : Int) (σ : Sg) (H : HMap) : nxK b s i n .norm σ H = (σ 0 = .bptr 0 b 0 ∧ σ 1 = .v (.int .i64 n) ∧ H 0 = some (.box b [.v s, .v (.int .i64 (i + 1))]) ∧ i < slen s) := id rfl
@[simp ↓] theorem nxK_r (b : Nat) (s : Value) (i n : Int) (σ : Sg) (H : HMap) : nxK b s i n .ret σ H = (σ 4 = .v (.int .i64 0) ∧ H 0 = some (.box b [.v s, .v (.int .i64 i)])) := id rfl
theorem nx_head (b : Nat) (a : Option Addr) (len cap : Nat) (i n : Int) (h0 : 0 ≤ i) (hl : (len : Int) ≤ 9223372036854775807) : vc S (.seq nx0 (.seq nxA nxB)) (nxK b (.slice a len cap) i n) (initS [.bptr 0 b 0, .v (.int .i64 n)]) (updH noH 0 (some (.box b [.v (.slice a len cap), .v (.int .i64 i)]))) := by
  simp [nx0, nxA, nxB, slen]
  intro h
  exact ⟨by simp only [InR]; omega, h⟩
def nxR (n : Int) : Ex → Sg → HMap → Prop := fun e σ H => match e with
  | .ret => ∃ y, σ 4 = .v (.int .i64 y) ∧ (n < 1 ∧ y = 0 ∨ 1 ≤ n ∧ 0 ≤ y ∧ y < n)
  | _ => False
@[simp ↓] theorem nxR_r (n : Int) (σ : Sg) (H : HMap) : nxR n .ret σ H = (∃ y, σ 4 = .v (.int .i64 y) ∧ (n < 1 ∧ y = 0 ∨ 1 ≤ n ∧ 0 ≤ y ∧ y < n)) := id rfl
theorem nx_tail (hm : S f_m_Mod = s_m_Mod) (L : List Int) (i n : Int) (h0 : 0 ≤ i) (hi : i < L.length) (hn : n ≤ 1000000000) (hl : (L.length : Int) ≤ 9223372036854775807) : vc S nxC (nxR n) (initS [.cptr [.list 1 (L.map enc), .v (.int .i64 (i + 1))] 0, .v (.int .i64 n)]) noH := by
  obtain ⟨x, hx⟩ := at_lt (l := L) (k := i.toNat) (by omega)
  simp [nxC, hm]
  refine ⟨by simp only [InR]; omega, h0, hi, fun a _ => ⟨hn, ?_⟩⟩
  rcases Int.lt_or_le n 1 with h | h
  · exact .inl ⟨h, by simp [modI, h]⟩
  · exact .inr ⟨h, modI_rng a n h⟩
end Go.Gv

namespace Go.Gv
set_option linter.unusedSimpArgs false
set_option linter.unusedVariables false
open Cod (enc dec)

theorem list_flatR {tp I tp' I' : Nat → Prop} {w w' : World} {s : Value} {es : List D} (hes : ∀ d ∈ es, ∃ n, d = .v (.int .i64 n)) (h : R tp I w s (.list 1 es)) (hI : ∀ c, I c → I' c ∧ w'.heap[c]? = w.heap[c]?) : R tp' I' w' s (.list 1 es) := by
  cases h with
  | nolist a cap _ => exact .nolist _ _ _
  | list b off cap n es f hb hc hm hn hcell h1 h2 =>
    refine .list b off cap _ es f (hI b hb).1 hc hm hn (fun k c hk => by rw [World.cell?_of_block (w := w) (hI b hb).2]; exact hcell k c hk) h1 (fun k c hk => ?_)
    have hc' := List.mem_of_getElem? hk
    simp only [flat, List.mem_flatMap] at hc'
    obtain ⟨d, hd, hcd⟩ := hc'
    obtain ⟨n, rfl⟩ := hes d hd
    simp [D.cells] at hcd
    subst hcd
    have := h2 k _ hk
    generalize f k = y at this ⊢
    cases this with
    | v _ a1 a2 => exact .v _ a1 a2

theorem comp_seq {P : Program} {im : List Nat} {N : Nat} {code : Code} {a b : CC} (h : compileC P im N code = some (.seq a b)) : ∃ x y, code = .seq x y ∧ compileC P im N x = some a ∧ compileC P im N y = some b := by
  rcases compile_inv h with ⟨h, _⟩ | ⟨_, _, _, _, h, _⟩ | ⟨_, _, _, _, _, h⟩ | ⟨a', b', x, y, h1, h2, h3, h4⟩ | ⟨_, _, _, _, _, _, h, _⟩ | ⟨_, _, _, _, h, _⟩ | ⟨_, _, _, h, _⟩ | ⟨_, _, h⟩ | ⟨_, h⟩ <;> try (simp at h; done)
  cases h2
  exact ⟨a', b', h1, h3, h4⟩

abbrev s_m_Next : Spc := spc (aT (a1 Int)) (fun x => x.2 ≤ 1000000000) (enc (X := Int)) (fun x y => x.2 < 1 ∧ y = 0 ∨ 1 ≤ x.2 ∧ 0 ≤ y ∧ y < x.2)

section
variable {P : Program} {S : Nat → Spc} {f : Nat} {im : List Nat} {N : Nat}
theorem tri_next (hS : ∀ f, Tri P f (S f).pt) (hm : S f_m_Mod = s_m_Mod) (h : FnOk P f im cc_m_Tape_Next rs_m_Tape_Next N) (hN : 2 ≤ N) : Tri P f s_m_Next.pt := by
  obtain ⟨mix, enter, fn, code, h1, h2, h3, h4, h5⟩ := h
  subst h3
  rw [nx_strip] at h4
  obtain ⟨x0, y0, rfl, hc0, h4⟩ := comp_seq h4
  obtain ⟨xA, yA, rfl, hcA, h4⟩ := comp_seq h4
  obtain ⟨xB, xC, rfl, hcB, hcC⟩ := comp_seq h4
  intro O tp w vs ds H d K hO htl hsat hlen hargs hA
  refine ⟨enter, calls_of_wp h1 h2 ?_⟩
  simp only [s_m_Next, spc_pt] at hA
  cases hd : (aT (a1 Int)).dec ds with
  | none => rw [hd] at hA; exact hA.elim
  | some x =>
  rw [hd] at hA
  obtain ⟨L, n⟩ := x
  obtain ⟨hp, hK⟩ := hA
  have hl := (aT (a1 Int)).le ds (L, n) hd
  have hl1 : ds.length = 2 := hl.1
  match ds, vs, hl, hl1, hlen, hargs with
  | [d0, d1], [v0, v1], hl, _, _, hargs =>
  have e0 : d0 = .tape L := by
    have := hl.2 0 d0 (.tape L) rfl rfl
    cases this; rfl
  have e1 : d1 = .v (.int .i64 n) := by
    have := hl.2 1 d1 (.v (.int .i64 n)) rfl rfl
    cases this; rfl
  subst e0; subst e1
  have r1 := (hargs 1 v1 _ rfl rfl).inv_v
  subst r1
  have r0 := hargs 0 v0 _ rfl rfl
  cases r0 with
  | tape b _ s i el hb hh g0 g1 gs hR =>
  obtain ⟨a, len, cap, rfl⟩ : ∃ a len cap, s = .slice a len cap := by
    generalize L.map (fun n => D.v (.int .i64 n)) = es at hR
    cases hR <;> exact ⟨_, _, _, rfl⟩
  have hlen : (len : Int) ≤ 9223372036854775807 := by
    generalize L.map (fun n => D.v (.int .i64 n)) = es at hR
    cases hR with
    | nolist => simp
    | list b off cap n es f hI hc hm => simp only [maxLen] at hm; omega
  have hLl : len = L.length := gs
  have hbl := htl b hb
  -- the first piece: the tape's memory is the frame's own
  let O2 : Nat → Prop := fun x => (O x ∨ owns H x) ∧ x ≠ b
  let tp2 : Nat → Prop := fun x => tp x ∧ x ≠ b
  let E2 : Env := { O := O2, tp0 := tp2, w0 := w, own0 := fun x => x = b, N := fn.ntmps }
  let H2 : HMap := updH noH 0 (some (.box b [.v (.slice a len cap), .v (.int .i64 i)]))
  have hownlt : ∀ c, owns H c → c < w.heap.size := fun c ⟨j, r, k1, k2⟩ => (hsat.ok j r k1).lt k2
  have h2 : ∀ j r, H2 j = some r → j = 0 ∧ r = .box b [.v (.slice a len cap), .v (.int .i64 i)] := fun j r hj => by
    by_cases e : j = 0
    · subst e
      simp only [H2, updH, if_true] at hj
      cases hj
      exact ⟨rfl, rfl⟩
    · simp [H2, updH, e, noH] at hj
  have hst : St E2 (initS [.bptr 0 b 0, .v (.int .i64 n)]) H2 { tmps := #[.pointer (some ⟨b, 0, none⟩), .int .i64 n] ++ Array.replicate (fn.ntmps - 2) undef, defers := [] } w := by
    refine ⟨rfl, ?_, tp2, ⟨fun c hc => hc.1.elim (hO c) (hownlt c), fun c hc => hc, fun c hc => .inl hc, fun c hc => htl c hc.1, .refl _ _ _, fun c ⟨j, r, k1, k2⟩ => ?_, ⟨fun j k r q c k1 k2 k3 k4 => ?_, fun j r c k1 k2 => ?_, fun j r k1 => ?_⟩⟩, fun t => ?_⟩
    · show (_ : Array Value).size = fn.ntmps
      simp
      omega
    · obtain ⟨_, rfl⟩ := h2 j r k1
      cases k2
      exact .inl rfl
    · rw [(h2 j r k1).1, (h2 k q k2).1]
    · obtain ⟨_, rfl⟩ := h2 j r k1
      cases k2
      exact ⟨fun h => h.2 rfl, fun h => h.2 rfl⟩
    · obtain ⟨_, rfl⟩ := h2 j r k1
      refine ⟨_, el, hh, rfl, fun k y c hy hc => ?_⟩
      rcases k with _ | _ | k
      · simp at hy hc; subst hy; subst hc; exact ⟨rfl, .v _ rfl (fun s hs => by cases hs)⟩
      · simp at hy hc; subst hy; subst hc; exact ⟨rfl, .v _ rfl (fun s hs => by cases hs)⟩
      · simp at hy
    · have q0 : (#[Value.pointer (some ⟨b, 0, none⟩), .int .i64 n] ++ Array.replicate (fn.ntmps - 2) undef).getD 0 undef = Value.pointer (some ⟨b, 0, none⟩) := by
        rw [Array.getD_eq_getD_getElem?, Array.getElem?_append_left (by simp)]; rfl
      have q1 : (#[Value.pointer (some ⟨b, 0, none⟩), .int .i64 n] ++ Array.replicate (fn.ntmps - 2) undef).getD 1 undef = Value.int .i64 n := by
        rw [Array.getD_eq_getD_getElem?, Array.getElem?_append_left (by simp)]; rfl
      rcases t with _ | _ | t
      · show R _ _ _ (Array.getD _ 0 undef) _
        rw [q0]; exact .bptr _ _ _
      · show R _ _ _ (Array.getD _ 1 undef) _
        rw [q1]; exact .v _ rfl (fun s hs => by cases hs)
      · exact .any _
  -- what is known when the frame has left the tape's place at j
  have fin : ∀ (w2 : World) (j y : Int) (el' : Nat), w2.os = w.os → w2.tape = w.tape → w2.output = w.output → w.heap.size ≤ w2.heap.size → (∀ c, c < w.heap.size → ¬ tp c → w2.heap[c]? = w.heap[c]?) →
      (∀ c, tp c → c ≠ b → TapeStep w w2 c) → w2.heap[b]? = some (.cells #[.slice a len cap, .int .i64 j] el' (0, 0)) → 0 ≤ j → j ≤ len → w.drawn ≤ w2.drawn →
      (n < 1 ∧ y = 0 ∨ 1 ≤ n ∧ 0 ≤ y ∧ y < n) → Left O tp H w K (.returned (.int .i64 y)) w2 := by
    intro w2 j y el' s1 s2 s3 s4 s5 s6 s7 s8 s9 s11 s10
    have htapes : ∀ c, tp c → TapeStep w w2 c := fun c hc => by
      by_cases e : c = b
      · subst e
        intro s' i' el0 hh' _ _
        rw [hh] at hh'
        cases hh'
        exact ⟨j, el', s7, s8, s9⟩
      · exact s6 c hc e
    refine ⟨_, .v (.int .i64 y), H, tp, rfl, hK y s10, fun c hc => hc, fun c hc => .inl hc, fun c hc => Nat.lt_of_lt_of_le (htl c hc) s4, ⟨s1, s2, s3, s4, fun c hc _ ht => s5 c hc ht, htapes, s11⟩, fun c hc => .inl hc,
      ⟨hsat.dis, hsat.out, fun k r hk => (hsat.ok k r hk).conv (fun x d hr => hr.mono (fun _ h => h) (fun c hc => ⟨⟨Nat.lt_of_lt_of_le hc.1 s4, hc.2.1, hc.2.2.1, hc.2.2.2⟩, s5 c hc.1 hc.2.2.1⟩) htapes) (fun c hc => s5 c ((hsat.ok k r hk).lt hc) (hsat.out k r c hk hc).2)⟩, .v _ rfl (fun s hs => by cases hs)⟩
  have hv := nx_head (S := S) b a len cap i n g0 hlen
  have cells2 : ∀ (tp' : Nat → Prop) (H' : HMap) (w' : World) (j : Int), StW E2 tp' H' w' → H' 0 = some (.box b [.v (.slice a len cap), .v (.int .i64 j)]) → ∃ el', w'.heap[b]? = some (.cells #[.slice a len cap, .int .i64 j] el' (0, 0)) := by
    intro tp' H' w' j hw hH
    obtain ⟨xs, el', k1, k2, k3⟩ := hw.sat.ok 0 _ hH
    refine ⟨el', ?_⟩
    rw [k1]
    obtain ⟨l⟩ := xs
    match l, k2, k3 with
    | [x, y], _, k3 =>
      have a1 := (k3 0 x _ rfl rfl).2.inv_v
      have a2 := (k3 1 y _ rfl rfl).2.inv_v
      rw [a1, a2]
  have hret : ∀ (a' : Act) (w' : World) (σ' : Sg) (H' : HMap), St E2 σ' H' a' w' → nxK b (.slice a len cap) i n .ret σ' H' → a'.defers = [] ∧ ∃ v, (results fn a'.tmps).run P w' = .ok v w' ∧ Left O tp H w K (.returned v) w' := by
    rintro a' w' σ' H' ⟨hd', hN', tp', hw', hr'⟩ ⟨k1, k2⟩
    obtain ⟨v, r0, hrun, hRv, hq⟩ := results_sound (H := H') (K := fun r => r = .v (.int .i64 0)) h5 hr' hw'.sat.ok k1
    subst hq
    have := hRv.inv_v
    subst this
    obtain ⟨el', k3⟩ := cells2 tp' H' w' i hw' k2
    have st := hw'.step
    refine ⟨hd', _, hrun, fin w' i 0 el' st.os st.tape st.output st.size (fun c hc ht => st.same c hc (fun e => ht (e ▸ hb)) (fun h => ht h.1)) (fun c hc hcb => st.tapes c ⟨hc, hcb⟩) k3 g0 g1 st.drawn ?_⟩
    rcases Int.lt_or_le n 1 with h | h
    · exact .inl ⟨h, rfl⟩
    · exact .inr ⟨h, by omega, by omega⟩
  have htail : ∀ (a' : Act) (w' : World) (σ' : Sg) (H' : HMap), St E2 σ' H' a' w' → nxK b (.slice a len cap) i n .norm σ' H' → xC.wp P (bodyPost P fn (Left O tp H w K)) a' w' := by
    rintro a1 w1 σ1 H1 ⟨hd1, hN1, tp1, hw1, hr1⟩ ⟨k1, k2, k3, k4⟩
    obtain ⟨el1, k5⟩ := cells2 tp1 H1 w1 (i + 1) hw1 k3
    have st1 := hw1.step
    have hsz1 : w.heap.size ≤ w1.heap.size := st1.size
    have same1 : ∀ c, c < w.heap.size → ¬ tp c → w1.heap[c]? = w.heap[c]? := fun c hc ht => st1.same c hc (fun e => ht (e ▸ hb)) (fun h => ht h.1)
    have tp1o : ∀ c, c < w.heap.size → tp1 c → tp2 c := fun c hc h => (hw1.tpn c h).elim id (fun h => by
      have h : w.heap.size ≤ c := h
      omega)
    have hb1 : ¬ tp1 b := fun h => (tp1o b hbl h).2 rfl
    let E3 : Env := { O := O2, tp0 := tp1, w0 := w1, own0 := fun _ => False, N := fn.ntmps }
    have himm : ∀ c, Imm O tp H w c → Imm O2 tp1 noH w1 c ∧ w1.heap[c]? = w.heap[c]? := fun c hc => ⟨⟨Nat.lt_of_lt_of_le hc.1 hsz1, fun h => h.1.elim hc.2.1 hc.2.2.2, fun h => hc.2.2.1 (tp1o c hc.1 h).1, fun ⟨j, r, h, _⟩ => by simp [noH] at h⟩, same1 c hc.1 hc.2.2.1⟩
    have hbi : Imm O2 tp1 noH w1 b := ⟨Nat.lt_of_lt_of_le hbl hsz1, fun h => h.2 rfl, hb1, fun ⟨j, r, h, _⟩ => by simp [noH] at h⟩
    have hRs : R tp1 (Imm O2 tp1 noH w1) w1 (.slice a len cap) (.list 1 (L.map enc)) := list_flatR (es := L.map fun n => D.v (.int .i64 n)) (fun d hd => by simp at hd; obtain ⟨n, _, rfl⟩ := hd; exact ⟨n, rfl⟩) hR himm
    have st3 : St E3 (initS [.cptr [.list 1 (L.map enc), .v (.int .i64 (i + 1))] 0, .v (.int .i64 n)]) noH a1 w1 := by
      refine ⟨hd1, hN1, tp1, ⟨fun c hc => Nat.lt_of_lt_of_le (hc.1.elim (hO c) (hownlt c)) hsz1, fun c hc => hc, fun c hc => .inl hc, hw1.tpl, .refl _ _ _, fun c ⟨j, r, k1, k2⟩ => by simp [noH] at k1, ⟨fun j k r q c k1 k2 k3 k4 => by simp [noH] at k1, fun j r c k1 k2 => by simp [noH] at k1, fun j r k1 => by simp [noH] at k1⟩⟩, fun t => ?_⟩
      rcases t with _ | _ | t
      · have r0 := hr1 0
        rw [k1] at r0
        generalize a1.tmps.getD 0 undef = v0 at r0 ⊢
        cases r0
        obtain ⟨f, q1, q2, q3⟩ := box_cells (tp := tp1) (I := Imm O2 tp1 noH w1) (w := w1) (cells := [.list 1 (L.map enc), .v (.int .i64 (i + 1))]) k5 rfl (by
          intro k y c hy hc
          rcases k with _ | _ | k
          · simp at hy hc; subst hy; subst hc; exact ⟨rfl, by simpa using hRs⟩
          · simp at hy hc; subst hy; subst hc; exact ⟨rfl, .v _ rfl (fun s hs => by cases hs)⟩
          · simp at hy)
        have := Gv.R.cptr (tp := tp1) (I := Imm O2 tp1 noH w1) b 0 [.list 1 (L.map enc), .v (.int .i64 (i + 1))] 0 f hbi q1 q2 q3
        simpa [initS] using this
      · have r0 := hr1 1
        rw [k2] at r0
        have := r0.inv_v
        show R _ _ _ _ (.v (.int .i64 n))
        rw [this]
        exact .v _ rfl (fun s hs => by cases hs)
      · exact .any _
    have hv3 := nx_tail (S := S) hm L i n g0 (by have : i < (len : Int) := k4; omega) hp (by omega)
    refine Code.wp_mono ?_ (vc_sound (E := E3) hS mix nxC xC (by rw [nxC_s]; exact hcC) _ _ _ _ _ st3 hv3)
    intro e a2 w2 hp2
    cases e with
    | ret =>
      obtain ⟨σ2, H2', ⟨hd2, hN2, tp2', hw2, hr2⟩, y, k6, k7⟩ := hp2
      obtain ⟨v, r0, hrun, hRv, hq⟩ := results_sound (H := H2') (K := fun r => r = .v (.int .i64 y)) h5 hr2 hw2.sat.ok k6
      subst hq
      have := hRv.inv_v
      subst this
      have st2 := hw2.step
      have hsz2 : w1.heap.size ≤ w2.heap.size := st2.size
      have same2 : ∀ c, c < w1.heap.size → ¬ tp1 c → w2.heap[c]? = w1.heap[c]? := fun c hc ht => st2.same c hc (fun h => h) ht
      refine ⟨hd2, _, hrun, fin w2 (i + 1) y el1 (st2.os.trans st1.os) (st2.tape.trans st1.tape) (st2.output.trans st1.output) (Nat.le_trans hsz1 hsz2) (fun c hc ht => ?_) (fun c hc hcb => (st1.tapes c ⟨hc, hcb⟩).trans (st2.tapes c (hw1.tpx c ⟨hc, hcb⟩))) ?_ (by omega) (by have : i < (len : Int) := k4; omega) (Nat.le_trans st1.drawn st2.drawn) k7⟩
      · rw [same2 c (by omega) (fun h => ht (tp1o c hc h).1), same1 c hc ht]
      · rw [same2 b (by omega) hb1, k5]
    | normal => obtain ⟨σ2, H2', _, k⟩ := hp2; exact k.elim
    | exit j => obtain ⟨σ2, H2', _, k⟩ := hp2; exact k.elim
    | goto l => exact hp2.elim
    | panic c => exact hp2.elim
    | outgrown => exact hp2.elim
  refine wp_seq (Code.wp_mono ?_ (vc_sound (E := E2) hS mix nx0 x0 (by rw [nx0_s]; exact hc0) (seqK S (.seq nxA nxB) (nxK b (.slice a len cap) i n)) _ _ _ _ hst hv))
  intro e a1 w1 hp1
  cases e with
  | normal =>
    obtain ⟨σ1, H1, st1, k1⟩ := hp1
    refine wp_seq (Code.wp_mono ?_ (vc_sound (E := E2) hS mix nxA xA (by rw [nxA_s]; exact hcA) (seqK S nxB (nxK b (.slice a len cap) i n)) _ _ _ _ st1 k1))
    intro e a1 w1 hp1
    cases e with
    | normal =>
      obtain ⟨σ1, H1, st1, k1⟩ := hp1
      refine wp_seq (Code.wp_mono ?_ (vc_sound (E := E2) hS mix nxB xB (by rw [nxB_s]; exact hcB) (nxK b (.slice a len cap) i n) _ _ _ _ st1 k1))
      intro e a1 w1 hp1
      cases e with
      | normal => obtain ⟨σ1, H1, st1, k1⟩ := hp1; exact htail a1 w1 σ1 H1 st1 k1
      | ret => obtain ⟨σ1, H1, st1, k1⟩ := hp1; exact hret a1 w1 σ1 H1 st1 k1
      | exit j => obtain ⟨σ2, H2', _, k⟩ := hp1; exact k.elim
      | goto l => exact hp1.elim
      | panic c => exact hp1.elim
      | outgrown => exact hp1.elim
    | ret => obtain ⟨σ1, H1, st1, k1⟩ := hp1; exact hret a1 w1 σ1 H1 st1 k1
    | exit j => obtain ⟨σ2, H2', _, k⟩ := hp1; exact k.elim
    | goto l => exact hp1.elim
    | panic c => exact hp1.elim
    | outgrown => exact hp1.elim
  | ret => obtain ⟨σ1, H1, st1, k1⟩ := hp1; exact hret a1 w1 σ1 H1 st1 k1
  | exit j => obtain ⟨σ2, H2', _, k⟩ := hp1; exact k.elim
  | goto l => exact hp1.elim
  | panic c => exact hp1.elim
  | outgrown => exact hp1.elim
end
end Go.Gv

namespace Go.Gv
set_option linter.unusedSimpArgs false
set_option linter.unusedVariables false
set_option maxRecDepth 100000
open Cod (enc dec)
def tpBox (b : Nat) (L : List Int) : Res := .box b [.list 1 (L.map enc), .v (.int .i64 0)]
def fbPT : PT := fun d ds H K => ∃ l, (a1 (List Int)).dec ds = some l ∧ ∀ b L, K (.bptr d b 0) (updH H d (some (tpBox b L)))
def WalkFB (cc : CC) (rs : List CRes) (S : Nat → Spc) : Prop :=
  ∀ l : List Int, vc S cc (retK rs fun r H' => ∃ j b L, r = .bptr j b 0 ∧ H' j = some (tpBox b L)) (initS [enc l]) noH
section
variable {P : Program} {S : Nat → Spc} {f : Nat} {im : List Nat} {cc : CC} {rs : List CRes} {N : Nat}
theorem tri_walkFB (hS : ∀ f, Tri P f (S f).pt) (h : FnOk P f im cc rs N) (hN : 1 ≤ N) (hw : WalkFB cc rs S) : Tri P f fbPT := by
  obtain ⟨mix, enter, fn, code, h1, h2, h3, h4, h5⟩ := h
  refine tri_of_vc hS mix h1 h2 enter h3 h4 h5 ?_
  rintro ds H d K ⟨l, hd, hK⟩
  have hl := (a1 (List Int)).le ds l hd
  refine ⟨by rw [hl.1]; exact hN, _, noH, fun _ => 0, hl, fun i r h => by simp [noH] at h, fun i j r s h => by simp [noH] at h, _, hw l, ?_⟩
  rintro r H' ⟨j, b, L, rfl, hj⟩
  refine ⟨.bptr d b 0, noH, updH H d (some (tpBox b L)), fun i => if i = d then some j else none, .bptr _ _ _ _, fun j q h => by simp [noH] at h, hK b L, fun i s hi => ?_, fun i j' k s q hi hj' e1 e2 => ?_⟩
  · by_cases e : i = d
    · subst e
      simp only [updH, if_true] at hi
      cases hi
      simpa using hj
    · simp only [updH, e, if_false] at hi ⊢
      exact ⟨hi, fun k q h => by simp [noH] at h⟩
  · have a : i = d := by
      by_cases e : i = d
      · exact e
      · simp [e] at e1
    have b : j' = d := by
      by_cases e : j' = d
      · exact e
      · simp [e] at e2
    exact a.trans b.symm

abbrev s_m_New : Spc := spc (a1 (List Int)) (fun _ => True) (fun L : List Int => D.tape L) (fun _ _ => True)
theorem tri_new (hf : Tri P f fbPT) : Tri P f s_m_New.pt := by
  intro O tp w vs ds H d K hO htl hsat hlen hargs hA
  simp only [s_m_New, spc_pt] at hA
  cases hd : (a1 (List Int)).dec ds with
  | none => rw [hd] at hA; exact hA.elim
  | some l =>
  rw [hd] at hA
  obtain ⟨_, hK⟩ := hA
  have hownlt : ∀ c, owns H c → c < w.heap.size := fun c ⟨j, r, k1, k2⟩ => (hsat.ok j r k1).lt k2
  have hno : ∀ c, ¬ owns noH c := fun c ⟨j, r, h, _⟩ => by simp [noH] at h
  have himm : ∀ c, Imm O tp H w c → Imm (fun c => O c ∨ owns H c) tp noH w c := fun c hc => ⟨hc.1, fun h => h.elim hc.2.1 hc.2.2.2, hc.2.2.1, hno c⟩
  obtain ⟨c1, c2⟩ := hf (fun c => O c ∨ owns H c) tp w vs ds noH 0 (fun r H' => ∃ b L, r = .bptr 0 b 0 ∧ H' = updH noH 0 (some (tpBox b L))) (fun c hc => hc.elim (hO c) (hownlt c)) htl
    ⟨fun i j r s b h => by simp [noH] at h, fun i r b h => by simp [noH] at h, fun i r h => by simp [noH] at h⟩ hlen
    (fun k x c hx hc => (hargs k x c hx hc).mono (fun _ h => h) (fun c hc => ⟨himm c hc, rfl⟩) (fun b _ => .refl _ _)) ⟨l, hd, fun b L => ⟨b, L, rfl, rfl⟩⟩
  refine ⟨c1, c2.mono ?_⟩
  rintro e w1 ⟨x, r, H', tp', rfl, ⟨b, L, rfl, rfl⟩, tpx, tpn, tpl, st, loc, sat, hR⟩
  cases hR
  have hH : updH noH 0 (some (tpBox b L)) 0 = some (tpBox b L) := rfl
  have hbo : owns (updH noH 0 (some (tpBox b L))) b := ⟨0, _, hH, rfl⟩
  have hbs : w.heap.size ≤ b := (loc b hbo).elim (fun h => (hno b h).elim) id
  have hbl : b < w1.heap.size := (sat.ok 0 _ hH).lt rfl
  have hbtp := sat.out 0 _ b hH rfl
  have hsz : w.heap.size ≤ w1.heap.size := st.size
  have old : ∀ c, c < w.heap.size → ¬ tp c → ¬ (tp' c ∨ c = b) := fun c hc ht h => h.elim (fun h => (tpn c h).elim ht (fun h => by
      have h : w.heap.size ≤ c := h
      omega)) (fun h => by omega)
  have same : ∀ c, c < w.heap.size → ¬ tp c → w1.heap[c]? = w.heap[c]? := fun c hc ht => st.same c hc (hno c) ht
  obtain ⟨xs, el, q1, q2, q3⟩ := sat.ok 0 _ hH
  obtain ⟨xl⟩ := xs
  match xl, q2, q3, q1 with
  | [s, y], _, q3, q1 =>
  have a1' := (q3 0 s _ rfl rfl).2
  have a2 := (q3 1 y _ rfl rfl).2.inv_v
  subst a2
  have hsl : slen s = L.length := by
    generalize hes : L.map enc = es at a1'
    have hl2 : L.length = es.length := by rw [← hes]; simp
    cases a1' with
    | nolist => simp at hl2; simp [slen, hl2]
    | list => rw [hl2]; rfl
  refine ⟨_, .tape L, H, fun c => tp' c ∨ c = b, rfl, hK L trivial, fun c hc => .inl (tpx c hc), fun c hc => hc.elim (tpn c) (fun e => .inr (e ▸ hbs)), fun c hc => hc.elim (tpl c) (fun e => e ▸ hbl),
    ⟨st.os, st.tape, st.output, st.size, fun c hc _ ht => same c hc ht, st.tapes, st.drawn⟩, fun c hc => .inl hc,
    ⟨hsat.dis, fun i r c hi hc => ⟨(hsat.out i r c hi hc).1, old c ((hsat.ok i r hi).lt hc) (hsat.out i r c hi hc).2⟩, fun i r hi => (hsat.ok i r hi).conv (fun x d hr => hr.mono (fun c hc => .inl (tpx c hc)) (fun c hc => ⟨⟨Nat.lt_of_lt_of_le hc.1 hsz, hc.2.1, old c hc.1 hc.2.2.1, hc.2.2.2⟩, same c hc.1 hc.2.2.1⟩) st.tapes) (fun c hc => same c ((hsat.ok i r hi).lt hc) (hsat.out i r c hi hc).2)⟩, ?_⟩
  refine .tape b L s 0 el (.inr rfl) q1 (by omega) (by omega) hsl ?_
  have a3 : R tp' (Imm (fun c => O c ∨ owns H c) tp' (updH noH 0 (some (tpBox b L))) w1) w1 s (.list 1 (L.map fun n => D.v (.int .i64 n))) := a1'
  exact list_flatR (fun d hd => by simp at hd; obtain ⟨n, _, rfl⟩ := hd; exact ⟨n, rfl⟩) a3 (fun c hc => ⟨⟨hc.1, fun h => hc.2.1 (.inl h), fun h => h.elim hc.2.2.1 (fun e => hc.2.2.2 (e ▸ hbo)), fun h => hc.2.1 (.inr h)⟩, rfl⟩)
end
end Go.Gv

namespace Go.Gv
set_option linter.unusedSimpArgs false
set_option linter.unusedVariables false
set_option maxRecDepth 100000
open Cod (enc dec)
variable {S S0 : Nat → Spc}

/-- A contract that says that the function returns. -/
def tot {X Y : Type} (_ : X) (_ : Y) : Prop := True
@[simp] theorem tot_t {X Y : Type} (x : X) (y : Y) : tot x y = True := id rfl
def anyX {X : Type} (_ : X) : Prop := True

end Go.Gv

namespace Go.Gv
set_option linter.unusedSimpArgs false
set_option linter.unusedVariables false
set_option maxRecDepth 100000
open Cod (enc dec)
variable {S S0 : Nat → Spc}


theorem take_enc {X : Type} [Cod X] (l : List X) (k : Nat) : List.take k (List.map enc l) = List.map enc (List.take k l) := List.map_take.symm
end Go.Gv

namespace Go.Gv
set_option linter.unusedSimpArgs false
set_option linter.unusedVariables false
set_option maxRecDepth 100000
open Cod (enc dec)
variable {S S0 : Nat → Spc}
end Go.Gv

namespace Go.Gv
set_option linter.unusedSimpArgs false
set_option linter.unusedVariables false
set_option maxRecDepth 100000
open Cod (enc dec)
variable {S S0 : Nat → Spc}

end Go.Gv

namespace Go.Gv
set_option linter.unusedSimpArgs false
set_option linter.unusedVariables false
set_option maxRecDepth 100000
open Cod (enc dec)
variable {S S0 : Nat → Spc}
/-- A list whose rear part is changed step by step. -/
def mix {X : Type} (f : X → X) (a b : List X) (j : Nat) : List X := a ++ ((b.take j).map f ++ b.drop j)
end Go.Gv

namespace Go.Gv
set_option linter.unusedSimpArgs false
set_option linter.unusedVariables false
set_option maxRecDepth 100000
open Cod (enc dec)
variable {S S0 : Nat → Spc}
end Go.Gv

namespace Go.Gv
set_option linter.unusedSimpArgs false
set_option linter.unusedVariables false
set_option maxRecDepth 100000
open Cod (enc dec)
variable {S S0 : Nat → Spc}
end Go.Gv

namespace Go.Gv
set_option linter.unusedSimpArgs false
set_option linter.unusedVariables false
set_option maxRecDepth 100000
open Cod (enc dec)
variable {S S0 : Nat → Spc}
theorem w_m_New : WalkFB cc_m_New rs_m_New S := by
  intro l
  simp [cc_m_New, rs_m_New, -List.map_take, take_enc, tpBox]
  omega
end Go.Gv

namespace Go.Gv
set_option linter.unusedSimpArgs false
set_option linter.unusedVariables false
set_option maxRecDepth 100000
open Cod (enc dec)
variable {S S0 : Nat → Spc}
def strs (l : List B) : List D := l.map enc
theorem strs2 (a b : B) : D.list 1 [.v (.string a), .v (.string b)] = .list 1 (strs [a, b]) := id rfl
theorem strs3 (a b c : B) : D.list 1 [.v (.string a), .v (.string b), .v (.string c)] = .list 1 (strs [a, b, c]) := id rfl
theorem strs_len (l : List B) : (strs l).length = l.length := by simp [strs]
theorem strs_at (l : List B) (i : Nat) (d : D) : ((strs l)[i]? = some d) = ∃ s, l[i]? = some s ∧ .v (.string s) = d := by
  simp [strs]
end Go.Gv

namespace Go.Gv
set_option linter.unusedSimpArgs false
set_option linter.unusedVariables false
set_option maxRecDepth 100000
open Cod (enc dec)
variable {S S0 : Nat → Spc}
end Go.Gv
