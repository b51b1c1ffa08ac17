/- A part of the framework and of the walks: C4 W42 W51 W53 W54. -/
import Derived.Test.YtblcfloekekefaaGreatGq12
import Derived.Test.YtblcfloekekefaaGreatGq16
import Derived.Test.YtblcfloekekefaaGreatGq14
import Derived.Test.YtblcfloekekefaaGreatGq13
import Derived.Test.YtblcfloekekefaaGreatGq19
import Derived.Test.YtblcfloekekefaaGreatGq17
import Derived.Test.YtblcfloekekefaaGreatGq18

namespace Go.Gv
open Go.Proofs
/-- (*corpora/corporamade.Tape).Cond [P_corporamade_Tape, int, L_string] -> [Cond] -/
def cc_m_Tape_Cond : CC :=
  .seq (.reg [
    .op (some 6) none (.alloc ty_Cond [(.int .i64 0), (.string ⟨#[]⟩), (.string ⟨#[]⟩), (.string ⟨#[]⟩), (.string ⟨#[]⟩), (.bool false), (.slice none 0 0)])])
  (.keep [0, 1, 2, 6] [6] (seqM 1 (.seq (.reg [
    .op (some 7) none (.mv (.tmp 0)),
    .op (some 8) none (.call f_m_Tape_Next [(.tmp 7), (.const (.int .i64 8))])])
  (.keep [0, 1, 2, 6, 8] [6] (.block 0 (.seq (.reg [
      .op (some 10) none (.eql false false [.int] (.tmp 8) (.const (.int .i64 0))),
      .op (some 9) none (.mv (.tmp 10))])
    (.keep [0, 1, 2, 6, 8, 9] [6] (.ite (.tmp 9) (.seq (.reg [
        .op (some 11) none (.build [(.int .i64 0), (.string ⟨#[]⟩), (.string ⟨#[]⟩), (.string ⟨#[]⟩), (.string ⟨#[]⟩), (.bool false), (.slice none 0 0)] [(0, 1, (.const (.int .i64 1)))]),
        .op none none (.store (some 6) 7 (.tmp 6) (.tmp 11))])
      (.keep [6] [6] (.ret)))
      (.seq /- 5 -/ (.seq (.reg [
        .op (some 13) none (.eql false false [.int] (.tmp 8) (.const (.int .i64 1))),
        .op (some 12) none (.mv (.tmp 13))])
      (.keep [0, 1, 2, 6, 8, 12] [6] (.ite (.tmp 12) (.skip)
        (.reg [
          .op (some 14) none (.eql false false [.int] (.tmp 8) (.const (.int .i64 2))),
          .op (some 12) none (.mv (.tmp 14))]))))
      (.keep [0, 1, 2, 6, 12] [6] (.ite (.tmp 12) (.seq (.regd [
          .op (some 15) none (.bslice ty_string 1 [(.const (.string ⟨#[97]⟩)), (.const (.string ⟨#[98]⟩)), (.const (.string ⟨#[97, 46, 42]⟩)), (.const (.string ⟨#[91, 97, 98, 93]⟩))]),
          .op (some 16) none (.mv (.tmp 0)),
          .op (some 17) none (.call f_m_Tape_Next [(.tmp 16), (.const (.int .i64 4))]),
          .op (some 18) none (.iaddr 1 (.tmp 15) (.tmp 17)),
          .op (some 19) none (.load false 1 (.tmp 18)),
          .op (some 20) none (.mv (.tmp 0)),
          .op (some 21) none (.call f_m_Tape_Next [(.tmp 20), (.const (.int .i64 3))]),
          .op (some 22) none (.eql false false [.int] (.tmp 21) (.const (.int .i64 2)))] [
          .op (some 23) none (.build [(.int .i64 0), (.string ⟨#[]⟩), (.string ⟨#[]⟩), (.string ⟨#[]⟩), (.string ⟨#[]⟩), (.bool false), (.slice none 0 0)] [(0, 1, (.const (.int .i64 2))), (3, 1, (.tmp 19)), (5, 1, (.tmp 22))]),
          .op none none (.store (some 6) 7 (.tmp 6) (.tmp 23))])
        (.keep [6] [6] (.ret)))
        (.skip))))))))))
  (.keep [0, 1, 2, 6] [6] (.seq (.reg [
    .op (some 24) none (.mv (.tmp 0)),
    .op (some 25) none (.mv (.tmp 1)),
    .op (some 26) none (.mv (.tmp 2)),
    .op (some 27) none (.call f_m_Tape_inner [(.tmp 24), (.tmp 25), (.tmp 26)]),
    .op none none (.store (some 6) 7 (.tmp 6) (.tmp 27))])
  (.keep [6] [6] (.ret))))))
def rs_m_Tape_Cond : List CRes := [.cell 6 true 7]
def im_m_Tape_Cond : List Nat := [2006006]
theorem ok_m_Tape_Cond : FnOk Tryz.prog f_m_Tape_Cond im_m_Tape_Cond cc_m_Tape_Cond rs_m_Tape_Cond 28 := fnOk1 mixed (by kernel_rfl)
/-- (*corpora/corporamade.Tape).inner [P_corporamade_Tape, int, L_string] -> [Cond] -/
def cc_m_Tape_inner : CC :=
  .seq (.reg [
    .op (some 6) none (.alloc ty_Cond [(.int .i64 0), (.string ⟨#[]⟩), (.string ⟨#[]⟩), (.string ⟨#[]⟩), (.string ⟨#[]⟩), (.bool false), (.slice none 0 0)])])
  (.keep [0, 1, 2, 6] [6] (.seq (.reg [
    .op (some 9) none (.mv (.tmp 0)),
    .op (some 10) none (.call f_m_Tape_Next [(.tmp 9), (.const (.int .i64 12))]),
    .op (some 7) none (.mv (.tmp 10))])
  (.keep [0, 1, 2, 6, 7] [6] (seqM 2 (.seq (.reg [
    .op (some 11) none (.mv (.tmp 1)),
    .op (some 12) none (.cmp .lss (.tmp 11) (.const (.int .i64 1)))])
  (.keep [0, 1, 2, 6, 7, 12] [6] (.ite (.tmp 12) (.reg [
      .op (some 13) none (.mv (.tmp 7)),
      .op (some 14) none (.arith .rem (.tmp 13) (.const (.int .i64 8))),
      .op (some 7) none (.mv (.tmp 14))])
    (.skip))))
  (.keep [0, 1, 2, 6, 7] [6] (seqM 4 (.seq (.reg [
    .op (some 15) none (.mv (.tmp 7))])
  (.keep [0, 1, 2, 6, 7, 15] [6] (.block 0 (seqM 6 (.seq (.reg [
      .op (some 17) none (.eql false false [.int] (.tmp 15) (.const (.int .i64 0))),
      .op (some 16) none (.mv (.tmp 17))])
    (.keep [0, 1, 2, 6, 7, 15, 16] [6] (.ite (.tmp 16) (.skip)
      (.seq (.reg [
        .op (some 18) none (.eql false false [.int] (.tmp 15) (.const (.int .i64 1))),
        .op (some 16) none (.mv (.tmp 18))])
      (.keep [0, 1, 2, 6, 7, 15, 16] [6] (.ite (.tmp 16) (.skip)
        (.seq (.reg [
          .op (some 19) none (.eql false false [.int] (.tmp 15) (.const (.int .i64 2))),
          .op (some 16) none (.mv (.tmp 19))])
        (.keep [0, 1, 2, 6, 7, 15, 16] [6] (.ite (.tmp 16) (.skip)
          (.reg [
            .op (some 20) none (.eql false false [.int] (.tmp 15) (.const (.int .i64 3))),
            .op (some 16) none (.mv (.tmp 20))]))))))))))
    (.keep [0, 1, 2, 6, 7, 15, 16] [6] (.ite (.tmp 16) (.seq (.regd [
        .op (some 21) none (.bslice ty_string 1 [(.const (.string ⟨#[119, 111, 114, 100]⟩)), (.const (.string ⟨#[119, 111, 114, 100]⟩)), (.const (.string ⟨#[116, 97, 103]⟩))]),
        .op (some 22) none (.mv (.tmp 0)),
        .op (some 23) none (.call f_m_Tape_Next [(.tmp 22), (.const (.int .i64 3))]),
        .op (some 24) none (.iaddr 1 (.tmp 21) (.tmp 23)),
        .op (some 25) none (.load false 1 (.tmp 24)),
        .op (some 26) none (.bslice ty_string 1 [(.const (.string ⟨#[97]⟩)), (.const (.string ⟨#[98]⟩)), (.const (.string ⟨#[97, 46, 42]⟩)), (.const (.string ⟨#[91, 97, 98, 93]⟩)), (.const (.string ⟨#[88]⟩)), (.const (.string ⟨#[]⟩)), (.const (.string ⟨#[99, 63]⟩)), (.const (.string ⟨#[97, 124, 98]⟩))]),
        .op (some 27) none (.mv (.tmp 0)),
        .op (some 28) none (.call f_m_Tape_Next [(.tmp 27), (.const (.int .i64 8))]),
        .op (some 29) none (.iaddr 1 (.tmp 26) (.tmp 28)),
        .op (some 30) none (.load false 1 (.tmp 29)),
        .op (some 31) none (.mv (.tmp 0)),
        .op (some 32) none (.call f_m_Tape_Next [(.tmp 31), (.const (.int .i64 3))]),
        .op (some 33) none (.eql false false [.int] (.tmp 32) (.const (.int .i64 2)))] [
        .op (some 34) none (.build [(.int .i64 0), (.string ⟨#[]⟩), (.string ⟨#[]⟩), (.string ⟨#[]⟩), (.string ⟨#[]⟩), (.bool false), (.slice none 0 0)] [(0, 1, (.const (.int .i64 2))), (1, 1, (.tmp 25)), (3, 1, (.tmp 30)), (5, 1, (.tmp 33))]),
        .op none none (.store (some 6) 7 (.tmp 6) (.tmp 34))])
      (.keep [6] [6] (.ret)))
      (.seq (.reg [
        .op (some 36) none (.eql false false [.int] (.tmp 15) (.const (.int .i64 4))),
        .op (some 35) none (.mv (.tmp 36))])
      (.keep [0, 1, 2, 6, 7, 15, 35] [6] (.ite (.tmp 35) (.seq (.reg [
          .op (some 37) none (.bslice ty_string 1 [(.const (.string ⟨#[112]⟩)), (.const (.string ⟨#[113]⟩))]),
          .op (some 38) none (.mv (.tmp 0)),
          .op (some 39) none (.call f_m_Tape_Next [(.tmp 38), (.const (.int .i64 2))]),
          .op (some 40) none (.iaddr 1 (.tmp 37) (.tmp 39)),
          .op (some 41) none (.load false 1 (.tmp 40)),
          .op (some 42) none (.build [(.int .i64 0), (.string ⟨#[]⟩), (.string ⟨#[]⟩), (.string ⟨#[]⟩), (.string ⟨#[]⟩), (.bool false), (.slice none 0 0)] [(0, 1, (.const (.int .i64 3))), (1, 1, (.const (.string ⟨#[102, 101, 97, 116]⟩))), (3, 1, (.tmp 41))]),
          .op none none (.store (some 6) 7 (.tmp 6) (.tmp 42))])
        (.keep [6] [6] (.ret)))
        (.seq (.reg [
          .op (some 44) none (.eql false false [.int] (.tmp 15) (.const (.int .i64 5))),
          .op (some 43) none (.mv (.tmp 44))])
        (.keep [0, 1, 2, 6, 7, 15, 43] [6] (.ite (.tmp 43) (.seq /- 14 -/ (.seq (.reg [
            .op (some 45) none (.mv (.tmp 2)),
            .op (some 46) none (.len (.tmp 45)),
            .op (some 47) none (.cmp .gtr (.tmp 46) (.const (.int .i64 0)))])
          (.keep [0, 2, 6, 47] [6] (.ite (.tmp 47) (.seq (.regd [
              .op (some 48) none (.bslice ty_string 1 [(.const (.string ⟨#[119, 111, 114, 100]⟩)), (.const (.string ⟨#[116, 97, 103]⟩))]),
              .op (some 49) none (.mv (.tmp 0)),
              .op (some 50) none (.call f_m_Tape_Next [(.tmp 49), (.const (.int .i64 2))]),
              .op (some 51) none (.iaddr 1 (.tmp 48) (.tmp 50)),
              .op (some 52) none (.load false 1 (.tmp 51)),
              .op (some 53) none (.mv (.tmp 2)),
              .op (some 54) none (.mv (.tmp 0)),
              .op (some 55) none (.mv (.tmp 2)),
              .op (some 56) none (.len (.tmp 55)),
              .op (some 57) none (.call f_m_Tape_Next [(.tmp 54), (.tmp 56)]),
              .op (some 58) none (.iaddr 1 (.tmp 53) (.tmp 57)),
              .op (some 59) none (.load false 1 (.tmp 58)),
              .op (some 60) none (.bslice ty_string 1 [(.const (.string ⟨#[119, 111, 114, 100]⟩)), (.const (.string ⟨#[116, 97, 103]⟩))]),
              .op (some 61) none (.mv (.tmp 0)),
              .op (some 62) none (.call f_m_Tape_Next [(.tmp 61), (.const (.int .i64 2))]),
              .op (some 63) none (.iaddr 1 (.tmp 60) (.tmp 62)),
              .op (some 64) none (.load false 1 (.tmp 63))] [
              .op (some 65) none (.build [(.int .i64 0), (.string ⟨#[]⟩), (.string ⟨#[]⟩), (.string ⟨#[]⟩), (.string ⟨#[]⟩), (.bool false), (.slice none 0 0)] [(0, 1, (.const (.int .i64 4))), (1, 1, (.tmp 52)), (4, 1, (.tmp 59)), (2, 1, (.tmp 64))]),
              .op none none (.store (some 6) 7 (.tmp 6) (.tmp 65))])
            (.keep [6] [6] (.ret)))
            (.skip))))
          (.keep [6] [6] (.seq (.reg [
            .op (some 66) none (.build [(.int .i64 0), (.string ⟨#[]⟩), (.string ⟨#[]⟩), (.string ⟨#[]⟩), (.string ⟨#[]⟩), (.bool false), (.slice none 0 0)] [(0, 1, (.const (.int .i64 2))), (1, 1, (.const (.string ⟨#[116, 97, 103]⟩))), (3, 1, (.const (.string ⟨#[89]⟩)))]),
            .op none none (.store (some 6) 7 (.tmp 6) (.tmp 66))])
          (.keep [6] [6] (.ret)))))
          (seqM 18 (.seq (.reg [
            .op (some 68) none (.eql false false [.int] (.tmp 15) (.const (.int .i64 6))),
            .op (some 67) none (.mv (.tmp 68))])
          (.keep [0, 1, 2, 6, 7, 15, 67] [6] (.ite (.tmp 67) (.skip)
            (.reg [
              .op (some 69) none (.eql false false [.int] (.tmp 15) (.const (.int .i64 7))),
              .op (some 67) none (.mv (.tmp 69))]))))
          (.keep [0, 1, 2, 6, 7, 15, 67] [6] (.ite (.tmp 67) (.seq (.reg [
              .op (some 70) none (.mv (.tmp 0)),
              .op (some 71) none (.call f_m_Tape_Next [(.tmp 70), (.const (.int .i64 3))]),
              .op (some 72) none (.call f_m_Type [(.tmp 71)]),
              .op (some 73) none (.build [(.int .i64 0), (.string ⟨#[]⟩), (.string ⟨#[]⟩), (.string ⟨#[]⟩), (.string ⟨#[]⟩), (.bool false), (.slice none 0 0)] [(0, 1, (.const (.int .i64 5))), (1, 1, (.tmp 72))]),
              .op (some 8) none (.alloc ty_Cond [(.int .i64 0), (.string ⟨#[]⟩), (.string ⟨#[]⟩), (.string ⟨#[]⟩), (.string ⟨#[]⟩), (.bool false), (.slice none 0 0)]),
              .op none none (.store none 7 (.tmp 8) (.tmp 73))])
            (.keep [0, 6, 8] [6, 8] (seqM 21 (.seq (.reg [
              .op (some 74) none (.mv (.tmp 0)),
              .op (some 75) none (.call f_m_Tape_Next [(.tmp 74), (.const (.int .i64 2))]),
              .op (some 76) none (.eql false false [.int] (.tmp 75) (.const (.int .i64 1)))])
            (.keep [0, 6, 8, 76] [6, 8] (.ite (.tmp 76) (.regd [
                .op (some 77) none (.bslice ty_string 1 [(.const (.string ⟨#[49]⟩)), (.const (.string ⟨#[50]⟩))]),
                .op (some 78) none (.mv (.tmp 0)),
                .op (some 79) none (.call f_m_Tape_Next [(.tmp 78), (.const (.int .i64 2))]),
                .op (some 80) none (.iaddr 1 (.tmp 77) (.tmp 79)),
                .op (some 81) none (.load false 1 (.tmp 80)),
                .op (some 82) none (.faddr 2 (.tmp 8)),
                .op none none (.store (some 8) 1 (.tmp 82) (.const (.string ⟨#[110]⟩)))] [
                .op (some 83) none (.faddr 3 (.tmp 8)),
                .op none none (.store (some 8) 1 (.tmp 83) (.tmp 81))])
              (.skip))))
            (.keep [6, 8] [6, 8] (.seq (.reg [
              .op (some 84) none (.load true 7 (.tmp 8)),
              .op none none (.store (some 6) 7 (.tmp 6) (.tmp 84))])
            (.keep [6] [6] (.ret)))))))
            (seqM 24 (.seq (.reg [
              .op (some 86) none (.eql false false [.int] (.tmp 15) (.const (.int .i64 8))),
              .op (some 85) none (.mv (.tmp 86))])
            (.keep [0, 1, 2, 6, 7, 15, 85] [6] (.ite (.tmp 85) (.skip)
              (.reg [
                .op (some 87) none (.eql false false [.int] (.tmp 15) (.const (.int .i64 9))),
                .op (some 85) none (.mv (.tmp 87))]))))
            (.keep [0, 1, 2, 6, 7, 85] [6] (.ite (.tmp 85) (.seq (.reg [
                .op (some 88) none (.mv (.tmp 0)),
                .op (some 89) none (.mv (.tmp 1)),
                .op (some 90) none (.arith .sub (.tmp 89) (.const (.int .i64 1))),
                .op (some 91) none (.mv (.tmp 2)),
                .op (some 92) none (.call f_m_Tape_inner [(.tmp 88), (.tmp 90), (.tmp 91)]),
                .op (some 93) none (.bslice ty_Cond 7 [(.tmp 92)]),
                .op (some 94) none (.build [(.int .i64 0), (.string ⟨#[]⟩), (.string ⟨#[]⟩), (.string ⟨#[]⟩), (.string ⟨#[]⟩), (.bool false), (.slice none 0 0)] [(0, 1, (.const (.int .i64 6))), (6, 1, (.tmp 93))]),
                .op none none (.store (some 6) 7 (.tmp 6) (.tmp 94))])
              (.keep [6] [6] (.ret)))
              (.skip)))))))))))))))))))
  (.keep [0, 1, 2, 6, 7] [6] (.seq (.reg [
    .op (some 95) none (.mv (.tmp 7)),
    .op (some 96) none (.arith .add (.const (.int .i64 7)) (.tmp 95)),
    .op (some 97) none (.arith .sub (.tmp 96) (.const (.int .i64 10))),
    .op (some 98) none (.mv (.tmp 0)),
    .op (some 99) none (.mv (.tmp 1)),
    .op (some 100) none (.arith .sub (.tmp 99) (.const (.int .i64 1))),
    .op (some 101) none (.mv (.tmp 2)),
    .op (some 102) none (.call f_m_Tape_inner [(.tmp 98), (.tmp 100), (.tmp 101)]),
    .op (some 103) none (.mv (.tmp 0)),
    .op (some 104) none (.mv (.tmp 1)),
    .op (some 105) none (.arith .sub (.tmp 104) (.const (.int .i64 1))),
    .op (some 106) none (.mv (.tmp 2)),
    .op (some 107) none (.call f_m_Tape_inner [(.tmp 103), (.tmp 105), (.tmp 106)]),
    .op (some 108) none (.bslice ty_Cond 7 [(.tmp 102), (.tmp 107)]),
    .op (some 109) none (.build [(.int .i64 0), (.string ⟨#[]⟩), (.string ⟨#[]⟩), (.string ⟨#[]⟩), (.string ⟨#[]⟩), (.bool false), (.slice none 0 0)] [(0, 1, (.tmp 97)), (6, 1, (.tmp 108))]),
    .op none none (.store (some 6) 7 (.tmp 6) (.tmp 109))])
  (.keep [6] [6] (.ret))))))))))
def rs_m_Tape_inner : List CRes := [.cell 6 true 7]
def im_m_Tape_inner : List Nat := [2006006, 2006006, 2083008, 2082008]
theorem ok_m_Tape_inner : FnOk Tryz.prog f_m_Tape_inner im_m_Tape_inner cc_m_Tape_inner rs_m_Tape_inner 110 := fnOk1 mixed (by kernel_rfl)
-- m_bind range i=16 n=15 c=17 i2=26 id=0: live [1:labels, 2:p, 4:, 5:kids, 14:] changed [5] res [2, 4, 25]
-- m_replace range i=15 n=14 c=16 i2=24 id=0: live [2:x, 4:, 13:] changed [] res [2, 4, 40]
-- m_replace range i=31 n=30 c=32 i2=41 id=2: live [1:labels, 2:x, 4:, 7:kids, 29:] changed [7] res [2, 4, 40]
-- m_Bound range i=19 n=18 c=20 i2=28 id=0: live [1:out, 2:p, 17:] changed [] res []
-- m_Bound range i=37 n=36 c=38 i2=44 id=2: live [1:out, 35:] changed [1] res []
-- m_Tape_Constraint while id=0: live [0:t, 6:, 11:x, 12:n] changed [12] res [6, 11, 111]
-- m_Tape_Query while id=0: live [0:t, 4:, 7:q, 8:n] changed [8] res [4, 7, 49]
end Go.Gv

namespace Go.Gv
set_option linter.unusedSimpArgs false
set_option linter.unusedVariables false
set_option maxRecDepth 100000
open Cod (enc dec)
variable {S S0 : Nat → Spc}
abbrev s_m_TypeN : Spc := spc (a1 Int) anyX (enc (X := B)) (fun _ y => y ∈ Types)
theorem w_m_TypeN (h1 : S f_m_Mod = s_m_Mod) : Walk cc_m_Type rs_m_Type S (a1 Int) anyX (enc (X := B)) (fun _ y => y ∈ Types) := by
  rintro n -
  simp [cc_m_Type, rs_m_Type, h1]
  have h3 := modI_rng n 3 (by omega)
  refine ⟨h3.1, h3.2, ?_⟩
  have : modI n 3 = 0 ∨ modI n 3 = 1 ∨ modI n 3 = 2 := by omega
  rcases this with h | h | h <;> simp [h, Types, b_s, b_np, b_t]
def P_gen (n : Nat) (x : List Int × Int × List B) : Prop := x.2.1.toNat < n ∧ -10 ≤ x.2.1 ∧ x.2.1 ≤ 100 ∧ x.2.2.length ≤ 1000
abbrev s_m_inner (n : Nat) : Spc := spc (aT (a2 Int (List B))) (P_gen n) (enc (X := Cond)) tot
theorem fin_cond {q : Cond → Prop} {H : HMap} {op : Int} {n a v l : B} {f : Bool} {d : D} (ks : List Cond) (hd : FrzTo H d (enc ks)) (hq : q ⟨op, n, a, v, l, f, ks⟩) : Fin enc q (.agg [.v (.int .i64 op), .v (.string n), .v (.string a), .v (.string v), .v (.string l), .v (.bool f), d]) H := by
  refine fin_of (⟨op, n, a, v, l, f, ks⟩ : Cond) ?_ hq
  rw [enc_Cond]
  refine .agg rfl fun k x y hx hy => ?_
  rcases k with _ | _ | _ | _ | _ | _ | _ | k
  · cases hx; cases hy; exact .same _
  · cases hx; cases hy; exact .same _
  · cases hx; cases hy; exact .same _
  · cases hx; cases hy; exact .same _
  · cases hx; cases hy; exact .same _
  · cases hx; cases hy; exact .same _
  · cases hx; cases hy; exact hd
  · simp at hx
theorem strs8 (a b c d e f g h : B) : D.list 1 [.v (.string a), .v (.string b), .v (.string c), .v (.string d), .v (.string e), .v (.string f), .v (.string g), .v (.string h)] = .list 1 (strs [a, b, c, d, e, f, g, h]) := id rfl
theorem strs4 (a b c d : B) : D.list 1 [.v (.string a), .v (.string b), .v (.string c), .v (.string d)] = .list 1 (strs [a, b, c, d]) := id rfl
theorem w_m_inner (n : Nat) (h1 : S f_m_Tape_Next = s_m_Next) (h2 : S f_m_Type = s_m_TypeN) (h3 : S f_m_Tape_inner = s_m_inner n) : Walk cc_m_Tape_inner rs_m_Tape_inner S (aT (a2 Int (List B))) (P_gen (n + 1)) (enc (X := Cond)) tot := by
  rintro ⟨L, deep, lb⟩ ⟨hn, hd0, hd1, hlb⟩
  simp only at hn hd0 hd1 hlb
  simp [cc_m_Tape_inner, rs_m_Tape_inner, h1]
  intro b6 k0 hk0 hk1
  refine vc_mid (X := Int) [0, 1, 2, 6] [6] (fun k => 0 ≤ k ∧ k < 12 ∧ (deep < 1 → k < 8)) (fun k => [(7, enc k)]) (fun _ => []) ?_ ?_
  · simp
    have : k0.tmod 8 = k0 % 8 := Int.tmod_eq_emod_of_nonneg hk0
    rw [this]
    omega
  rintro k ⟨q0, q1, q2⟩
  refine vc_mid (X := Unit) [0, 1, 2, 6, 7] [6] (fun _ => 10 ≤ k) (fun _ => []) (fun _ => []) ?_ ?_
  · simp
    refine vc_mid (X := Bool) [0, 1, 2, 6, 7, 15] [6] (fun b => b = decide (k < 4)) (fun b => [(16, enc b)]) (fun _ => []) ?_ ?_
    · simp
      repeat' first | apply And.intro | intro _
      all_goals first | omega | (rw [Bool.eq_iff_iff]; simp; omega)
    rintro b hb
    simp [h1, strs2, strs3, strs8, strs4, strs_len, strs_at, -Bool.forall_bool]
    refine ⟨fun _ y hy0 hy1 => ⟨hy0, hy1, fun a ha y hy0 hy1 => ⟨hy0, hy1, fun a' ha' y hy0 hy1 => fin_cond [] (.nil _) trivial⟩⟩, fun hb0 => ?_⟩
    rw [hb0] at hb
    have hb : 4 ≤ k := by simpa using hb.symm
    refine ⟨fun _ y hy0 hy1 => ⟨hy0, hy1, fun a ha => fin_cond [] (.nil _) trivial⟩, fun k4 => ⟨fun _ _ => ⟨fun hl y hy0 hy1 => ⟨hy0, hy1, fun a ha _ => ⟨by omega, fun y hy => ⟨by omega, by omega, fun a' ha' y hy0 hy1 => ⟨hy0, hy1, fun a'' ha'' => fin_cond [] (.nil _) trivial⟩⟩⟩⟩, fun _ => fin_cond [] (.nil _) trivial⟩, fun k5 => ?_⟩⟩
    refine vc_mid (X := Bool) [0, 1, 2, 6, 7, 15] [6] (fun b => b = decide (k = 6 ∨ k = 7)) (fun b => [(67, enc b)]) (fun _ => []) ?_ ?_
    · simp
      repeat' first | apply And.intro | intro _
      all_goals first | omega | (rw [Bool.eq_iff_iff]; simp; omega)
    rintro b hb2
    simp [h1, h2, -Bool.forall_bool]
    refine ⟨fun _ y hy0 hy1 => ⟨trivial, fun t ht b8 => ?_⟩, fun hb0 => ?_⟩
    · refine vc_mid (X := B × B) [6, 8] [6] (fun _ => True) (fun _ => []) (fun x => [(8, .box b8 [.v (.int .i64 5), .v (.string t), .v (.string x.1), .v (.string x.2), .v (.string ⟨#[]⟩), .v (.bool false), .v (.slice none 0 0)])]) ?_ ?_
      · simp [h1, strs2, strs_len, strs_at]
        refine fun y hy0 hy1 => ⟨fun _ z hz0 hz1 => ⟨hz0, hz1, fun a ha => ⟨_, _, .inl ⟨rfl, rfl⟩⟩⟩, fun _ => ⟨_, _, .inl ⟨rfl, rfl⟩⟩⟩
      · rintro ⟨a, v⟩ -
        simp
        exact fin_cond [] (.nil _) trivial
    rw [hb0] at hb2
    have hb2 : ¬ (k = 6 ∨ k = 7) := by simpa using hb2.symm
    refine vc_mid (X := Bool) [0, 1, 2, 6, 7, 15] [6] (fun b => b = decide (k = 8 ∨ k = 9)) (fun b => [(85, enc b)]) (fun _ => []) ?_ ?_
    · simp
      repeat' first | apply And.intro | intro _
      all_goals first | omega | (rw [Bool.eq_iff_iff]; simp; omega)
    rintro b hb3
    simp [h3, -Bool.forall_bool]
    have hrec : 1 ≤ deep → P_gen n (L, deep - 1, lb) := fun h => ⟨by show (deep - 1).toNat < n; omega, by show -10 ≤ deep - 1; omega, by show deep - 1 ≤ 100; omega, hlb⟩
    refine ⟨fun hb1 => ?_, fun hb0 => ?_⟩
    · rw [hb1] at hb3
      have hb3 : k = 8 ∨ k = 9 := by simpa using hb3.symm
      refine ⟨by simp only [InR]; omega, hrec (by omega), fun y => fin_cond [y] (by simp) trivial⟩
    rw [hb0] at hb3
    have hb3 : ¬ (k = 8 ∨ k = 9) := by simpa using hb3.symm
    omega
  · rintro - hk
    have hrec : P_gen n (L, deep - 1, lb) := ⟨by show (deep - 1).toNat < n; omega, by show -10 ≤ deep - 1; omega, by show deep - 1 ≤ 100; omega, hlb⟩
    simp [h3]
    refine ⟨by simp only [InR]; omega, by simp only [InR]; omega, by simp only [InR]; omega, hrec, fun y => ⟨by simp only [InR]; omega, hrec, fun y' => fin_cond [y, y'] (by simp) trivial⟩⟩
abbrev s_m_Cond : Spc := spc (aT (a2 Int (List B))) (fun x => -10 ≤ x.2.1 ∧ x.2.1 ≤ 100 ∧ x.2.2.length ≤ 1000) (enc (X := Cond)) tot
abbrev s_m_innerA : Spc := spc (aT (a2 Int (List B))) (fun x => ∃ n, P_gen n x) (enc (X := Cond)) tot
theorem w_m_Cond (h1 : S f_m_Tape_Next = s_m_Next) (h3 : S f_m_Tape_inner = s_m_innerA) : Walk cc_m_Tape_Cond rs_m_Tape_Cond S (aT (a2 Int (List B))) (fun x => -10 ≤ x.2.1 ∧ x.2.1 ≤ 100 ∧ x.2.2.length ≤ 1000) (enc (X := Cond)) tot := by
  rintro ⟨L, deep, lb⟩ ⟨hd0, hd1, hlb⟩
  simp only at hd0 hd1 hlb
  simp [cc_m_Tape_Cond, rs_m_Tape_Cond, h1]
  intro b6
  refine vc_mid (X := Unit) [0, 1, 2, 6] [6] (fun _ => True) (fun _ => []) (fun _ => []) ?_ ?_
  · simp [h1, strs4, strs_len, strs_at, -Bool.forall_bool]
    exact fun y _ _ => ⟨fun _ => fin_cond [] (.nil _) trivial, fun _ => ⟨fun _ z z0 z1 => ⟨z0, z1, fun a _ u _ _ => fin_cond [] (.nil _) trivial⟩, fun _ _ z z0 z1 => ⟨z0, z1, fun a _ u _ _ => fin_cond [] (.nil _) trivial⟩⟩⟩
  · rintro - -
    have hrec : ∃ n, P_gen n (L, deep, lb) := ⟨deep.toNat + 1, Nat.lt_succ_self _, hd0, hd1, hlb⟩
    simp [h3, hrec]
    exact fun y => fin_cond y.kids (.same _) trivial
end Go.Gv

namespace Go.Gv
set_option linter.unusedSimpArgs false
set_option linter.unusedVariables false
set_option maxRecDepth 100000
open Cod (enc dec)
variable {S S0 : Nat → Spc}
@[simp] abbrev F_alt (n : Nat) (s : Pst) (_ : Unit) : Option (Pst × Pat) := altF n s
abbrev s_alt (n : Nat) : Spc := psF a0 (enc (X := Pat)) (F_alt n)
@[simp] abbrev F_item (A : Pst → Option (Pst × Pat)) (s : Pst) (_ : Unit) : Option (Pst × Pat) := itemF A s
abbrev s_item (A : Pst → Option (Pst × Pat)) : Spc := psF a0 (enc (X := Pat)) (F_item A)
@[simp] abbrev F_rep (A : Pst → Option (Pst × Pat)) (s : Pst) (_ : Unit) : Option (Pst × Pat) := repF A s
abbrev s_rep (A : Pst → Option (Pst × Pat)) : Spc := psF a0 (enc (X := Pat)) (F_rep A)
@[simp] abbrev F_seq (A : Pst → Option (Pst × Pat)) (s : Pst) (_ : Unit) : Option (Pst × Pat) := seqF A s
abbrev s_seq (A : Pst → Option (Pst × Pat)) : Spc := psF a0 (enc (X := Pat)) (F_seq A)
theorem frz_pat {H : HMap} {op o : Int} {n a v l lb rg : B} {f : Bool} {cd d : D} {mn mx : Int} (cks : List Cond) (ks : List Pat) (hc : FrzTo H cd (enc cks)) (hd : FrzTo H d (enc ks)) :
    FrzTo H (.agg [.v (.int .i64 op), .v (.int .i64 o), .v (.string n), .v (.string a), .v (.string v), .v (.string l), .v (.bool f), cd, .v (.string lb), .v (.string rg), .v (.int .i64 mn), .v (.int .i64 mx), d]) (enc (⟨op, ⟨o, n, a, v, l, f, cks⟩, lb, rg, mn, mx, ks⟩ : Pat)) := by
  rw [enc_Pat]
  refine .agg rfl fun k x y hx hy => ?_
  rcases k with _ | _ | _ | _ | _ | _ | _ | _ | _ | _ | _ | _ | _ | k
  · cases hx; cases hy; exact .same _
  · cases hx; cases hy; exact .same _
  · cases hx; cases hy; exact .same _
  · cases hx; cases hy; exact .same _
  · cases hx; cases hy; exact .same _
  · cases hx; cases hy; exact .same _
  · cases hx; cases hy; exact .same _
  · cases hx; cases hy; exact hc
  · cases hx; cases hy; exact .same _
  · cases hx; cases hy; exact .same _
  · cases hx; cases hy; exact .same _
  · cases hx; cases hy; exact .same _
  · cases hx; cases hy; exact hd
  · simp at hx
theorem finP {b : Nat} {post : Pst → Pat → Prop} {H : HMap} {op o : Int} {n a v l lb rg : B} {f : Bool} {cd d : D} {mn mx : Int} (s : Pst) (cks : List Cond) (ks : List Pat) (hc : FrzTo (fun i => if i = 0 then none else H i) cd (enc cks)) (hd : FrzTo (fun i => if i = 0 then none else H i) d (enc ks))
    (h0 : H 0 = some (.box b (cePst s))) (hq : post s ⟨op, ⟨o, n, a, v, l, f, cks⟩, lb, rg, mn, mx, ks⟩) :
    FinPS enc b post (.agg [.v (.int .i64 op), .v (.int .i64 o), .v (.string n), .v (.string a), .v (.string v), .v (.string l), .v (.bool f), cd, .v (.string lb), .v (.string rg), .v (.int .i64 mn), .v (.int .i64 mx), d]) H :=
  finPS s _ (frz_pat cks ks hc hd) h0 hq
theorem eatF_cases {s : Pst} {t : B} {r : Pst × Bool} (h : eatF s t = some r) : (r = (s, false) ∧ isF s 111 t = some false) ∨ (r = (s.step, true) ∧ isF s 111 t = some true) := by
  unfold eatF at h
  obtain ⟨v, hv, rfl⟩ := Option.map_eq_some_iff.1 h
  cases v
  · exact .inl ⟨rfl, hv⟩
  · exact .inr ⟨rfl, hv⟩
theorem eat_no {s : Pst} {x : Tok} {t : B} (he : s.e = 0) (hx : nowT s = some x) (h : ¬ (x.kind = 111 ∧ x.text = t)) : eatF s t = some (s, false) := by
  rw [eatF, kind_eq he hx, decide_eq_false h]; rfl
theorem eat_yes {s : Pst} {x : Tok} {t : B} (he : s.e = 0) (hx : nowT s = some x) (h1 : x.kind = 111) (h2 : x.text = t) : eatF s t = some (s.step, true) := by
  rw [eatF, kind_eq he hx, decide_eq_true ⟨h1, h2⟩]; rfl
theorem w_item (n : Nat) (h1 : S f_r23_parser_now = s_now) (h2 : S f_r23_parser_eat = s_eat) (h3 : S f_r23_parser_want = s_want) (h4 : S f_r23_parser_fold = s_fold) (h5 : S f_r23_parser_alt = s_alt n) :
    WalkPS cc_r23_parser_item rs_r23_parser_item S a0 (enc (X := Pat)) (fun s z => ∃ r, F_item (altF n) s z = some r) (fun s z s' y => F_item (altF n) s z = some (s', y)) := by
  rintro b s ⟨⟩ ⟨⟨s', y⟩, hr⟩
  have hr0 := hr
  simp only [F_item, itemF] at hr
  obtain ⟨⟨s1, v⟩, he1, hr⟩ := Option.bind_eq_some_iff.1 hr
  rcases eatF_cases he1 with ⟨e, hi⟩ | ⟨e, hi⟩
  · cases e
    simp only [Bool.false_eq_true, if_false] at hr
    split at hr
    · cases hr
    rename_i he
    have he : s.e = 0 := by simpa using he
    obtain ⟨x, hx, hr⟩ := Option.bind_eq_some_iff.1 hr
    split at hr
    · cases hr
    rename_i hk
    have hk : x.kind = 115 := by simpa using hk
    obtain ⟨⟨s2, w⟩, hf, hr⟩ := Option.map_eq_some_iff.1 hr
    cases hr
    have n2 : eatF s ⟨#[60]⟩ = some (s, false) := eat_no he hx (by omega)
    have n3 : eatF s ⟨#[60, 47]⟩ = some (s, false) := eat_no he hx (by omega)
    have hw : wantF s 115 ⟨#[]⟩ = some (s.step, x.text) := by
      rw [wantF, if_neg (by simp [he]), hx, Option.bind_some, if_neg (by rw [hk]; simp)]
    simp [cc_r23_parser_item, rs_r23_parser_item, h1, h2, he1, n2, n3, he, eta0 he, hx, hk, h3, h4, hw, hf, -Bool.forall_bool, -Bool.exists_bool]
    exact fun b1 => finP s2 [] [] (.nil _) (.nil _) (by simp) hr0
  · cases e
    simp only [if_true] at hr
    obtain ⟨he, x, hx, _⟩ := isF_true hi
    split at hr
    · rename_i hdp
      obtain ⟨⟨s2, p⟩, ha, hr⟩ := Option.bind_eq_some_iff.1 hr
      simp only at ha hr
      split at hr
      · rename_i hdp2
        obtain ⟨⟨s3, w⟩, hw, hr⟩ := Option.map_eq_some_iff.1 hr
        cases hr
        have hd0 : InR .i64 (s.deep + 1) := by simp only [InR]; omega
        have hd1 : InR .i64 (s2.deep - 1) := by simp only [InR]; omega
        simp [Pst.step] at ha
        simp [cc_r23_parser_item, rs_r23_parser_item, h2, he1, h5, h3, Pst.step, hd0, hd1, ha, hw, -Bool.forall_bool, -Bool.exists_bool]
        exact fun b1 => finPS s3 y (by simp) (by simp) hr0
      · cases hr
    · cases hr
end Go.Gv

namespace Go.Gv
set_option linter.unusedSimpArgs false
set_option linter.unusedVariables false
set_option maxRecDepth 100000
open Cod (enc dec)
variable {S S0 : Nat → Spc}
theorem oneOr_n {op : Int} {l : List Pat} (h : l.length ≠ 1) : oneOr op l = ⟨op, Cond0, E0, E0, 0, 0, l⟩ := by
  match l, h with
  | [], _ => rfl
  | [x], h => exact absurd rfl h
  | x :: y :: l, _ => rfl
@[simp] abbrev F_altS (A : Pst → Option (Pst × Pat)) (s : Pst) (_ : Unit) : Option (Pst × Pat) := altS A s
theorem w_seq (A : Pst → Option (Pst × Pat)) (h1 : S f_r23_parser_begins = s_begins23) (h2 : S f_r23_parser_rep = s_rep A) :
    WalkPS cc_r23_parser_seq rs_r23_parser_seq S a0 (enc (X := Pat)) (fun s z => ∃ r, F_seq A s z = some r) (fun s z s' y => F_seq A s z = some (s', y)) := by
  rintro b s ⟨⟩ ⟨⟨s', y⟩, hr⟩
  have hr0 := hr
  simp only [F_seq, seqF] at hr
  obtain ⟨⟨s1, x1⟩, hi, hr⟩ := Option.bind_eq_some_iff.1 hr
  obtain ⟨⟨s2, l2⟩, hl, hr⟩ := Option.map_eq_some_iff.1 hr
  simp only at hl hr
  cases hr
  simp [cc_r23_parser_seq, rs_r23_parser_seq, h2, hi]
  intro b2 v0
  refine vc_while (X := Nat × Pst × Value × List Pat) [0, 2] [2] (fun z => seqLoop A z.1 z.2.1 z.2.2.2 = some (s', l2) ∧ z.2.2.2.length + z.1 ≤ 101) (fun z => [(3, .own 6 z.2.2.1)]) (fun z => [(0, .box b (cePst z.2.1)), (6, .row z.2.2.1 ty_Pattern 13 (z.2.2.2.map enc))]) (fun z => z.1) (100, s1, v0, [x1]) ⟨hl, by simp⟩ (by simp) (by simp) ?_
  clear hr hl hi
  rintro ⟨k, s, v, l⟩ ⟨hk, hlen⟩
  simp only at hk hlen
  obtain _ | k := k
  · rw [seqLoop] at hk; cases hk
  rw [seqLoop] at hk
  obtain ⟨v1, hb, hk⟩ := Option.bind_eq_some_iff.1 hk
  cases v1
  · simp only [Bool.false_eq_true, if_false] at hk
    cases hk
    simp [h1, hb, -Bool.forall_bool, -Bool.exists_bool]
    clear h1 h2
    refine fun _ => ⟨fun h1 => ⟨by omega, fun a ha => ?_⟩, fun hne => ?_⟩
    · have e : l2 = [a] := by
        match l2, h1, ha with
        | [x], _, ha => simp at ha; rw [ha]
      rw [e] at hr0
      exact finPS s' a (by simp) (by simp) hr0
    · rw [oneOr_n (by omega)] at hr0
      exact finP s' [] l2 (.nil _) (fz_o ty_Pattern (by simp)) (by simp) hr0
  · simp only [if_true] at hk
    obtain ⟨⟨s3, x3⟩, hx, hk⟩ := Option.bind_eq_some_iff.1 hk
    simp only at hk
    simp [h1, hb, h2, hx, -Bool.forall_bool, -Bool.exists_bool]
    exact ⟨by omega, by omega, fun v' => ⟨k, s3, v', l ++ [x3], ⟨hk, by simp; omega⟩, ⟨rfl, .inl ⟨rfl, rfl, rfl, rfl, rfl⟩, .inl ⟨rfl, by simp⟩⟩, by omega⟩⟩
theorem w_alt (A : Pst → Option (Pst × Pat)) (h1 : S f_r23_parser_eat = s_eat) (h2 : S f_r23_parser_seq = s_seq A) :
    WalkPS cc_r23_parser_alt rs_r23_parser_alt S a0 (enc (X := Pat)) (fun s z => ∃ r, F_altS A s z = some r) (fun s z s' y => F_altS A s z = some (s', y)) := by
  rintro b s ⟨⟩ ⟨⟨s', y⟩, hr⟩
  have hr0 := hr
  simp only [F_altS, altS] at hr
  obtain ⟨⟨s1, x1⟩, hi, hr⟩ := Option.bind_eq_some_iff.1 hr
  obtain ⟨⟨s2, l2⟩, hl, hr⟩ := Option.map_eq_some_iff.1 hr
  simp only at hl hr
  cases hr
  simp [cc_r23_parser_alt, rs_r23_parser_alt, h2, hi]
  intro b2 v0
  refine vc_while (X := Nat × Pst × Value × List Pat) [0, 2] [2] (fun z => altLoop A z.1 z.2.1 z.2.2.2 = some (s', l2) ∧ z.2.2.2.length + z.1 ≤ 101) (fun z => [(3, .own 6 z.2.2.1)]) (fun z => [(0, .box b (cePst z.2.1)), (6, .row z.2.2.1 ty_Pattern 13 (z.2.2.2.map enc))]) (fun z => z.1) (100, s1, v0, [x1]) ⟨hl, by simp⟩ (by simp) (by simp) ?_
  clear hr hl hi
  rintro ⟨k, s, v, l⟩ ⟨hk, hlen⟩
  simp only at hk hlen
  obtain _ | k := k
  · rw [altLoop] at hk; cases hk
  rw [altLoop] at hk
  obtain ⟨⟨s4, v1⟩, hb, hk⟩ := Option.bind_eq_some_iff.1 hk
  simp only at hk
  cases v1
  · simp only [Bool.false_eq_true, if_false] at hk
    cases hk
    simp [h1, hb, -Bool.forall_bool, -Bool.exists_bool]
    clear h1 h2
    refine fun _ => ⟨fun h1 => ⟨by omega, fun a ha => ?_⟩, fun hne => ?_⟩
    · have e : l2 = [a] := by
        match l2, h1, ha with
        | [x], _, ha => simp at ha; rw [ha]
      rw [e] at hr0
      exact finPS s' a (by simp) (by simp) hr0
    · rw [oneOr_n (by omega)] at hr0
      exact finP s' [] l2 (.nil _) (fz_o ty_Pattern (by simp)) (by simp) hr0
  · simp only [if_true] at hk
    obtain ⟨⟨s3, x3⟩, hx, hk⟩ := Option.bind_eq_some_iff.1 hk
    simp only at hk
    simp [h1, hb, h2, hx, -Bool.forall_bool, -Bool.exists_bool]
    exact ⟨by omega, by omega, fun v' => ⟨k, s3, v', l ++ [x3], ⟨hk, by simp; omega⟩, ⟨rfl, .inl ⟨rfl, rfl, rfl, rfl, rfl⟩, .inl ⟨rfl, by simp⟩⟩, by omega⟩⟩
end Go.Gv

namespace Go.Gv
set_option linter.unusedSimpArgs false
set_option linter.unusedVariables false
set_option maxRecDepth 100000
open Cod (enc dec)
variable {S S0 : Nat → Spc}
def dgB (c : Int) : Bool := decide (48 ≤ c ∧ c ≤ 57)
abbrev s_isDigit : Spc := spc (a1 U8) (fun _ => True) (enc (X := Bool)) fun x y => y = dgB x.val
theorem w_isLetter : Walk cc_r23_isLetter rs_r23_isLetter S (a1 U8) (fun _ => True) (enc (X := Bool)) fun x y => y = begB x.val := by
  rintro ⟨c⟩ -
  simp [cc_r23_isLetter, rs_r23_isLetter, begB]
  repeat' first | apply And.intro | intro _
  all_goals first | omega | (rw [Bool.eq_iff_iff]; simp; omega)
theorem w_isDigit : Walk cc_r23_isDigit rs_r23_isDigit S (a1 U8) (fun _ => True) (enc (X := Bool)) fun x y => y = dgB x.val := by
  rintro ⟨c⟩ -
  simp [cc_r23_isDigit, rs_r23_isDigit, dgB]
  repeat' first | apply And.intro | intro _
  all_goals first | omega | (rw [Bool.eq_iff_iff]; simp; omega)
abbrev s_signs : Spc := spc a0 (fun _ => True) (enc (X := List B)) fun _ y => y = signsL
theorem w_signs : Walk cc_r23_signs rs_r23_signs S a0 (fun _ => True) (enc (X := List B)) fun _ y => y = signsL := by
  rintro x -
  simp [cc_r23_signs, rs_r23_signs]
  exact fin_of signsL (.same _) rfl
theorem isSp_at {s : B} {i : Nat} {c : UInt8} (h : s.data[i]? = some c) : isSp s i = decide (c.toNat = 32 ∨ c.toNat = 10) := by rw [isSp, h]
theorem isDg_at {s : B} {i : Nat} {c : UInt8} (h : s.data[i]? = some c) : isDg s i = decide (48 ≤ c.toNat ∧ c.toNat ≤ 57) := by rw [isDg, h]
theorem byte_at {s : B} {i : Nat} (h : i < s.size) : ∃ c, s.data[i]? = some c := ⟨s.data[i], Array.getElem?_eq_getElem h⟩
theorem skipF_le (s : B) : ∀ (n i : Nat), s.size - i = n → i ≤ s.size → i ≤ skipF s i ∧ skipF s i ≤ s.size
  | 0, i, h, hi => by rw [skipF_end (by omega)]; omega
  | n + 1, i, h, hi => by
    rw [skipF_step (by omega)]
    split
    · have := skipF_le s n (i + 1) (by omega) (by omega); omega
    · omega
abbrev s_scan : Spc := spc (a1 B) (fun s => ∃ r, scanF s = some r) (enc (X := List Tok)) fun s y => scanF s = some y
theorem w_scan (h1 : S f_r23_isLetter = s_begins) (h2 : S f_r23_isDigit = s_isDigit) (h3 : S f_r23_signs = s_signs) : Walk cc_r23_scan rs_r23_scan S (a1 B) (fun s => ∃ r, scanF s = some r) (enc (X := List Tok)) fun s y => scanF s = some y := by
  rintro s ⟨fin, hfin⟩
  have hsz : s.size ≤ 100000 := by
    by_cases h : s.size ≤ 100000
    · exact h
    · rw [scanF, if_neg h] at hfin; cases hfin
  have hfin0 := hfin
  rw [scanF, if_pos hsz] at hfin
  simp [cc_r23_scan, rs_r23_scan]
  refine vc_while (X := Nat × Nat × Value × List Tok) [0] [] (fun z => scanN z.1 s z.2.1 z.2.2.2 = some fin ∧ z.2.1 ≤ s.size ∧ z.2.2.2.length ≤ z.2.1) (fun z => [(3, .own 200 z.2.2.1), (4, enc (z.2.1 : Int))]) (fun z => [(200, .row z.2.2.1 ty_corporaref23_token 3 (z.2.2.2.map enc))]) (fun z => z.1) (100000, 0, .slice none 0 0, []) ⟨hfin, by simp, by simp⟩ (by simp) (by simp [isNilRow]) ?_
  clear hfin
  rintro ⟨k, i, v, out⟩ ⟨hk, hi, hlen⟩
  simp only at hk hi hlen
  obtain _ | k := k
  · rw [scanN] at hk; cases hk
  rw [scanN] at hk
  simp
  refine vc_mid (X := Unit) [0, 3] [200] (fun _ => True) (fun _ => [(4, enc ((skipF s i : Nat) : Int))]) (fun _ => []) ?_ ?_
  · simp
    refine vc_while (X := Nat) [0, 3] [200] (fun j => i ≤ j ∧ j ≤ s.size ∧ skipF s j = skipF s i) (fun j => [(4, enc (j : Int))]) (fun _ => []) (fun j => s.size - j) i ⟨Nat.le_refl _, hi, rfl⟩ (by simp) (by simp) ?_
    rintro j ⟨j0, j1, j2⟩
    simp
    refine fun _ => ⟨fun hj => ⟨hj, fun c hc => ⟨fun h32 => ⟨hj, fun c' hc' => ?_⟩, fun h32 => ?_⟩⟩, fun hj => ?_⟩
    · rw [hc] at hc'
      cases hc'
      have hst := skipF_step hj
      rw [isSp_at hc] at hst
      refine ⟨fun h10 => ⟨by simp only [InR]; omega, j + 1, ⟨by omega, by omega, ?_⟩, by omega, by omega⟩, fun h10 => ?_⟩
      · rw [← j2, hst, if_pos (by simp; omega)]
      · rw [← j2, hst, if_neg (by simp; omega)]
    · have hst := skipF_step hj
      rw [isSp_at hc] at hst
      refine ⟨by simp only [InR]; omega, j + 1, ⟨by omega, by omega, ?_⟩, by omega, by omega⟩
      rw [← j2, hst, if_pos (by simp; omega)]
    · rw [← j2, skipF_end hj]
  rintro - -
  have hsk := skipF_le s _ i rfl hi
  generalize hi' : skipF s i = i' at hk hsk
  simp
  refine fun _ => ⟨fun he => ⟨by omega, by omega, fun v' => ?_⟩, fun hne => ?_⟩
  · rw [if_pos (by omega)] at hk
    refine fin_of fin (fz_o ty_corporaref23_token ?_) hfin0
    cases hk
    rw [show (i' : Int) = (s.size : Int) by omega]
    simp
  rw [if_neg (by omega)] at hk
  obtain ⟨⟨j, t⟩, ht, hk⟩ := Option.bind_eq_some_iff.1 hk
  simp only at hk
  split at hk
  · rename_i hj
    refine vc_mid (X := Value) [0] [] (fun _ => True) (fun v' => [(5, enc (j : Int)), (3, .own 200 v')]) (fun v' => [(200, .row v' ty_corporaref23_token 3 ((out ++ [t]).map enc))]) ?_ ?_
    · obtain ⟨c, hc⟩ := byte_at (s := s) (i := i') (by omega)
      unfold tokF at ht
      rw [hc] at ht
      simp only at ht
      split at ht
      · cases ht
      rename_i hL
      have hbeg : begB (c.toNat : Int) = false := by unfold begB; rw [decide_eq_false]; omega
      split at ht
      · rename_i hD
        cases ht
        have hdg : dgB (c.toNat : Int) = true := by unfold dgB; rw [decide_eq_true]; omega
        simp [h1, h2, hc, hbeg, hdg]
        refine ⟨by omega, ?_⟩
        refine vc_while (X := Nat) [0, 3, 4] [200] (fun j => i' ≤ j ∧ j ≤ s.size ∧ digF s j = digF s i') (fun j => [(5, enc (j : Int))]) (fun _ => []) (fun j => s.size - j) i' ⟨Nat.le_refl _, by omega, rfl⟩ (by simp) (by simp) ?_
        rintro j ⟨j0, j1, j2⟩
        simp [h2]
        refine fun _ => ⟨fun hj2 => ⟨hj2, fun d hd => ⟨fun hdt => ⟨by simp only [InR]; omega, j + 1, ⟨by omega, by omega, ?_⟩, by omega, by omega⟩, fun hdf => ⟨j0, j1, by omega, by omega, fun v' => ⟨v', ⟨?_, rfl⟩, .inl ⟨rfl, ?_⟩⟩⟩⟩⟩, fun hj2 => ⟨j0, j1, by omega, by omega, fun v' => ⟨v', ⟨?_, rfl⟩, .inl ⟨rfl, ?_⟩⟩⟩⟩
        · have hst := digF_step hj2
          rw [isDg_at hd, decide_eq_true (by unfold dgB at hdt; simp at hdt; omega), if_pos rfl] at hst
          rw [← j2, hst]
        · have hst := digF_step hj2
          rw [isDg_at hd, decide_eq_false (by unfold dgB at hdf; simp at hdf; omega), if_neg (by simp)] at hst
          rw [← j2, hst]
        · have hst := digF_step hj2
          rw [isDg_at hd, decide_eq_false (by unfold dgB at hdf; simp at hdf; omega), if_neg (by simp)] at hst
          rw [← j2, hst]
        · rw [← j2, digF_end hj2]
        · rw [← j2, digF_end hj2]
      · rename_i hD
        have hdg : dgB (c.toNat : Int) = false := by unfold dgB; rw [decide_eq_false]; omega
        split at ht
        · rename_i hQ
          obtain ⟨⟨q, w⟩, hq, ht⟩ := Option.map_eq_some_iff.1 ht
          cases ht
          have hQ' : (c.toNat : Int) = 34 := by omega
          rw [hQ'] at hbeg hdg
          simp [h1, h2, hc, hbeg, hdg, hQ']
          refine ⟨by omega, by simp only [InR]; omega, ?_⟩
          refine vc_while (X := Nat × B) [0, 3, 4] [200] (fun z => quoF s z.1 z.2 = some (q, w) ∧ z.1 ≤ s.size ∧ i' < z.1 ∧ z.2.size ≤ z.1) (fun z => [(5, enc (z.1 : Int)), (6, enc z.2), (7, enc false)]) (fun _ => []) (fun z => s.size - z.1) (i' + 1, ⟨#[]⟩) ⟨hq, by omega, by omega, Nat.zero_le _⟩ (by simp) (by simp) ?_
          rintro ⟨j, u⟩ ⟨j0, j1, j2, j3⟩
          simp only at j0 j1 j2 j3
          simp
          clear h1 h2 h3
          refine fun _ => ⟨fun hjs => ⟨hjs, fun d hd => ?_⟩, fun hjs => ?_⟩
          · rw [quoF_step hd] at j0
            refine ⟨fun h34 => ⟨by simp only [InR]; omega, fun _ => ⟨fun hj1 => ⟨by simp only [InR]; omega, by omega, hj1, fun d' hd' => ⟨fun h34' => ?_, fun h34' => ?_⟩⟩, fun hj1 => ?_⟩⟩, fun h34 => ?_⟩
            · rw [if_pos (by omega), hd'] at j0
              simp only at j0
              rw [if_pos (by omega)] at j0
              cases j0
            · rw [if_pos (by omega), hd'] at j0
              simp only at j0
              rw [if_neg (by omega)] at j0
              cases j0
              exact ⟨by simp only [InR]; omega, by omega, by omega, fun v' => ⟨v', ⟨rfl, rfl⟩, .inl ⟨rfl, rfl⟩⟩⟩
            · have hnone : s.data[j + 1]? = none := Array.getElem?_eq_none (by show s.size ≤ j + 1; omega)
              rw [if_pos (by omega), hnone] at j0
              cases j0
              exact ⟨by simp only [InR]; omega, by omega, by omega, fun v' => ⟨v', ⟨rfl, rfl⟩, .inl ⟨rfl, rfl⟩⟩⟩
            · rw [if_neg (by omega)] at j0
              refine ⟨by simp only [InR]; omega, by omega, by omega, by omega, by simp only [InR]; omega, j + 1, _, ⟨j0, by omega, by omega, ?_⟩, ⟨by omega, rfl⟩, by omega⟩
              rw [ByteArray.size_append, ByteArray.size_extract]
              omega
          · rw [quoF_end hjs] at j0
            cases j0
        · rename_i hQ
          have hQ' : ¬ (c.toNat : Int) = 34 := by omega
          split at ht
          · cases ht
          · rename_i x hx
            cases ht
            simp [h1, h2, h3, hc, hbeg, hdg, hQ']
            refine ⟨by omega, fun _ => ?_⟩
            refine vc_range (X := Unit) [0, 3, 4, 5, 38] [200] signsL.length (fun k _ => (signsL.drop k).find? (preB s i') = some x) (fun _ => []) (fun _ => []) () (by simp) (by simp) (by decide) (by simp) (by simp) (by simpa using hx) (by simp) (by simp) ?_ ?_
            · rintro m - hm hP
              obtain ⟨y, hy⟩ := at_lt hm
              obtain ⟨_, hgy⟩ := List.getElem?_eq_some_iff.1 hy
              rw [drop_cons_of hy, List.find?_cons] at hP
              have hpre : preB s i' y = decide (i' + y.size ≤ s.size ∧ s.extract i' (i' + y.size) = y) := rfl
              have e1 : ((i' : Int) + (y.size : Int)).toNat = i' + y.size := by omega
              simp [hm, hy, hgy, e1]
              clear h1 h2 h3
              refine fun _ => ⟨by simp only [InR]; omega, fun _ => ⟨fun hle _ => ⟨by simp only [InR]; omega, by omega, by omega, fun hex _ => ⟨by simp only [InR]; omega, fun hz => ?_, fun _ => ?_⟩, fun hex => ?_⟩, fun hlt => ?_⟩⟩
              · rw [hpre, decide_eq_true ⟨by omega, hex⟩] at hP
                cases hP
                omega
              · rw [hpre, decide_eq_true ⟨by omega, hex⟩] at hP
                cases hP
                exact ⟨by omega, by omega, by omega, by omega, fun v' => ⟨v', ⟨rfl, rfl⟩, .inl ⟨rfl, rfl⟩⟩⟩
              · rw [hpre, decide_eq_false (fun h => hex h.2)] at hP
                exact hP
              · rw [hpre, decide_eq_false (fun h => by have := h.1; omega)] at hP
                exact hP
            · rintro - hP
              rw [List.drop_length] at hP
              cases hP
    · rintro v' -
      simp
      exact ⟨k, j, v', out ++ [t], ⟨hk, hj.1, by simp; omega⟩, ⟨⟨rfl, rfl⟩, .inl ⟨rfl, by simp⟩⟩, by omega⟩
  · cases hk
end Go.Gv
