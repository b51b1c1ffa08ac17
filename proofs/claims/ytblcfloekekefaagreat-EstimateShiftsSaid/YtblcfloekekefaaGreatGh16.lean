/- A part of the framework and of the walks: C3 V3 V4 W31 W33 W34. -/
import Derived.Test.YtblcfloekekefaaGreatGh12
import Derived.Test.YtblcfloekekefaaGreatGh15
import Derived.Test.YtblcfloekekefaaGreatGh14
import Derived.Test.YtblcfloekekefaaGreatGh10

namespace Go.Gv
open Go.Proofs
/-- corpora/estimate.compare [Source, Source] -> [int] -/
def cc_estimate_compare : CC :=
  .seq (.reg [
    .op (some 2) none (.box ty_Source true (.tmp 0)),
    .op (some 3) none (.box ty_Source true (.tmp 1)),
    .op (some 4) none (.mv (.const (.int .i64 0)))])
  (.keep [2, 3] [] (.seq (.regd [
    .op (some 5) none (.faddr 0 (.tmp 2)),
    .op (some 6) none (.load false 1 (.tmp 5)),
    .op (some 7) none (.faddr 0 (.tmp 3)),
    .op (some 8) none (.load false 1 (.tmp 7)),
    .op (some 9) none (.call f_cmp_Compare_int [(.tmp 6), (.tmp 8)]),
    .op (some 10) none (.faddr 1 (.tmp 2)),
    .op (some 11) none (.load false 1 (.tmp 10)),
    .op (some 12) none (.faddr 1 (.tmp 3)),
    .op (some 13) none (.load false 1 (.tmp 12))] [
    .op (some 14) none (.call f_cmp_Compare_int [(.tmp 11), (.tmp 13)]),
    .op (some 15) none (.bslice ty_int 1 [(.tmp 9), (.tmp 14)]),
    .op (some 16) none (.call f_cmp_Or_int [(.tmp 15)]),
    .op (some 4) none (.mv (.tmp 16))])
  (.keep [4] [] (.ret))))
def rs_estimate_compare : List CRes := [.tmp 4]
def im_estimate_compare : List Nat := [2, 3]
theorem ok_estimate_compare : FnOk Tryz.prog f_estimate_compare im_estimate_compare cc_estimate_compare rs_estimate_compare 17 := fnOk1 mixed (by kernel_rfl)
-- estimate_shift range i=10 n=9 c=11 i2=20 id=0: live [1:n, 5:out, 8:] changed [5] res [19]
/-- corpora/estimate.shift [L_int, int] -> [L_int] -/
def cc_estimate_shift : CC :=
  .seq (.reg [
    .op (some 4) none (.mv (.const (.slice none 0 0)))])
  (.keep [0, 1] [] (.seq (.reg [
    .op (some 5) none (.mv (.const (.slice none 0 0)))])
  (.keep [0, 1, 5] [19] (.seq /- 2 -/ (.seq (.reg [
    .op (some 8) none (.mv (.tmp 0)),
    .op (some 9) none (.len (.tmp 8)),
    .op (some 10) none (.mv (.const (.int .i64 0)))])
  (.keep [1, 5, 8, 9, 10] [19] (rangeCC 0 10 9 11 1 (.seq (.reg [
      .op (some 12) none (.iaddr 1 (.tmp 8) (.tmp 10)),
      .op (some 13) none (.load false 1 (.tmp 12)),
      .op (some 7) none (.mv (.tmp 13))])
    (.keep [1, 5, 7, 8, 9, 10] [19] (.reg [
      .op (some 14) none (.mv (.tmp 5)),
      .op (some 15) none (.mv (.tmp 7)),
      .op (some 16) none (.mv (.tmp 1)),
      .op (some 17) none (.arith .add (.tmp 15) (.tmp 16)),
      .op (some 18) none (.bslice ty_int 1 [(.tmp 17)]),
      .op (some 19) none (.append none ty_int 1 8 (.tmp 14) (.tmp 18)),
      .op (some 5) none (.mv (.tmp 19))]))) 20)))
  (.keep [5] [19] (.seq (.reg [
    .op (some 21) none (.mv (.tmp 5)),
    .op (some 4) none (.mv (.tmp 21))])
  (.keep [4] [19] (.ret))))))))
def rs_estimate_shift : List CRes := [.tmp 4]
def im_estimate_shift : List Nat := []
theorem ok_estimate_shift : FnOk Tryz.prog f_estimate_shift im_estimate_shift cc_estimate_shift rs_estimate_shift 22 := fnOk1 mixed (by kernel_rfl)
-- estimate_times range i=26 n=25 c=27 i2=36 id=0: live [1:at, 5:lo, 7:out] changed [7] res [35]
/-- corpora/estimate.times [Pattern, L_int] -> [L_int] -/
def cc_estimate_times : CC :=
  .seq (.reg [
    .op (some 2) none (.box ty_Pattern true (.tmp 0)),
    .op (some 4) none (.mv (.const (.slice none 0 0)))])
  (.keep [1, 2] [] (.seq /- 1 -/ (.seq (.reg [
    .op (some 9) none (.faddr 10 (.tmp 2)),
    .op (some 10) none (.load false 1 (.tmp 9)),
    .op (some 11) none (.eql false false [.int] (.tmp 10) (.const (.int .i64 0)))])
  (.keep [1, 2, 11] [] (.ite (.tmp 11) (.seq (.reg [
      .op (some 4) none (.mv (.const (.slice none 0 0)))])
    (.keep [4] [35] (.ret)))
    (.skip))))
  (.keep [1, 2] [] (.seq (.reg [
    .op (some 13) none (.faddr 12 (.tmp 2)),
    .op (some 14) none (.load false 1 (.tmp 13)),
    .op (some 15) none (.iaddr 13 (.tmp 14) (.const (.int .i64 0))),
    .op (some 16) none (.load true 13 (.tmp 15)),
    .op (some 17) none (.call f_query_Width [(.tmp 16)]),
    .op (some 12) none (.mv (.tmp 17)),
    .op (some 18) none (.ext (.tmp 12) 0),
    .op (some 19) none (.ext (.tmp 12) 1),
    .op (some 5) none (.mv (.tmp 18)),
    .op (some 6) none (.mv (.tmp 19))])
  (.keep [1, 2, 5, 6] [] (.seq /- 5 -/ (.seq (.reg [
    .op (some 20) none (.mv (.tmp 5)),
    .op (some 21) none (.mv (.tmp 6)),
    .op (some 22) none (.eql true false [.int] (.tmp 20) (.tmp 21))])
  (.keep [1, 2, 5, 22] [] (.ite (.tmp 22) (.seq (.reg [
      .op (some 23) none (.mv (.tmp 1)),
      .op (some 4) none (.mv (.tmp 23))])
    (.keep [4] [35] (.ret)))
    (.skip))))
  (.keep [1, 2, 5] [] (.seq (.reg [
    .op (some 7) none (.mv (.const (.slice none 0 0)))])
  (.keep [1, 2, 5, 7] [35] (.seq /- 9 -/ (.seq (.reg [
    .op (some 24) none (.faddr 10 (.tmp 2)),
    .op (some 25) none (.load false 1 (.tmp 24)),
    .op (some 26) none (.mv (.const (.int .i64 0)))])
  (.keep [1, 5, 7, 25, 26] [35] (rangeCC 0 26 25 27 1 (.seq (.reg [
      .op (some 28) none (.mv (.tmp 26)),
      .op (some 8) none (.mv (.tmp 28))])
    (.keep [1, 5, 7, 8, 25, 26] [35] (.reg [
      .op (some 29) none (.mv (.tmp 7)),
      .op (some 30) none (.mv (.tmp 1)),
      .op (some 31) none (.mv (.tmp 8)),
      .op (some 32) none (.mv (.tmp 5)),
      .op (some 33) none (.arith .mul (.tmp 31) (.tmp 32)),
      .op (some 34) none (.call f_estimate_shift [(.tmp 30), (.tmp 33)]),
      .op (some 35) none (.append none ty_int 1 8 (.tmp 29) (.tmp 34)),
      .op (some 7) none (.mv (.tmp 35))]))) 36)))
  (.keep [7] [35] (.seq (.reg [
    .op (some 37) none (.mv (.tmp 7)),
    .op (some 38) none (.call f_slices_Sort_int [(.tmp 37)])])
  (.keep [7] [35] (.seq (.reg [
    .op (some 39) none (.mv (.tmp 7)),
    .op (some 40) none (.call f_slices_Compact_int [(.tmp 39)]),
    .op (some 4) none (.mv (.tmp 40))])
  (.keep [4] [35] (.ret))))))))))))))))
def rs_estimate_times : List CRes := [.tmp 4]
def im_estimate_times : List Nat := [2]
theorem ok_estimate_times : FnOk Tryz.prog f_estimate_times im_estimate_times cc_estimate_times rs_estimate_times 41 := fnOk1 mixed (by kernel_rfl)
-- estimate_finder_visit range i=31 n=30 c=32 i2=50 id=3: live [0:f, 29:] changed [] res [0, 47]
-- estimate_finder_visit range i=63 n=62 c=64 i2=82 id=5: live [0:f, 2:at, 61:] changed [2] res [0, 47]
-- estimate_finder_visit range i=19 n=18 c=20 i2=26 id=1: live [0:f, 17:] changed [] res [0, 47]
/-- (*corpora/estimate.finder).visit [P_estimate_finder, Pattern, L_int] -> [] -/
def cc_estimate_finder_visit : CC :=
  .seq (.reg [
    .op (some 4) none (.box ty_Pattern true (.tmp 1))])
  (.keep [0, 2, 4] [0, 47] (.seq (.reg [
    .op (some 14) none (.faddr 0 (.tmp 4)),
    .op (some 15) none (.load false 1 (.tmp 14))])
  (.keep [0, 2, 4, 15] [0, 47] (.block 0 (.seq (.reg [
      .op (some 28) none (.eql false false [.int] (.tmp 15) (.const (.int .i64 1))),
      .op (some 27) none (.mv (.tmp 28))])
    (.keep [0, 2, 4, 15, 27] [0, 47] (.ite (.tmp 27) (.seq /- 3 -/ (.seq (.reg [
        .op (some 29) none (.mv (.tmp 2)),
        .op (some 30) none (.len (.tmp 29)),
        .op (some 31) none (.mv (.const (.int .i64 0)))])
      (.keep [0, 29, 30, 31] [0, 47] (rangeCC 3 31 30 32 4 (.seq (.reg [
          .op (some 33) none (.iaddr 1 (.tmp 29) (.tmp 31)),
          .op (some 34) none (.load false 1 (.tmp 33)),
          .op (some 7) none (.mv (.tmp 34))])
        (.keep [0, 7, 29, 30, 31] [0, 47] (.regd [
          .op (some 35) none (.mv (.tmp 0)),
          .op (some 36) none (.mv (.tmp 0)),
          .op (some 37) none (.nilck (.tmp 36)),
          .op (some 38) none (.faddr 1 (.tmp 37)),
          .op (some 39) none (.load false 1 (.tmp 38)),
          .op (some 40) none (.mv (.tmp 0)),
          .op (some 41) none (.nilck (.tmp 40)),
          .op (some 42) none (.faddr 0 (.tmp 41)),
          .op (some 43) none (.load false 1 (.tmp 42)),
          .op (some 44) none (.mv (.tmp 7)),
          .op (some 45) none (.build [(.int .i64 0), (.int .i64 0)] [(0, 1, (.tmp 43)), (1, 1, (.tmp 44))]),
          .op (some 46) none (.bslice ty_Source 2 [(.tmp 45)]),
          .op (some 47) none (.append (some 47) ty_Source 2 16 (.tmp 39) (.tmp 46))] [
          .op (some 48) none (.nilck (.tmp 35)),
          .op (some 49) none (.faddr 1 (.tmp 48)),
          .op none none (.store (some 0) 1 (.tmp 49) (.tmp 47))]))) 50)))
      (.keep [0] [0, 47] (.reg [
        .op (some 51) none (.mv (.tmp 0)),
        .op (some 52) none (.nilck (.tmp 51)),
        .op (some 53) none (.faddr 0 (.tmp 52)),
        .op (some 54) none (.load false 1 (.tmp 53)),
        .op (some 55) none (.arith .add (.tmp 54) (.const (.int .i64 1))),
        .op (some 56) none (.nilck (.tmp 51)),
        .op (some 57) none (.faddr 0 (.tmp 56)),
        .op none none (.store none 1 (.tmp 57) (.tmp 55))])))
      (.seq (.reg [
        .op (some 59) none (.eql false false [.int] (.tmp 15) (.const (.int .i64 4))),
        .op (some 58) none (.mv (.tmp 59))])
      (.keep [0, 2, 4, 15, 58] [0, 47] (.ite (.tmp 58) (.seq (.reg [
          .op (some 60) none (.faddr 12 (.tmp 4)),
          .op (some 61) none (.load false 1 (.tmp 60)),
          .op (some 62) none (.len (.tmp 61)),
          .op (some 63) none (.mv (.const (.int .i64 0)))])
        (.keep [0, 2, 61, 62, 63] [0, 47] (rangeCC 5 63 62 64 6 (.seq (.reg [
            .op (some 65) none (.iaddr 13 (.tmp 61) (.tmp 63)),
            .op (some 66) none (.load true 13 (.tmp 65)),
            .op (some 9) none (.alloc ty_Pattern [(.int .i64 0), (.int .i64 0), (.string ⟨#[]⟩), (.string ⟨#[]⟩), (.string ⟨#[]⟩), (.string ⟨#[]⟩), (.bool false), (.slice none 0 0), (.string ⟨#[]⟩), (.string ⟨#[]⟩), (.int .i64 0), (.int .i64 0), (.slice none 0 0)]),
            .op none none (.store none 13 (.tmp 9) (.tmp 66))])
          (.keep [0, 2, 9, 61, 62, 63] [0, 9, 47] (.seq (.reg [
            .op (some 67) none (.mv (.tmp 0)),
            .op (some 68) none (.load true 13 (.tmp 9)),
            .op (some 69) none (.mv (.tmp 2)),
            .op (some 70) none (.call f_estimate_finder_visit [(.tmp 67), (.tmp 68), (.tmp 69)])])
          (.keep [0, 2, 9, 61, 62, 63] [0, 9, 47] (.seq (.reg [
            .op (some 72) none (.load true 13 (.tmp 9)),
            .op (some 73) none (.call f_query_Width [(.tmp 72)]),
            .op (some 71) none (.mv (.tmp 73)),
            .op (some 74) none (.ext (.tmp 71) 0),
            .op (some 75) none (.ext (.tmp 71) 1),
            .op (some 10) none (.mv (.tmp 74)),
            .op (some 11) none (.mv (.tmp 75))])
          (.keep [0, 2, 10, 11, 61, 62, 63] [0, 47] (.seq /- 11 -/ (.seq (.reg [
            .op (some 76) none (.mv (.tmp 10)),
            .op (some 77) none (.mv (.tmp 11)),
            .op (some 78) none (.eql true false [.int] (.tmp 76) (.tmp 77))])
          (.keep [0, 2, 10, 61, 62, 63, 78] [0, 47] (.ite (.tmp 78) (.reg [
              .op (some 2) none (.mv (.const (.slice none 0 0)))])
            (.skip))))
          (.keep [0, 2, 10, 61, 62, 63] [0, 47] (.reg [
            .op (some 79) none (.mv (.tmp 2)),
            .op (some 80) none (.mv (.tmp 10)),
            .op (some 81) none (.call f_estimate_shift [(.tmp 79), (.tmp 80)]),
            .op (some 2) none (.mv (.tmp 81))]))))))))) 82)))
        (.seq (.reg [
          .op (some 84) none (.eql false false [.int] (.tmp 15) (.const (.int .i64 6))),
          .op (some 83) none (.mv (.tmp 84))])
        (.keep [0, 2, 4, 83] [0, 47] (.ite (.tmp 83) (.regd [
            .op (some 85) none (.mv (.tmp 0)),
            .op (some 86) none (.faddr 12 (.tmp 4)),
            .op (some 87) none (.load false 1 (.tmp 86)),
            .op (some 88) none (.iaddr 13 (.tmp 87) (.const (.int .i64 0))),
            .op (some 89) none (.load true 13 (.tmp 88)),
            .op (some 90) none (.load true 13 (.tmp 4)),
            .op (some 91) none (.mv (.tmp 2)),
            .op (some 92) none (.call f_estimate_times [(.tmp 90), (.tmp 91)])] [
            .op (some 93) none (.call f_estimate_finder_visit [(.tmp 85), (.tmp 89), (.tmp 92)])])
          (.seq (.reg [
            .op (some 16) none (.faddr 12 (.tmp 4)),
            .op (some 17) none (.load false 1 (.tmp 16)),
            .op (some 18) none (.len (.tmp 17)),
            .op (some 19) none (.mv (.const (.int .i64 0)))])
          (.keep [0, 17, 18, 19] [0, 47] (rangeCC 1 19 18 20 2 (.seq (.reg [
              .op (some 21) none (.iaddr 13 (.tmp 17) (.tmp 19)),
              .op (some 22) none (.load true 13 (.tmp 21)),
              .op (some 13) none (.alloc ty_Pattern [(.int .i64 0), (.int .i64 0), (.string ⟨#[]⟩), (.string ⟨#[]⟩), (.string ⟨#[]⟩), (.string ⟨#[]⟩), (.bool false), (.slice none 0 0), (.string ⟨#[]⟩), (.string ⟨#[]⟩), (.int .i64 0), (.int .i64 0), (.slice none 0 0)]),
              .op none none (.store none 13 (.tmp 13) (.tmp 22))])
            (.keep [0, 13, 17, 18, 19] [0, 13, 47] (.reg [
              .op (some 23) none (.mv (.tmp 0)),
              .op (some 24) none (.load true 13 (.tmp 13)),
              .op (some 25) none (.call f_estimate_finder_visit [(.tmp 23), (.tmp 24), (.const (.slice none 0 0))])]))) 26))))))))))))))))
def rs_estimate_finder_visit : List CRes := []
def im_estimate_finder_visit : List Nat := [4, 1047047, 2049000, 1047047]
theorem ok_estimate_finder_visit : FnOk Tryz.prog f_estimate_finder_visit im_estimate_finder_visit cc_estimate_finder_visit rs_estimate_finder_visit 94 := fnOk1 mixed (by kernel_rfl)
/-- corpora/estimate.Fixed [Pattern] -> [L_Source] -/
def cc_estimate_Fixed : CC :=
  .seq (.reg [
    .op (some 1) none (.box ty_Pattern true (.tmp 0)),
    .op (some 2) none (.mv (.const (.slice none 0 0)))])
  (.keep [1] [] (.seq (.seq (.reg [
    .op (some 5) none (.load true 13 (.tmp 1)),
    .op (some 6) none (.call f_query_Size [(.tmp 5)]),
    .op (some 3) none (.mv (.tmp 6))])
  (.keep [1, 3] [] (.seq (.reg [
    .op (some 7) none (.mv (.tmp 3)),
    .op (some 8) none (.cmp .lss (.tmp 7) (.const (.int .i64 1))),
    .op (some 9) none (.mv (.tmp 8)),
    .op (some 10) (some (9, false)) (.mv (.tmp 3)),
    .op (some 11) (some (9, false)) (.cmp .gtr (.tmp 10) (.const (.int .i64 256))),
    .op (some 12) none (.pick (.tmp 9) (.const (.bool true)) (.tmp 11))])
  (.keep [1, 12] [] (.ite (.tmp 12) (.seq (.reg [
      .op (some 2) none (.mv (.const (.slice none 0 0)))])
    (.keep [2] [] (.ret)))
    (.skip))))))
  (.keep [1] [] (seqM 5 (.reg [
    .op (some 13) none (.build [(.int .i64 0), (.slice none 0 0)] []),
    .op (some 14) none (.box ty_estimate_finder false (.tmp 13)),
    .op (some 4) none (.mv (.tmp 14))])
  (.keep [1, 4] [14, 47] (.seq (.reg [
    .op (some 15) none (.mv (.tmp 4)),
    .op (some 16) none (.load true 13 (.tmp 1)),
    .op (some 17) none (.bslice ty_int 1 [(.const (.int .i64 0))]),
    .op (some 18) none (.call f_estimate_finder_visit [(.tmp 15), (.tmp 16), (.tmp 17)])])
  (.keep [4] [14, 47] (.seq (.reg [
    .op (some 19) none (.mv (.tmp 4)),
    .op (some 20) none (.nilck (.tmp 19)),
    .op (some 21) none (.faddr 1 (.tmp 20)),
    .op (some 22) none (.load false 1 (.tmp 21)),
    .op (some 23) none (.call f_slices_SortFunc_Source [(.tmp 22), (.func f_estimate_compare)])])
  (.keep [4] [14, 47] (.seq (.reg [
    .op (some 24) none (.mv (.tmp 4)),
    .op (some 25) none (.nilck (.tmp 24)),
    .op (some 26) none (.faddr 1 (.tmp 25)),
    .op (some 27) none (.load false 1 (.tmp 26)),
    .op (some 28) none (.call f_slices_Compact_Source [(.tmp 27)]),
    .op (some 2) none (.mv (.tmp 28))])
  (.keep [2] [47] (.ret))))))))))))
def rs_estimate_Fixed : List CRes := [.tmp 2]
def im_estimate_Fixed : List Nat := [1]
theorem ok_estimate_Fixed : FnOk Tryz.prog f_estimate_Fixed im_estimate_Fixed cc_estimate_Fixed rs_estimate_Fixed 29 := fnOk1 mixed (by kernel_rfl)
-- slices_Compact_int while id=0: live [0:s, 3:k] changed [3] res [0]
-- slices_Compact_int while id=0: live [0:s, 3:k, 4:s2, 5:k2] changed [3, 5] res [0]
/-- slices.Compact[[]int,int] [L_int] -> [L_int] -/
def cc_slices_Compact_int : CC :=
  .seq (.reg [
    .op (some 2) none (.mv (.const (.slice none 0 0)))])
  (.keep [0] [0] (.seq /- 1 -/ (.seq (.reg [
    .op (some 6) none (.mv (.tmp 0)),
    .op (some 7) none (.len (.tmp 6)),
    .op (some 8) none (.cmp .lss (.tmp 7) (.const (.int .i64 2)))])
  (.keep [0, 8] [0] (.ite (.tmp 8) (.seq (.reg [
      .op (some 9) none (.mv (.tmp 0)),
      .op (some 2) none (.mv (.tmp 9))])
    (.keep [2] [0] (.ret)))
    (.skip))))
  (.keep [0] [0] (.seq /- 4 -/ (.seq (.reg [
    .op (some 3) none (.mv (.const (.int .i64 1)))])
  (.keep [0, 3] [0] (.block 0 (.loop 1 (.seq /- 6 -/ (.seq (.reg [
        .op (some 10) none (.mv (.tmp 3)),
        .op (some 11) none (.mv (.tmp 0)),
        .op (some 12) none (.len (.tmp 11)),
        .op (some 13) none (.cmp .lss (.tmp 10) (.tmp 12))])
      (.keep [0, 3, 13] [0] (.ite (.tmp 13) (.skip)
        (.exit 0))))
      (.keep [0, 3] [0] (.seq /- 8 -/ (.block 1 (.seq (.regd [
          .op (some 16) none (.mv (.tmp 0)),
          .op (some 17) none (.mv (.tmp 3)),
          .op (some 18) none (.iaddr 1 (.tmp 16) (.tmp 17)),
          .op (some 19) none (.load false 1 (.tmp 18)),
          .op (some 20) none (.mv (.tmp 0)),
          .op (some 21) none (.mv (.tmp 3)),
          .op (some 22) none (.arith .sub (.tmp 21) (.const (.int .i64 1))),
          .op (some 23) none (.iaddr 1 (.tmp 20) (.tmp 22)),
          .op (some 24) none (.load false 1 (.tmp 23))] [
          .op (some 25) none (.eql false false [.int] (.tmp 19) (.tmp 24))])
        (.keep [0, 3, 25] [0] (.ite (.tmp 25) (.seq (.reg [
            .op (some 26) none (.mv (.tmp 0)),
            .op (some 27) none (.mv (.tmp 3)),
            .op (some 28) none (.slice 1 (.tmp 26) (some (.tmp 27)) none),
            .op (some 4) none (.mv (.tmp 28))])
          (.keep [0, 3, 4] [0] (seqM 11 (.seq (.reg [
            .op (some 5) none (.mv (.const (.int .i64 1)))])
          (.keep [0, 3, 4, 5] [0] (.block 2 (.loop 2 (.seq /- 13 -/ (.seq (.reg [
                .op (some 29) none (.mv (.tmp 5)),
                .op (some 30) none (.mv (.tmp 4)),
                .op (some 31) none (.len (.tmp 30)),
                .op (some 32) none (.cmp .lss (.tmp 29) (.tmp 31))])
              (.keep [0, 3, 4, 5, 32] [0] (.ite (.tmp 32) (.skip)
                (.exit 2))))
              (.keep [0, 3, 4, 5] [0] (.seq /- 15 -/ (.block 3 (.seq (.regd [
                  .op (some 35) none (.mv (.tmp 4)),
                  .op (some 36) none (.mv (.tmp 5)),
                  .op (some 37) none (.iaddr 1 (.tmp 35) (.tmp 36)),
                  .op (some 38) none (.load false 1 (.tmp 37)),
                  .op (some 39) none (.mv (.tmp 4)),
                  .op (some 40) none (.mv (.tmp 5)),
                  .op (some 41) none (.arith .sub (.tmp 40) (.const (.int .i64 1))),
                  .op (some 42) none (.iaddr 1 (.tmp 39) (.tmp 41)),
                  .op (some 43) none (.load false 1 (.tmp 42))] [
                  .op (some 44) none (.eql true false [.int] (.tmp 38) (.tmp 43))])
                (.keep [0, 3, 4, 5, 44] [0] (.ite (.tmp 44) (.seq (.reg [
                    .op (some 45) none (.mv (.tmp 0)),
                    .op (some 46) none (.mv (.tmp 3)),
                    .op (some 47) none (.mv (.tmp 4)),
                    .op (some 48) none (.mv (.tmp 5)),
                    .op (some 49) none (.iaddr 1 (.tmp 47) (.tmp 48)),
                    .op (some 50) none (.load false 1 (.tmp 49)),
                    .op (some 51) none (.iaddr 1 (.tmp 45) (.tmp 46)),
                    .op none none (.store none 1 (.tmp 51) (.tmp 50))])
                  (.keep [0, 3, 4, 5] [0] (.reg [
                    .op (some 52) none (.mv (.tmp 3)),
                    .op (some 53) none (.arith .add (.tmp 52) (.const (.int .i64 1))),
                    .op (some 3) none (.mv (.tmp 53))])))
                  (.skip)))))
              (.keep [0, 3, 4, 5] [0] (.reg [
                .op (some 33) none (.mv (.tmp 5)),
                .op (some 34) none (.arith .add (.tmp 33) (.const (.int .i64 1))),
                .op (some 5) none (.mv (.tmp 34))])))))))))
          (.keep [0, 3] [0] (.seq (.reg [
            .op (some 54) none (.mv (.tmp 0)),
            .op (some 55) none (.mv (.tmp 3)),
            .op (some 56) none (.slice 1 (.tmp 54) (some (.tmp 55)) none),
            .op none none (.clear 1 false [(.int .i64 0)] (.tmp 56))])
          (.keep [0, 3] [0] (.seq (.reg [
            .op (some 57) none (.mv (.tmp 0)),
            .op (some 58) none (.mv (.tmp 3)),
            .op (some 59) none (.slice 1 (.tmp 57) none (some (.tmp 58))),
            .frz 59 0,
            .op (some 2) none (.mv (.tmp 59))])
          (.keep [2] [0] (.ret)))))))))
          (.skip)))))
      (.keep [0, 3] [0] (.reg [
        .op (some 14) none (.mv (.tmp 3)),
        .op (some 15) none (.arith .add (.tmp 14) (.const (.int .i64 1))),
        .op (some 3) none (.mv (.tmp 15))])))))))))
  (.keep [0] [0] (.seq (.reg [
    .op (some 60) none (.mv (.tmp 0)),
    .op (some 2) none (.mv (.tmp 60))])
  (.keep [2] [0] (.ret))))))))
def rs_slices_Compact_int : List CRes := [.tmp 2]
def im_slices_Compact_int : List Nat := []
theorem ok_slices_Compact_int : FnOk Tryz.prog f_slices_Compact_int im_slices_Compact_int cc_slices_Compact_int rs_slices_Compact_int 61 := fnOk1 mixed (by kernel_rfl)
-- slices_Compact_Source while id=0: live [0:s, 3:k] changed [3] res [0]
-- slices_Compact_Source while id=0: live [0:s, 3:k, 4:s2, 5:k2] changed [3, 5] res [0]
/-- slices.Compact[[]corpora/api.Source,corpora/api.Source] [L_Source] -> [L_Source] -/
def cc_slices_Compact_Source : CC :=
  .seq (.reg [
    .op (some 2) none (.mv (.const (.slice none 0 0)))])
  (.keep [0] [0] (.seq /- 1 -/ (.seq (.reg [
    .op (some 6) none (.mv (.tmp 0)),
    .op (some 7) none (.len (.tmp 6)),
    .op (some 8) none (.cmp .lss (.tmp 7) (.const (.int .i64 2)))])
  (.keep [0, 8] [0] (.ite (.tmp 8) (.seq (.reg [
      .op (some 9) none (.mv (.tmp 0)),
      .op (some 2) none (.mv (.tmp 9))])
    (.keep [2] [0] (.ret)))
    (.skip))))
  (.keep [0] [0] (.seq /- 4 -/ (.seq (.reg [
    .op (some 3) none (.mv (.const (.int .i64 1)))])
  (.keep [0, 3] [0] (.block 0 (.loop 1 (.seq /- 6 -/ (.seq (.reg [
        .op (some 10) none (.mv (.tmp 3)),
        .op (some 11) none (.mv (.tmp 0)),
        .op (some 12) none (.len (.tmp 11)),
        .op (some 13) none (.cmp .lss (.tmp 10) (.tmp 12))])
      (.keep [0, 3, 13] [0] (.ite (.tmp 13) (.skip)
        (.exit 0))))
      (.keep [0, 3] [0] (.seq /- 8 -/ (.block 1 (.seq (.regd [
          .op (some 16) none (.mv (.tmp 0)),
          .op (some 17) none (.mv (.tmp 3)),
          .op (some 18) none (.iaddr 2 (.tmp 16) (.tmp 17)),
          .op (some 19) none (.load true 2 (.tmp 18)),
          .op (some 20) none (.mv (.tmp 0)),
          .op (some 21) none (.mv (.tmp 3)),
          .op (some 22) none (.arith .sub (.tmp 21) (.const (.int .i64 1))),
          .op (some 23) none (.iaddr 2 (.tmp 20) (.tmp 22)),
          .op (some 24) none (.load true 2 (.tmp 23))] [
          .op (some 25) none (.eql false true [.int, .int] (.tmp 19) (.tmp 24))])
        (.keep [0, 3, 25] [0] (.ite (.tmp 25) (.seq (.reg [
            .op (some 26) none (.mv (.tmp 0)),
            .op (some 27) none (.mv (.tmp 3)),
            .op (some 28) none (.slice 2 (.tmp 26) (some (.tmp 27)) none),
            .op (some 4) none (.mv (.tmp 28))])
          (.keep [0, 3, 4] [0] (seqM 11 (.seq (.reg [
            .op (some 5) none (.mv (.const (.int .i64 1)))])
          (.keep [0, 3, 4, 5] [0] (.block 2 (.loop 2 (.seq /- 13 -/ (.seq (.reg [
                .op (some 29) none (.mv (.tmp 5)),
                .op (some 30) none (.mv (.tmp 4)),
                .op (some 31) none (.len (.tmp 30)),
                .op (some 32) none (.cmp .lss (.tmp 29) (.tmp 31))])
              (.keep [0, 3, 4, 5, 32] [0] (.ite (.tmp 32) (.skip)
                (.exit 2))))
              (.keep [0, 3, 4, 5] [0] (.seq /- 15 -/ (.block 3 (.seq (.regd [
                  .op (some 35) none (.mv (.tmp 4)),
                  .op (some 36) none (.mv (.tmp 5)),
                  .op (some 37) none (.iaddr 2 (.tmp 35) (.tmp 36)),
                  .op (some 38) none (.load true 2 (.tmp 37)),
                  .op (some 39) none (.mv (.tmp 4)),
                  .op (some 40) none (.mv (.tmp 5)),
                  .op (some 41) none (.arith .sub (.tmp 40) (.const (.int .i64 1))),
                  .op (some 42) none (.iaddr 2 (.tmp 39) (.tmp 41)),
                  .op (some 43) none (.load true 2 (.tmp 42))] [
                  .op (some 44) none (.eql true true [.int, .int] (.tmp 38) (.tmp 43))])
                (.keep [0, 3, 4, 5, 44] [0] (.ite (.tmp 44) (.seq (.reg [
                    .op (some 45) none (.mv (.tmp 0)),
                    .op (some 46) none (.mv (.tmp 3)),
                    .op (some 47) none (.mv (.tmp 4)),
                    .op (some 48) none (.mv (.tmp 5)),
                    .op (some 49) none (.iaddr 2 (.tmp 47) (.tmp 48)),
                    .op (some 50) none (.load true 2 (.tmp 49)),
                    .op (some 51) none (.iaddr 2 (.tmp 45) (.tmp 46)),
                    .op none none (.store none 2 (.tmp 51) (.tmp 50))])
                  (.keep [0, 3, 4, 5] [0] (.reg [
                    .op (some 52) none (.mv (.tmp 3)),
                    .op (some 53) none (.arith .add (.tmp 52) (.const (.int .i64 1))),
                    .op (some 3) none (.mv (.tmp 53))])))
                  (.skip)))))
              (.keep [0, 3, 4, 5] [0] (.reg [
                .op (some 33) none (.mv (.tmp 5)),
                .op (some 34) none (.arith .add (.tmp 33) (.const (.int .i64 1))),
                .op (some 5) none (.mv (.tmp 34))])))))))))
          (.keep [0, 3] [0] (.seq (.reg [
            .op (some 54) none (.mv (.tmp 0)),
            .op (some 55) none (.mv (.tmp 3)),
            .op (some 56) none (.slice 2 (.tmp 54) (some (.tmp 55)) none),
            .op none none (.clear 2 true [(.int .i64 0), (.int .i64 0)] (.tmp 56))])
          (.keep [0, 3] [0] (.seq (.reg [
            .op (some 57) none (.mv (.tmp 0)),
            .op (some 58) none (.mv (.tmp 3)),
            .op (some 59) none (.slice 2 (.tmp 57) none (some (.tmp 58))),
            .frz 59 0,
            .op (some 2) none (.mv (.tmp 59))])
          (.keep [2] [0] (.ret)))))))))
          (.skip)))))
      (.keep [0, 3] [0] (.reg [
        .op (some 14) none (.mv (.tmp 3)),
        .op (some 15) none (.arith .add (.tmp 14) (.const (.int .i64 1))),
        .op (some 3) none (.mv (.tmp 15))])))))))))
  (.keep [0] [0] (.seq (.reg [
    .op (some 60) none (.mv (.tmp 0)),
    .op (some 2) none (.mv (.tmp 60))])
  (.keep [2] [0] (.ret))))))))
def rs_slices_Compact_Source : List CRes := [.tmp 2]
def im_slices_Compact_Source : List Nat := []
theorem ok_slices_Compact_Source : FnOk Tryz.prog f_slices_Compact_Source im_slices_Compact_Source cc_slices_Compact_Source rs_slices_Compact_Source 61 := fnOk1 mixed (by kernel_rfl)
-- r31_fixed range i=30 n=29 c=31 i2=56 id=1: live [1:d, 2:leaf, 3:out, 28:] changed [1, 2, 3] res []
-- r31_fixed while id=0: live [1:d, 2:leaf, 3:out, 4:p, 13:lo, 14:hi, 15:j] changed [3, 15] res []
end Go.Gv

namespace Go.Gv
set_option linter.unusedSimpArgs false

instance : Inhabited Cond := ⟨⟨0, ⟨#[]⟩, ⟨#[]⟩, ⟨#[]⟩, ⟨#[]⟩, false, []⟩⟩
instance : Inhabited Pat := ⟨⟨0, default, ⟨#[]⟩, ⟨#[]⟩, 0, 0, []⟩⟩
/-- The condition without fields. -/
def Cond0 : Cond := ⟨0, ⟨#[]⟩, ⟨#[]⟩, ⟨#[]⟩, ⟨#[]⟩, false, []⟩

mutual
def pDep : Pat → Nat | .mk _ _ _ _ _ _ ks => pDeps ks + 1
def pDeps : List Pat → Nat | [] => 0 | k :: ks => max (pDep k) (pDeps ks)
end
mutual
def pNum : Pat → Nat | .mk _ _ _ _ _ _ ks => pNums ks + 1
def pNums : List Pat → Nat | [] => 0 | k :: ks => pNum k + pNums ks
end
theorem pDep_eq (p : Pat) : pDep p = pDeps p.kids + 1 := by cases p; rw [pDep]
theorem pNum_eq (p : Pat) : pNum p = pNums p.kids + 1 := by cases p; rw [pNum]
theorem pDeps_mem {k : Pat} : ∀ {ks : List Pat}, k ∈ ks → pDep k ≤ pDeps ks
  | a :: ks, h => by
    rw [pDeps]
    rcases List.mem_cons.1 h with rfl | h
    · omega
    · have := pDeps_mem h; omega
theorem pDep_kid {p k : Pat} (h : k ∈ p.kids) : pDep k < pDep p := by have := pDeps_mem h; rw [pDep_eq p]; omega
/-- What holds of a pattern if it does so whenever it holds of its kids, holds of all. -/
theorem pat_ind {C : Pat → Prop} (h : ∀ p, (∀ k ∈ p.kids, C k) → C p) (p : Pat) : C p := by
  generalize hn : pDep p = n
  induction n using Nat.strongRecOn generalizing p with
  | _ n ih => exact h p fun k hk => ih (pDep k) (by rw [← hn]; exact pDep_kid hk) k rfl
/-! ### All nodes -/
mutual
def everyB (f : Pat → Bool) : Pat → Bool | .mk op c l r mn mx ks => f ⟨op, c, l, r, mn, mx, ks⟩ && everyBs f ks
def everyBs (f : Pat → Bool) : List Pat → Bool | [] => true | k :: ks => everyB f k && everyBs f ks
end
theorem everyBs_eq (f : Pat → Bool) : ∀ ks : List Pat, everyBs f ks = ks.all (everyB f)
  | [] => by rw [everyBs]; rfl
  | k :: ks => by rw [everyBs, everyBs_eq f ks, List.all_cons]
theorem everyB_eq (f : Pat → Bool) (p : Pat) : everyB f p = (f p && p.kids.all (everyB f)) := by cases p; rw [everyB, everyBs_eq]
mutual
def shallowB : Pat → Int → Bool | .mk _ _ _ _ _ _ ks, d => decide (d ≤ 100) && shallowBs ks (d + 1)
def shallowBs : List Pat → Int → Bool | [], _ => true | k :: ks, d => shallowB k d && shallowBs ks d
end
theorem shallowBs_eq (d : Int) : ∀ ks : List Pat, shallowBs ks d = ks.all (shallowB · d)
  | [] => by rw [shallowBs]; rfl
  | k :: ks => by rw [shallowBs, shallowBs_eq d ks, List.all_cons]
theorem shallowB_eq (p : Pat) (d : Int) : shallowB p d = (decide (d ≤ 100) && p.kids.all (shallowB · (d + 1))) := by cases p; rw [shallowB, shallowBs_eq]
theorem shallow_mono (p : Pat) : ∀ d d' : Int, d' ≤ d → shallowB p d = true → shallowB p d' = true := by
  induction p using pat_ind with | _ p ih => ?_
  intro d d' h
  rw [shallowB_eq, shallowB_eq]
  simp only [Bool.and_eq_true, decide_eq_true_eq, List.all_eq_true]
  exact fun ⟨h1, h2⟩ => ⟨by omega, fun k hk => ih k hk (d + 1) (d' + 1) (by omega) (h2 k hk)⟩

def NodeOk (p : Pat) : Prop := (p.op = 1 ∧ p.reg = ⟨#[]⟩ ∧ p.mn = 0 ∧ p.mx = 0 ∧ p.kids = []) ∨
  ((p.op = 2 ∨ p.op = 3) ∧ p.cond = Cond0 ∧ p.lab = ⟨#[]⟩ ∧ p.mn = 0 ∧ p.mx = 0 ∧ p.kids = []) ∨
  ((p.op = 4 ∨ p.op = 5) ∧ p.cond = Cond0 ∧ p.lab = ⟨#[]⟩ ∧ p.reg = ⟨#[]⟩ ∧ p.mn = 0 ∧ p.mx = 0 ∧ 2 ≤ p.kids.length) ∨
  (p.op = 6 ∧ p.cond = Cond0 ∧ p.lab = ⟨#[]⟩ ∧ p.reg = ⟨#[]⟩ ∧ p.kids.length = 1)
noncomputable def nodeB (p : Pat) : Bool := @decide (NodeOk p) (Classical.propDecidable _)
theorem nodeB_iff (p : Pat) : nodeB p = true ↔ NodeOk p := @decide_eq_true_iff (NodeOk p) (Classical.propDecidable _)
/-- The numbers of a repetition. -/
def numB (p : Pat) : Bool := decide (p.op = 6 → 0 ≤ p.mn ∧ p.mn ≤ 16 ∧ (p.mx = -1 ∨ p.mn ≤ p.mx ∧ p.mx ≤ 16))
/-- The names of a node (v: the names that are valid). -/
def nameB (v : B → Bool) (p : Pat) : Bool := decide (((p.op = 2 ∨ p.op = 3) → v p.reg = true) ∧ (p.lab ≠ ⟨#[]⟩ → v p.lab = true))
noncomputable def patB (v : B → Bool) (p : Pat) : Bool := shallowB p 1 && everyB nodeB p && everyB (nameB v) p && everyB numB p

theorem patB_kid {v : B → Bool} {p k : Pat} (h : patB v p = true) (hk : k ∈ p.kids) : patB v k = true := by
  unfold patB at *
  rw [everyB_eq, everyB_eq, everyB_eq numB, shallowB_eq] at h
  simp only [Bool.and_eq_true, List.all_eq_true] at h
  obtain ⟨⟨⟨⟨_, h1⟩, _, h2⟩, _, h3⟩, _, h4⟩ := h
  rw [h2 k hk, h3 k hk, h4 k hk, shallow_mono k _ 1 (by omega) (h1 k hk)]
  rfl
theorem patB_node {v : B → Bool} {p : Pat} (h : patB v p = true) : nodeB p = true ∧ nameB v p = true ∧ numB p = true := by
  unfold patB at *
  rw [everyB_eq, everyB_eq, everyB_eq numB] at h
  simp only [Bool.and_eq_true] at h
  exact ⟨h.1.1.2.1, h.1.2.1, h.2.1⟩

/-! ### Sizes, widths, leaves -/
def sizeN (p : Pat) (n : Int) : Int := if p.kids = [] then 1 else if p.op = 6 then (if p.mx = -1 then min (n * (p.mn + 1)) 1000 else if p.mx = 0 then n else min (n * p.mx) 1000) else n
mutual
def sizeP : Pat → Int | .mk op c l r mn mx ks => sizeN ⟨op, c, l, r, mn, mx, ks⟩ (sizePs ks 0)
def sizePs : List Pat → Int → Int | [], n => n | k :: ks, n => sizePs ks (min (n + sizeP k) 1000)
end
theorem sizeP_eq (p : Pat) : sizeP p = sizeN p (sizePs p.kids 0) := by cases p; rw [sizeP]
theorem sizePs_app (a b : List Pat) (n : Int) : sizePs (a ++ b) n = sizePs b (sizePs a n) := by
  induction a generalizing n with
  | nil => rfl
  | cons k a ih => simp only [List.cons_append, sizePs]; exact ih _

/-- The widths of two parts, put together. -/
def widC (seq : Bool) (a b : Int × Int) : Int × Int :=
  if seq then (min (a.1 + b.1) 10000, if a.2 = -1 ∨ b.2 = -1 then -1 else min (a.2 + b.2) 10000) else (min a.1 b.1, if a.2 = -1 ∨ b.2 = -1 then -1 else max a.2 b.2)
mutual
def widP : Pat → Int × Int
  | .mk op _ _ _ mn mx ks => if op = 1 then (1, 1) else if op = 2 ∨ op = 3 then (0, 0) else match ks with
    | [] => (0, 0)
    | k :: ks => if op = 6 then (min ((widP k).1 * mn) 10000, if mx = 0 ∨ (widP k).2 = 0 then 0 else if mx = -1 ∨ (widP k).2 = -1 then -1 else min ((widP k).2 * mx) 10000) else widPs (decide (op = 4)) ks (widP k)
def widPs (seq : Bool) : List Pat → Int × Int → Int × Int | [], w => w | k :: ks, w => widPs seq ks (widC seq w (widP k))
end
theorem widPs_app (s : Bool) (a b : List Pat) (n : Int × Int) : widPs s (a ++ b) n = widPs s b (widPs s a n) := by
  induction a generalizing n with
  | nil => rfl
  | cons k a ih => simp only [List.cons_append, widPs]; exact ih _
theorem widP1 {p : Pat} (h : p.op = 1) : widP p = (1, 1) := by cases p; simp only at h; unfold widP; rw [if_pos h]
theorem widP2 {p : Pat} (h : p.op = 2 ∨ p.op = 3) : widP p = (0, 0) := by cases p; simp only at h; unfold widP; rw [if_neg (by omega), if_pos h]
theorem widP6 {p k : Pat} (h : p.op = 6) {ks : List Pat} (hk : p.kids = k :: ks) : widP p = (min ((widP k).1 * p.mn) 10000, if p.mx = 0 ∨ (widP k).2 = 0 then 0 else if p.mx = -1 ∨ (widP k).2 = -1 then -1 else min ((widP k).2 * p.mx) 10000) := by
  cases p; simp only at h hk; subst hk; rw [widP, if_neg (by omega), if_neg (by omega)]; simp only [h, if_true]
theorem widP4 {p k : Pat} (h : p.op = 4 ∨ p.op = 5) {ks : List Pat} (hk : p.kids = k :: ks) : widP p = widPs (decide (p.op = 4)) ks (widP k) := by
  cases p; simp only at h hk; subst hk; rw [widP, if_neg (by omega), if_neg (by omega)]; simp only; rw [if_neg (by omega)]

mutual
def leavesP : Pat → List Pat | .mk op c l r mn mx ks => if op = 1 then [⟨op, c, l, r, mn, mx, ks⟩] else leavesPs ks
def leavesPs : List Pat → List Pat | [] => [] | k :: ks => leavesP k ++ leavesPs ks
end
theorem leavesPs_eq : ∀ ks : List Pat, leavesPs ks = ks.flatMap leavesP
  | [] => by rw [leavesPs]; rfl
  | k :: ks => by rw [leavesPs, leavesPs_eq ks, List.flatMap_cons]
theorem leavesP_eq (p : Pat) : leavesP p = if p.op = 1 then [p] else p.kids.flatMap leavesP := by cases p; rw [leavesP, leavesPs_eq]
theorem leavesP_le (p : Pat) : (leavesP p).length ≤ pNum p := by
  induction p using pat_ind with | _ p ih => ?_
  rw [leavesP_eq, pNum_eq]
  split
  · simp
  · have : ∀ ks : List Pat, (∀ k ∈ ks, (leavesP k).length ≤ pNum k) → (ks.flatMap leavesP).length ≤ pNums ks := by
      intro ks
      induction ks with
      | nil => intro _; simp [pNums]
      | cons k ks ih =>
        intro h
        rw [List.flatMap_cons, List.length_append, pNums]
        have h1 := h k (by simp)
        have h2 := ih fun x hx => h x (by simp [hx])
        omega
    have := this p.kids ih
    omega

/-! ### Bounds -/
theorem node_kids {p : Pat} (h : nodeB p = true) : (p.op = 1 ∧ p.kids = []) ∨ ((p.op = 2 ∨ p.op = 3) ∧ p.kids = []) ∨ ((p.op = 4 ∨ p.op = 5) ∧ ∃ k ks, p.kids = k :: ks) ∨ (p.op = 6 ∧ ∃ k, p.kids = [k]) := by
  rw [nodeB_iff] at h
  unfold NodeOk at h
  rcases h with h | h | h | h
  · exact .inl ⟨h.1, h.2.2.2.2⟩
  · exact .inr (.inl ⟨h.1, h.2.2.2.2.2⟩)
  · refine .inr (.inr (.inl ⟨h.1, ?_⟩))
    rcases hk : p.kids with _ | ⟨k, ks⟩
    · rw [hk] at h; simp at h
    · exact ⟨k, ks, rfl⟩
  · refine .inr (.inr (.inr ⟨h.1, ?_⟩))
    rcases hk : p.kids with _ | ⟨k, _ | ⟨a, ks⟩⟩
    · rw [hk] at h; simp at h
    · exact ⟨k, rfl⟩
    · rw [hk] at h; simp at h
theorem sizePs_rng : ∀ (ks : List Pat) (n : Int), 0 ≤ n → n ≤ 1000 → (∀ k ∈ ks, 0 ≤ sizeP k) → 0 ≤ sizePs ks n ∧ sizePs ks n ≤ 1000
  | [], n, h0, h1, _ => by rw [sizePs]; exact ⟨h0, h1⟩
  | k :: ks, n, h0, h1, h => by
    rw [sizePs]
    have := h k (by simp)
    exact sizePs_rng ks _ (by omega) (by omega) fun x hx => h x (by simp [hx])
theorem sizeP_rng {v : B → Bool} (p : Pat) : patB v p = true → 0 ≤ sizeP p ∧ sizeP p ≤ 1000 := by
  induction p using pat_ind with | _ p ih => ?_
  intro h
  have hk := sizePs_rng p.kids 0 (by omega) (by omega) fun k hk => (ih k hk (patB_kid h hk)).1
  have hn := (patB_node h).2.2
  unfold numB at hn
  rw [decide_eq_true_eq] at hn
  rw [sizeP_eq]
  generalize sizePs p.kids 0 = n at hk
  unfold sizeN
  split
  · omega
  · split
    · rename_i h6
      have hn := hn h6
      split
      · have : 0 ≤ n * (p.mn + 1) := Int.mul_nonneg hk.1 (by omega)
        omega
      · split
        · exact hk
        · have : 0 ≤ n * p.mx := Int.mul_nonneg hk.1 (by omega)
          omega
    · exact hk
def WidOk (w : Int × Int) : Prop := 0 ≤ w.1 ∧ w.1 ≤ 10000 ∧ -1 ≤ w.2 ∧ w.2 ≤ 10000
theorem widC_ok {s : Bool} {a b : Int × Int} (ha : WidOk a) (hb : WidOk b) : WidOk (widC s a b) := by
  unfold WidOk widC at *
  split <;> simp only <;> split <;> omega
theorem widPs_ok (s : Bool) : ∀ (ks : List Pat) (w : Int × Int), WidOk w → (∀ k ∈ ks, WidOk (widP k)) → WidOk (widPs s ks w)
  | [], w, h, _ => by rw [widPs]; exact h
  | k :: ks, w, h, hk => by
    rw [widPs]
    exact widPs_ok s ks _ (widC_ok h (hk k (by simp))) fun x hx => hk x (by simp [hx])
theorem widP_ok {v : B → Bool} (p : Pat) : patB v p = true → WidOk (widP p) := by
  induction p using pat_ind with | _ p ih => ?_
  intro h
  obtain ⟨h1, _, hn⟩ := patB_node h
  unfold numB at hn
  rw [decide_eq_true_eq] at hn
  rcases node_kids h1 with ⟨ho, _⟩ | ⟨ho, _⟩ | ⟨ho, k, ks, hk⟩ | ⟨ho, k, hk⟩
  · rw [widP1 ho]; simp [WidOk]
  · rw [widP2 ho]; simp [WidOk]
  · rw [widP4 ho hk]
    exact widPs_ok _ _ _ (ih k (by rw [hk]; simp) (patB_kid h (by rw [hk]; simp))) fun x hx => ih x (by rw [hk]; simp [hx]) (patB_kid h (by rw [hk]; simp [hx]))
  · rw [widP6 ho hk]
    have hw := ih k (by rw [hk]; simp) (patB_kid h (by rw [hk]; simp))
    have hn := hn ho
    generalize widP k = w at hw
    unfold WidOk at *
    have h1 : 0 ≤ w.1 * p.mn := Int.mul_nonneg hw.1 hn.1
    refine ⟨by simp only; omega, by simp only; omega, ?_⟩
    simp only
    split
    · omega
    · split
      · omega
      · have h2 : 0 ≤ w.2 * p.mx := Int.mul_nonneg (by omega) (by omega)
        omega
end Go.Gv

namespace Go.Gv
set_option linter.unusedSimpArgs false
set_option linter.unusedVariables false

/-! ### Sources -/
mutual
/-- s is a source of a pattern that stands at the distance d and whose first leaf has a number. -/
def Src : Pat → Int → Int → Span → Prop
  | .mk op c l r mn mx ks, d, leaf, s => if op = 1 then s = ⟨leaf, d⟩ else if op = 4 then Srcs ks d leaf s else if op = 6 then (match ks with | [] => False | k :: _ => ∃ i : Int, 0 ≤ i ∧ i < mn ∧ (i = 0 ∨ (widP k).1 = (widP k).2) ∧ Src k (d + i * (widP k).1) leaf s) else False
def Srcs : List Pat → Int → Int → Span → Prop
  | [], _, _, _ => False
  | k :: ks, d, leaf, s => Src k d leaf s ∨ ((widP k).1 = (widP k).2 ∧ Srcs ks (d + (widP k).1) (leaf + (leavesP k).length) s)
end
theorem src1 {p : Pat} (h : p.op = 1) (d leaf : Int) (s : Span) : Src p d leaf s ↔ s = ⟨leaf, d⟩ := by cases p; simp only at h; unfold Src; rw [if_pos h]
theorem src4 {p : Pat} (h : p.op = 4) (d leaf : Int) (s : Span) : Src p d leaf s ↔ Srcs p.kids d leaf s := by cases p; simp only at h; unfold Src; rw [if_neg (by omega), if_pos h]
theorem src6 {p k : Pat} (h : p.op = 6) {ks : List Pat} (hk : p.kids = k :: ks) (d leaf : Int) (s : Span) : Src p d leaf s ↔ ∃ i : Int, 0 ≤ i ∧ i < p.mn ∧ (i = 0 ∨ (widP k).1 = (widP k).2) ∧ Src k (d + i * (widP k).1) leaf s := by
  cases p; simp only at h hk; subst hk; rw [Src.eq_def]; simp only; rw [if_neg (by omega), if_neg (by omega), if_pos h]
theorem src0 {p : Pat} (h : p.op ≠ 1 ∧ p.op ≠ 4 ∧ p.op ≠ 6) (d leaf : Int) (s : Span) : ¬ Src p d leaf s := by
  cases p; simp only at h; rw [Src.eq_def]; simp only; rw [if_neg h.1, if_neg h.2.1, if_neg h.2.2]; exact id

theorem src_shift (p : Pat) : ∀ (a b d leaf x y : Int), Src p (d + a) (leaf + b) ⟨x + b, y + a⟩ ↔ Src p d leaf ⟨x, y⟩ := by
  induction p using pat_ind with | _ p ih => ?_
  intro a b d leaf x y
  by_cases h1 : p.op = 1
  · rw [src1 h1, src1 h1, Span.mk.injEq, Span.mk.injEq]; omega
  by_cases h4 : p.op = 4
  · rw [src4 h4, src4 h4]
    have : ∀ ks : List Pat, (∀ k ∈ ks, k ∈ p.kids) → ∀ d leaf : Int, Srcs ks (d + a) (leaf + b) ⟨x + b, y + a⟩ ↔ Srcs ks d leaf ⟨x, y⟩ := by
      intro ks
      induction ks with
      | nil => intro _ d leaf; rw [Srcs, Srcs]
      | cons k ks ihk =>
        intro hk d leaf
        rw [Srcs, Srcs, ih k (hk k (by simp)), ← ihk (fun z hz => hk z (by simp [hz])), show d + a + (widP k).1 = d + (widP k).1 + a by omega, show leaf + b + ((leavesP k).length : Int) = leaf + ((leavesP k).length : Int) + b by omega]
    exact this p.kids (fun k hk => hk) d leaf
  by_cases h6 : p.op = 6
  · rcases hk : p.kids with _ | ⟨k, ks⟩
    · have : ∀ d leaf s, ¬ Src p d leaf s := by
        intro d leaf s
        cases p; simp only at h1 h4 h6 hk; subst hk; rw [Src.eq_def]; simp only; rw [if_neg h1, if_neg h4, if_pos h6]; exact id
      exact ⟨fun h => absurd h (this _ _ _), fun h => absurd h (this _ _ _)⟩
    · rw [src6 h6 hk, src6 h6 hk]
      refine exists_congr fun i => ?_
      rw [show d + a + i * (widP k).1 = d + i * (widP k).1 + a by omega, ih k (by rw [hk]; simp)]
  · exact ⟨fun h => absurd h (src0 ⟨h1, h4, h6⟩ _ _ _), fun h => absurd h (src0 ⟨h1, h4, h6⟩ _ _ _)⟩

/-- Where the sources lie. -/
theorem src_rng {v : B → Bool} (p : Pat) : patB v p = true → ∀ (d leaf : Int) (s : Span), Src p d leaf s → leaf ≤ s.b ∧ s.b < leaf + (leavesP p).length ∧ d ≤ s.e ∧ s.e ≤ d + 200000 * pNum p := by
  induction p using pat_ind with | _ p ih => ?_
  intro hp d leaf s h
  rw [leavesP_eq]
  rcases node_kids (patB_node hp).1 with ⟨ho, _⟩ | ⟨ho, _⟩ | ⟨ho, k, ks, hk⟩ | ⟨ho, k, hk⟩
  · rw [src1 ho] at h
    subst h
    rw [pNum_eq, if_pos ho]
    simp only [List.length_cons, List.length_nil]
    omega
  · exact absurd h (src0 (by omega) _ _ _)
  · by_cases h4 : p.op = 4
    · rw [src4 h4] at h
      rw [if_neg (by omega), pNum_eq]
      have : ∀ ks : List Pat, (∀ k ∈ ks, k ∈ p.kids) → ∀ d leaf : Int, Srcs ks d leaf s → leaf ≤ s.b ∧ s.b < leaf + (ks.flatMap leavesP).length ∧ d ≤ s.e ∧ s.e ≤ d + 200000 * pNums ks := by
        intro ks
        induction ks with
        | nil => intro _ d leaf h; rw [Srcs] at h; exact h.elim
        | cons k ks ihk =>
          intro hk d leaf h
          rw [Srcs] at h
          rw [pNums, List.flatMap_cons, List.length_append]
          rcases h with h | ⟨hw, h⟩
          · have := ih k (hk k (by simp)) (patB_kid hp (hk k (by simp))) d leaf s h
            omega
          · have h1 := ihk (fun z hz => hk z (by simp [hz])) _ _ h
            have h2 : WidOk (widP k) := widP_ok k (patB_kid hp (hk k (by simp)))
            have h3 : 1 ≤ pNum k := by rw [pNum_eq]; omega
            unfold WidOk at h2
            omega
      have := this p.kids (fun k hk => hk) d leaf h
      omega
    · exact absurd h (src0 (by omega) _ _ _)
  · rw [src6 ho hk] at h
    obtain ⟨i, h0, h1, _, h3⟩ := h
    rw [if_neg (by omega), pNum_eq, hk, pNums, pNums]
    have h4 := ih k (by rw [hk]; simp) (patB_kid hp (by rw [hk]; simp)) _ _ _ h3
    have h2 : WidOk (widP k) := widP_ok k (patB_kid hp (by rw [hk]; simp))
    have hn := (patB_node hp).2.2
    unfold numB at hn
    rw [decide_eq_true_eq] at hn
    have hn := hn ho
    unfold WidOk at h2
    have h5 : 0 ≤ i * (widP k).1 := Int.mul_nonneg h0 h2.1
    have h6 : i * (widP k).1 ≤ 16 * 10000 := Int.mul_le_mul (by omega) h2.2.1 h2.1 (by omega)
    have h7 : 1 ≤ pNum k := by rw [pNum_eq]; omega
    simp only [List.flatMap_cons, List.flatMap_nil, List.append_nil]
    generalize i * (widP k).1 = z at *
    omega

/-- The list of sources: in order, each once. -/
def SrcsOf (p : Pat) (r : List Span) : Prop := SS r ∧ ∀ s, s ∈ r ↔ Src p 0 0 s
theorem SrcsOf.eq {p : Pat} {a b : List Span} (h : SrcsOf p a) (k : SrcsOf p b) : a = b := ss_ext h.1 k.1 fun x => (h.2 x).trans (k.2 x).symm

/-! ### Generated patterns -/
def b_s : B := ⟨#[115]⟩
def b_np : B := ⟨#[110, 112]⟩
def b_t : B := ⟨#[116]⟩
def b_x : B := ⟨#[120]⟩
def b_y : B := ⟨#[121]⟩
def Types : List B := [b_s, b_np, b_t]
def Reps : List (Int × Int) := [(0, 1), (0, -1), (1, -1), (2, 2), (0, 2), (1, 3), (0, 0)]
/-- A leaf of a generated pattern. -/
def WP0 (lb : List B) (p : Pat) : Prop := (p.op = 1 ∧ (p.lab = ⟨#[]⟩ ∨ p.lab ∈ lb) ∧ p.reg = ⟨#[]⟩ ∧ p.mn = 0 ∧ p.mx = 0 ∧ p.kids = []) ∨ ((p.op = 2 ∨ p.op = 3) ∧ p.cond = Cond0 ∧ p.lab = ⟨#[]⟩ ∧ p.reg ∈ Types ∧ p.mn = 0 ∧ p.mx = 0 ∧ p.kids = [])
/-- A pattern that was generated, of at most n levels above the leaves. -/
def WP (lb : List B) : Nat → Pat → Prop
  | 0, p => WP0 lb p
  | n + 1, p => WP0 lb p ∨ ((p.op = 4 ∨ p.op = 5) ∧ p.cond = Cond0 ∧ p.lab = ⟨#[]⟩ ∧ p.reg = ⟨#[]⟩ ∧ p.mn = 0 ∧ p.mx = 0 ∧ ∃ a b, p.kids = [a, b] ∧ WP lb n a ∧ WP lb n b) ∨
    (p.op = 6 ∧ p.cond = Cond0 ∧ p.lab = ⟨#[]⟩ ∧ p.reg = ⟨#[]⟩ ∧ (p.mn, p.mx) ∈ Reps ∧ ∃ a, p.kids = [a] ∧ WP lb n a)
theorem wp0 {lb : List B} {n : Nat} {p : Pat} (h : WP0 lb p) : WP lb n p := by
  cases n
  · exact h
  · exact .inl h
/-- The labels that a generated pattern may bind. -/
def LabOk (lb : List B) : Prop := ∀ l ∈ lb, l = b_x ∨ l = b_y
theorem wp_cases {lb : List B} {n : Nat} {p : Pat} (h : WP lb n p) : WP0 lb p ∨ ∃ m, n = m + 1 ∧ (((p.op = 4 ∨ p.op = 5) ∧ p.cond = Cond0 ∧ p.lab = ⟨#[]⟩ ∧ p.reg = ⟨#[]⟩ ∧ p.mn = 0 ∧ p.mx = 0 ∧ ∃ a b, p.kids = [a, b] ∧ WP lb m a ∧ WP lb m b) ∨
    (p.op = 6 ∧ p.cond = Cond0 ∧ p.lab = ⟨#[]⟩ ∧ p.reg = ⟨#[]⟩ ∧ (p.mn, p.mx) ∈ Reps ∧ ∃ a, p.kids = [a] ∧ WP lb m a)) := by
  cases n with
  | zero => exact .inl h
  | succ m => exact h.elim .inl fun h => .inr ⟨m, rfl, h⟩
theorem wp_ind {lb : List B} {C : Nat → Pat → Prop} (h : ∀ n p, WP lb n p → (∀ k ∈ p.kids, ∃ m, n = m + 1 ∧ WP lb m k ∧ C m k) → C n p) : ∀ n p, WP lb n p → C n p := by
  intro n
  induction n with
  | zero =>
    intro p hp
    refine h 0 p hp fun k hk => ?_
    rcases hp with hp | hp
    · rw [hp.2.2.2.2.2] at hk; simp at hk
    · rw [hp.2.2.2.2.2.2] at hk; simp at hk
  | succ m ih =>
    intro p hp
    refine h (m + 1) p hp fun k hk => ⟨m, rfl, ?_⟩
    have : WP lb m k := by
      rcases hp with (hp | hp) | hp | hp
      · rw [hp.2.2.2.2.2] at hk; simp at hk
      · rw [hp.2.2.2.2.2.2] at hk; simp at hk
      · obtain ⟨a, b, e, ha, hb⟩ := hp.2.2.2.2.2.2
        rw [e] at hk
        simp at hk
        rcases hk with rfl | rfl
        · exact ha
        · exact hb
      · obtain ⟨a, e, ha⟩ := hp.2.2.2.2.2
        rw [e] at hk
        simp at hk
        subst hk
        exact ha
    exact ⟨this, ih k this⟩
theorem wp_patB {v : B → Bool} {lb : List B} (hl : LabOk lb) (hv : v b_s = true ∧ v b_np = true ∧ v b_t = true ∧ v b_x = true ∧ v b_y = true) : ∀ n p, WP lb n p → n ≤ 90 → patB v p = true := by
  have key : ∀ n p, WP lb n p → (n ≤ 90 → ∀ d : Int, d + n ≤ 100 → shallowB p d = true) ∧ everyB nodeB p = true ∧ everyB (nameB v) p = true ∧ everyB numB p = true := by
    refine wp_ind fun n p hp ih => ?_
    have hnode : nodeB p = true ∧ nameB v p = true ∧ numB p = true := by
      rw [nodeB_iff]
      unfold NodeOk nameB numB
      rw [decide_eq_true_eq, decide_eq_true_eq]
      have hr : (p.mn, p.mx) ∈ Reps → 0 ≤ p.mn ∧ p.mn ≤ 16 ∧ (p.mx = -1 ∨ p.mn ≤ p.mx ∧ p.mx ≤ 16) := by
        intro h
        simp [Reps] at h
        omega
      have ht : p.reg ∈ Types → v p.reg = true := by
        intro h
        simp [Types] at h
        rcases h with h | h | h <;> rw [h]
        · exact hv.1
        · exact hv.2.1
        · exact hv.2.2.1
      rcases wp_cases hp with (⟨h1, h2, h3, h4, h5, h6⟩ | ⟨h1, h2, h3, h4, h5, h6, h7⟩) | ⟨m, _, (⟨h1, h2, h3, h4, h5, h6, a, b, h7, _⟩ | ⟨h1, h2, h3, h4, h5, a, h7, _⟩)⟩
      · refine ⟨.inl ⟨h1, h3, h4, h5, h6⟩, ⟨fun h => by omega, fun hne => ?_⟩, fun h => by omega⟩
        rcases h2 with h2 | h2
        · exact absurd h2 hne
        · rcases hl _ h2 with h | h <;> rw [h]
          · exact hv.2.2.2.1
          · exact hv.2.2.2.2
      · exact ⟨.inr (.inl ⟨h1, h2, h3, h5, h6, h7⟩), ⟨fun _ => ht h4, fun h => absurd h3 h⟩, fun h => by omega⟩
      · exact ⟨.inr (.inr (.inl ⟨h1, h2, h3, h4, h5, h6, by rw [h7]; simp⟩)), ⟨fun h => by omega, fun h => absurd h3 h⟩, fun h => by omega⟩
      · exact ⟨.inr (.inr (.inr ⟨h1, h2, h3, h4, by rw [h7]; simp⟩)), ⟨fun h => by omega, fun h => absurd h3 h⟩, fun _ => hr h5⟩
    refine ⟨fun hn d hd => ?_, ?_, ?_, ?_⟩
    · rw [shallowB_eq, Bool.and_eq_true, decide_eq_true_eq, List.all_eq_true]
      refine ⟨by omega, fun k hk => ?_⟩
      obtain ⟨m, e, _, h, _⟩ := ih k hk
      exact h (by omega) _ (by omega)
    · rw [everyB_eq, Bool.and_eq_true, List.all_eq_true]
      exact ⟨hnode.1, fun k hk => by obtain ⟨m, e, _, h⟩ := ih k hk; exact h.2.1⟩
    · rw [everyB_eq, Bool.and_eq_true, List.all_eq_true]
      exact ⟨hnode.2.1, fun k hk => by obtain ⟨m, e, _, h⟩ := ih k hk; exact h.2.2.1⟩
    · rw [everyB_eq, Bool.and_eq_true, List.all_eq_true]
      exact ⟨hnode.2.2, fun k hk => by obtain ⟨m, e, _, h⟩ := ih k hk; exact h.2.2.2⟩
  intro n p hp hn
  obtain ⟨h1, h2, h3, h4⟩ := key n p hp
  unfold patB
  rw [h1 hn 1 (by omega), h2, h3, h4]
  rfl
/-- Sizes of generated patterns. -/
theorem wp_size {lb : List B} : ∀ n p, WP lb n p → n ≤ 5 → 1 ≤ sizeP p ∧ sizeP p ≤ 3 ^ n ∧ pNum p + 1 ≤ 2 ^ (n + 1) := by
  refine wp_ind fun n p hp ih hn => ?_
  have hb : (1 : Int) ≤ 3 ^ n ∧ 1 ≤ 2 ^ n := ⟨Int.pow_pos (by omega), Nat.one_le_two_pow⟩
  rcases wp_cases hp with (⟨h1, h2, h3, h4, h5, h6⟩ | ⟨h1, h2, h3, h4, h5, h6, h7⟩) | ⟨m, rfl, (⟨h1, h2, h3, h4, h5, h6, a, b, h7, _⟩ | ⟨h1, h2, h3, h4, h5, a, h7, _⟩)⟩
  · rw [sizeP_eq, sizeN, if_pos h6, pNum_eq, h6, pNums, Nat.pow_succ]; omega
  · rw [sizeP_eq, sizeN, if_pos h7, pNum_eq, h7, pNums, Nat.pow_succ]; omega
  · obtain ⟨m1, e1, _, a1⟩ := ih a (by rw [h7]; simp)
    obtain ⟨m2, e2, _, a2⟩ := ih b (by rw [h7]; simp)
    have e1 : m1 = m := by omega
    have e2 : m2 = m := by omega
    subst e1; subst e2
    have a1 := a1 (by omega)
    have a2 := a2 (by omega)
    rw [sizeP_eq, sizeN, if_neg (by rw [h7]; simp), if_neg (by omega), pNum_eq, h7]
    simp only [sizePs, pNums]
    rw [Int.pow_succ, Nat.pow_succ]
    rw [Nat.pow_succ] at a1 a2 ⊢
    have h2 : (0 : Int) ≤ 3 ^ m2 := by omega
    have : (3 : Int) ^ m2 ≤ 243 := by
      have : m2 = 0 ∨ m2 = 1 ∨ m2 = 2 ∨ m2 = 3 ∨ m2 = 4 := by omega
      rcases this with rfl | rfl | rfl | rfl | rfl <;> decide
    omega
  · obtain ⟨m1, e1, _, a1⟩ := ih a (by rw [h7]; simp)
    have e1 : m1 = m := by omega
    subst e1
    have a1 := a1 (by omega)
    rw [sizeP_eq, sizeN, if_neg (by rw [h7]; simp), if_pos h1, pNum_eq, h7]
    simp only [sizePs, pNums]
    rw [Int.pow_succ, Nat.pow_succ]
    rw [Nat.pow_succ] at a1 ⊢
    have : (3 : Int) ^ m1 ≤ 243 := by
      have : m1 = 0 ∨ m1 = 1 ∨ m1 = 2 ∨ m1 = 3 ∨ m1 = 4 := by omega
      rcases this with rfl | rfl | rfl | rfl | rfl <;> decide
    simp only [Reps, List.mem_cons, Prod.mk.injEq, List.not_mem_nil, or_false] at h5
    rw [show min (0 + sizeP a) 1000 = sizeP a by omega]
    rcases h5 with ⟨e1, e2⟩ | ⟨e1, e2⟩ | ⟨e1, e2⟩ | ⟨e1, e2⟩ | ⟨e1, e2⟩ | ⟨e1, e2⟩ | ⟨e1, e2⟩ <;> rw [e1, e2] <;> simp <;> omega
end Go.Gv

namespace Go.Gv
set_option linter.unusedSimpArgs false
set_option linter.unusedVariables false
set_option maxRecDepth 100000
open Cod (enc dec)
variable {S S0 : Nat → Spc}

/-! ### Names -/
def begB (c : Int) : Bool := decide (65 ≤ c ∧ c ≤ 90 ∨ 97 ≤ c ∧ c ≤ 122 ∨ c = 95)
def conB (c : Int) : Bool := begB c || decide (48 ≤ c ∧ c ≤ 57 ∨ c = 45)
def ValidN (s : B) : Prop := 1 ≤ s.size ∧ s.size ≤ 32 ∧ (∀ c : UInt8, s.data[0]? = some c → begB c.toNat = true) ∧ ∀ (k : Nat) (c : UInt8), s.data[k]? = some c → conB c.toNat = true
noncomputable def validN (s : B) : Bool := @decide (ValidN s) (Classical.propDecidable _)
theorem validN_iff (s : B) : validN s = true ↔ ValidN s := @decide_eq_true_iff (ValidN s) (Classical.propDecidable _)
theorem validN_t {s : B} (h : ValidN s) : true = validN s := ((validN_iff s).2 h).symm
theorem validN_f {s : B} (h : ¬ ValidN s) : false = validN s := by
  rcases hb : validN s
  · rfl
  · exact absurd ((validN_iff s).1 hb) h
abbrev s_begins : Spc := spc (a1 U8) (fun _ => True) (enc (X := Bool)) fun x y => y = begB x.val
abbrev s_goesOn : Spc := spc (a1 U8) (fun _ => True) (enc (X := Bool)) fun x y => y = conB x.val
abbrev s_validN : Spc := spc (a1 B) (fun _ => True) (enc (X := Bool)) fun x y => y = validN x
theorem w_markup_begins : Walk cc_markup_begins rs_markup_begins S (a1 U8) (fun _ => True) (enc (X := Bool)) fun x y => y = begB x.val := by
  rintro ⟨c⟩ -
  simp [cc_markup_begins, rs_markup_begins, begB]
  repeat' first | apply And.intro | intro _
  all_goals first | omega | (rw [Bool.eq_iff_iff]; simp; omega)
theorem w_markup_goesOn (h1 : S f_markup_begins = s_begins) : Walk cc_markup_goesOn rs_markup_goesOn S (a1 U8) (fun _ => True) (enc (X := Bool)) fun x y => y = conB x.val := by
  rintro ⟨c⟩ -
  simp [cc_markup_goesOn, rs_markup_goesOn, h1, conB, -Bool.forall_bool]
  rcases hb : begB c <;> simp [hb]
  repeat' first | apply And.intro | intro _
  all_goals first | omega | (rw [Bool.eq_iff_iff]; simp; omega)
theorem w_markup_ValidName (h1 : S f_markup_begins = s_begins) (h2 : S f_markup_goesOn = s_goesOn) : Walk cc_markup_ValidName rs_markup_ValidName S (a1 B) (fun _ => True) (enc (X := Bool)) fun x y => y = validN x := by
  rintro s -
  simp [cc_markup_ValidName, rs_markup_ValidName, h1, h2]
  refine fun _ => ⟨fun k1 _ => ⟨fun k2 => ⟨by omega, fun c hc => ⟨fun hb => (validN_f fun h => by rw [h.2.2.1 c hc] at hb; cases hb).symm, fun hb _ => ?_⟩⟩, fun k2 => (validN_f fun h => by have := h.2.1; omega).symm⟩, fun k1 => (validN_f fun h => by have := h.1; omega).symm⟩
  refine vc_range (X := Unit) [0] [] s.size (fun k _ => ∀ (j : Nat) (c : UInt8), j < k → s.data[j]? = some c → conB c.toNat = true) (fun _ => []) (fun _ => []) () (by simp) (by simp) (by omega) (by simp) (by simp) (by intro j d hj; omega) (by simp) (by simp) ?_ ?_
  · rintro k - hk h5
    simp [h2]
    refine ⟨hk, fun d hd => ⟨fun hf => (validN_f fun h => by rw [h.2.2.2 k d hd] at hf; cases hf).symm, fun ht j e hj he => ?_⟩⟩
    by_cases e1 : j = k
    · subst e1
      rw [hd] at he
      cases he
      exact ht
    · exact h5 j e (by omega) he
  · rintro - h5
    simp
    refine (validN_t ⟨by omega, by omega, fun d hd => by rw [hc] at hd; cases hd; exact hb, fun j e he => h5 j e ?_ he⟩).symm
    exact (Array.getElem?_eq_some_iff.1 he).1
end Go.Gv

namespace Go.Gv
set_option linter.unusedSimpArgs false
set_option linter.unusedVariables false
set_option maxRecDepth 100000
open Cod (enc dec)
variable {S S0 : Nat → Spc}
end Go.Gv

namespace Go.Gv
set_option linter.unusedSimpArgs false
set_option linter.unusedVariables false
set_option maxRecDepth 100000
open Cod (enc dec)
variable {S S0 : Nat → Spc}
theorem mul_rng {a b A B : Int} (h0 : 0 ≤ a) (h1 : a ≤ A) (h2 : 0 ≤ b) (h3 : b ≤ B) : 0 ≤ a * b ∧ a * b ≤ A * B := ⟨Int.mul_nonneg h0 h2, Int.mul_le_mul h1 h3 h2 (by omega)⟩
def PPat (n : Nat) (p : Pat) : Prop := pDep p ≤ n ∧ patB validN p = true
theorem PPat.kid {n : Nat} {p k : Pat} (h : PPat (n + 1) p) (hk : k ∈ p.kids) : PPat n k := by
  have h1 := pDep_kid hk
  have h2 := h.1
  exact ⟨by omega, patB_kid h.2 hk⟩
abbrev s_r23_IsPattern : Spc := spc (a1 Pat) (fun _ => True) (enc (X := Bool)) fun x y => y = patB validN x
abbrev s_size (n : Nat) : Spc := spc (a1 Pat) (PPat n) (enc (X := Int)) fun x y => y = sizeP x
abbrev s_width (n : Nat) : Spc := spc (a1 Pat) (PPat n) (er2 (Y := Int) (Z := Int)) fun x y => y = widP x
end Go.Gv
