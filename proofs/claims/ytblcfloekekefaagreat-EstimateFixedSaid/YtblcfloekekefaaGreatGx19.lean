/- A part of the framework and of the walks: C6 T23. -/
import Derived.Test.YtblcfloekekefaaGreatGx12
import Derived.Test.YtblcfloekekefaaGreatGx18
import Derived.Test.YtblcfloekekefaaGreatGx17

namespace Go.Gv
open Go.Proofs
/-- corpora/corporaref23.isLetter [uint8] -> [bool] -/
def cc_r23_isLetter : CC :=
  .seq (.reg [
    .op (some 2) none (.mv (.const (.bool false)))])
  (.keep [0] [] (.seq (.reg [
    .op (some 3) none (.mv (.tmp 0)),
    .op (some 4) none (.cmp .geq (.tmp 3) (.const (.int .u8 65))),
    .op (some 5) none (.mv (.tmp 4)),
    .op (some 6) (some (5, true)) (.mv (.tmp 0)),
    .op (some 7) (some (5, true)) (.cmp .leq (.tmp 6) (.const (.int .u8 90))),
    .op (some 8) none (.pick (.tmp 5) (.tmp 7) (.const (.bool false))),
    .op (some 9) none (.mv (.tmp 8)),
    .op (some 10) (some (9, false)) (.mv (.tmp 0)),
    .op (some 11) (some (9, false)) (.cmp .geq (.tmp 10) (.const (.int .u8 97))),
    .op (some 12) (some (9, false)) (.mv (.tmp 11)),
    .op (some 13) (some (12, true)) (.mv (.tmp 0)),
    .op (some 14) (some (12, true)) (.cmp .leq (.tmp 13) (.const (.int .u8 122))),
    .op (some 15) (some (9, false)) (.pick (.tmp 12) (.tmp 14) (.const (.bool false))),
    .op (some 16) none (.pick (.tmp 9) (.const (.bool true)) (.tmp 15)),
    .op (some 17) none (.mv (.tmp 16)),
    .op (some 18) (some (17, false)) (.mv (.tmp 0)),
    .op (some 19) (some (17, false)) (.eql false false [.int] (.tmp 18) (.const (.int .u8 95))),
    .op (some 20) none (.pick (.tmp 17) (.const (.bool true)) (.tmp 19)),
    .op (some 2) none (.mv (.tmp 20))])
  (.keep [2] [] (.ret))))
def rs_r23_isLetter : List CRes := [.tmp 2]
def im_r23_isLetter : List Nat := []
theorem ok_r23_isLetter : FnOk Tryz.prog f_r23_isLetter im_r23_isLetter cc_r23_isLetter rs_r23_isLetter 21 := fnOk1 mixed (by kernel_rfl)
/-- corpora/corporaref23.isDigit [uint8] -> [bool] -/
def cc_r23_isDigit : CC :=
  .seq (.reg [
    .op (some 2) none (.mv (.const (.bool false)))])
  (.keep [0] [] (.seq (.reg [
    .op (some 3) none (.mv (.tmp 0)),
    .op (some 4) none (.cmp .geq (.tmp 3) (.const (.int .u8 48))),
    .op (some 5) none (.mv (.tmp 4)),
    .op (some 6) (some (5, true)) (.mv (.tmp 0)),
    .op (some 7) (some (5, true)) (.cmp .leq (.tmp 6) (.const (.int .u8 57))),
    .op (some 8) none (.pick (.tmp 5) (.tmp 7) (.const (.bool false))),
    .op (some 2) none (.mv (.tmp 8))])
  (.keep [2] [] (.ret))))
def rs_r23_isDigit : List CRes := [.tmp 2]
def im_r23_isDigit : List Nat := []
theorem ok_r23_isDigit : FnOk Tryz.prog f_r23_isDigit im_r23_isDigit cc_r23_isDigit rs_r23_isDigit 9 := fnOk1 mixed (by kernel_rfl)
/-- corpora/corporaref23.signs [] -> [L_string] -/
def cc_r23_signs : CC :=
  .seq (.reg [
    .op (some 0) none (.mv (.const (.slice none 0 0)))])
  (.keep [] [] (.seq (.reg [
    .op (some 1) none (.bslice ty_string 1 [(.const (.string ⟨#[60, 47]⟩)), (.const (.string ⟨#[33, 61]⟩)), (.const (.string ⟨#[58, 58]⟩)), (.const (.string ⟨#[37, 99]⟩)), (.const (.string ⟨#[91]⟩)), (.const (.string ⟨#[93]⟩)), (.const (.string ⟨#[40]⟩)), (.const (.string ⟨#[41]⟩)), (.const (.string ⟨#[123]⟩)), (.const (.string ⟨#[125]⟩)), (.const (.string ⟨#[60]⟩)), (.const (.string ⟨#[62]⟩)), (.const (.string ⟨#[124]⟩)), (.const (.string ⟨#[38]⟩)), (.const (.string ⟨#[33]⟩)), (.const (.string ⟨#[61]⟩)), (.const (.string ⟨#[58]⟩)), (.const (.string ⟨#[46]⟩)), (.const (.string ⟨#[44]⟩)), (.const (.string ⟨#[63]⟩)), (.const (.string ⟨#[42]⟩)), (.const (.string ⟨#[43]⟩)), (.const (.string ⟨#[45]⟩))]),
    .op (some 0) none (.mv (.tmp 1))])
  (.keep [0] [] (.ret))))
def rs_r23_signs : List CRes := [.tmp 0]
def im_r23_signs : List Nat := []
theorem ok_r23_signs : FnOk Tryz.prog f_r23_signs im_r23_signs cc_r23_signs rs_r23_signs 2 := fnOk1 mixed (by kernel_rfl)
-- r23_scan while id=0: live [0:s, 3:out, 4:i] changed [3, 4] res [83, 121, 147, 200]
-- r23_scan while id=0: live [0:s, 3:out, 4:i] changed [4] res [83, 121, 147, 200]
-- r23_scan while id=0: live [0:s, 3:out, 4:i, 5:j] changed [5] res [83, 121, 147, 200]
-- r23_scan while id=0: live [0:s, 3:out, 4:i, 5:j] changed [5] res [83, 121, 147, 200]
-- r23_scan while id=0: live [0:s, 3:out, 4:i, 5:j, 6:v, 7:closed] changed [5, 6, 7] res [83, 121, 147, 200]
-- r23_scan range i=40 n=39 c=41 i2=66 id=5: live [0:s, 3:out, 4:i, 5:j, 38:] changed [5] res [83, 121, 147, 200]
/-- corpora/corporaref23.scan [string] -> [L_corporaref23_token] -/
def cc_r23_scan : CC :=
  .seq (.reg [
    .op (some 2) none (.mv (.const (.slice none 0 0)))])
  (.keep [0] [] (.seq (.reg [
    .op (some 3) none (.mv (.const (.slice none 0 0)))])
  (.keep [0, 3] [83, 121, 147, 200] (.seq (.reg [
    .op (some 4) none (.mv (.const (.int .i64 0)))])
  (.keep [0, 3, 4] [83, 121, 147, 200] (.block 0 (.loop 1 (.block 1 (seqM 3 (.block 2 (.loop 2 (.seq /- 4 -/ (.seq (.reg [
              .op (some 10) none (.mv (.tmp 4)),
              .op (some 11) none (.mv (.tmp 0)),
              .op (some 12) none (.slen (.tmp 11)),
              .op (some 13) none (.cmp .lss (.tmp 10) (.tmp 12)),
              .op (some 14) none (.mv (.tmp 13)),
              .op (some 15) (some (14, true)) (.mv (.tmp 0)),
              .op (some 16) (some (14, true)) (.mv (.tmp 4)),
              .op (some 17) (some (14, true)) (.sidx (.tmp 15) (.tmp 16)),
              .op (some 18) (some (14, true)) (.eql false false [.int] (.tmp 17) (.const (.int .u8 32))),
              .op (some 19) (some (14, true)) (.mv (.tmp 18)),
              .op (some 20) (some (19, false)) (.mv (.tmp 0)),
              .op (some 21) (some (19, false)) (.mv (.tmp 4)),
              .op (some 22) (some (19, false)) (.sidx (.tmp 20) (.tmp 21)),
              .op (some 23) (some (19, false)) (.eql false false [.int] (.tmp 22) (.const (.int .u8 10))),
              .op (some 24) (some (14, true)) (.pick (.tmp 19) (.const (.bool true)) (.tmp 23)),
              .op (some 25) none (.pick (.tmp 14) (.tmp 24) (.const (.bool false)))])
            (.keep [0, 3, 4, 25] [83, 121, 147, 200] (.ite (.tmp 25) (.skip)
              (.exit 2))))
            (.keep [0, 3, 4] [83, 121, 147, 200] (.block 3 (.reg [
                .op (some 26) none (.mv (.tmp 4)),
                .op (some 27) none (.arith .add (.tmp 26) (.const (.int .i64 1))),
                .op (some 4) none (.mv (.tmp 27))]))))))
        (.keep [0, 3, 4] [83, 121, 147, 200] (.seq /- 6 -/ (.seq (.reg [
          .op (some 28) none (.mv (.tmp 4)),
          .op (some 29) none (.mv (.tmp 0)),
          .op (some 30) none (.slen (.tmp 29)),
          .op (some 31) none (.eql false false [.int] (.tmp 28) (.tmp 30))])
        (.keep [0, 3, 4, 31] [83, 121, 147, 200] (.ite (.tmp 31) (.seq (.reg [
            .op (some 32) none (.mv (.tmp 3)),
            .op (some 33) none (.mv (.tmp 4)),
            .op (some 34) none (.build [(.int .u8 0), (.string ⟨#[]⟩), (.int .i64 0)] [(0, 1, (.const (.int .u8 101))), (1, 1, (.const (.string ⟨#[]⟩))), (2, 1, (.tmp 33))]),
            .op (some 35) none (.bslice ty_corporaref23_token 3 [(.tmp 34)]),
            .op (some 36) none (.append (some 200) ty_corporaref23_token 3 32 (.tmp 32) (.tmp 35)),
            .op (some 2) none (.mv (.tmp 36))])
          (.keep [2] [36, 74, 83, 121, 147, 192, 200] (.ret)))
          (.skip))))
        (.keep [0, 3, 4] [83, 121, 147, 200] (.seq (.reg [
          .op (some 37) none (.mv (.tmp 4)),
          .op (some 5) none (.mv (.tmp 37))])
        (.keep [0, 3, 4, 5] [83, 121, 147, 200] (seqM 10 (.block 4 (.seq (.reg [
            .op (some 85) none (.mv (.tmp 0)),
            .op (some 86) none (.mv (.tmp 4)),
            .op (some 87) none (.sidx (.tmp 85) (.tmp 86)),
            .op (some 88) none (.call f_r23_isLetter [(.tmp 87)]),
            .op (some 84) none (.mv (.tmp 88))])
          (.keep [0, 3, 4, 5, 84] [83, 121, 147, 200] (.ite (.tmp 84) (.seq /- 12 -/ (.block 7 (.loop 3 (.seq /- 13 -/ (.seq (.reg [
                  .op (some 89) none (.mv (.tmp 5)),
                  .op (some 90) none (.mv (.tmp 0)),
                  .op (some 91) none (.slen (.tmp 90)),
                  .op (some 92) none (.cmp .lss (.tmp 89) (.tmp 91)),
                  .op (some 93) none (.mv (.tmp 92)),
                  .op (some 94) (some (93, true)) (.mv (.tmp 0)),
                  .op (some 95) (some (93, true)) (.mv (.tmp 5)),
                  .op (some 96) (some (93, true)) (.sidx (.tmp 94) (.tmp 95)),
                  .op (some 97) (some (93, true)) (.call f_r23_isLetter [(.tmp 96)]),
                  .op (some 98) (some (93, true)) (.mv (.tmp 97)),
                  .op (some 99) (some (98, false)) (.mv (.tmp 0)),
                  .op (some 100) (some (98, false)) (.mv (.tmp 5)),
                  .op (some 101) (some (98, false)) (.sidx (.tmp 99) (.tmp 100)),
                  .op (some 102) (some (98, false)) (.call f_r23_isDigit [(.tmp 101)]),
                  .op (some 103) (some (93, true)) (.pick (.tmp 98) (.const (.bool true)) (.tmp 102)),
                  .op (some 104) (some (93, true)) (.mv (.tmp 103)),
                  .op (some 105) (some (104, false)) (.mv (.tmp 0)),
                  .op (some 106) (some (104, false)) (.mv (.tmp 5)),
                  .op (some 107) (some (104, false)) (.sidx (.tmp 105) (.tmp 106)),
                  .op (some 108) (some (104, false)) (.eql false false [.int] (.tmp 107) (.const (.int .u8 45))),
                  .op (some 109) (some (93, true)) (.pick (.tmp 104) (.const (.bool true)) (.tmp 108)),
                  .op (some 110) none (.pick (.tmp 93) (.tmp 109) (.const (.bool false)))])
                (.keep [0, 3, 4, 5, 110] [83, 121, 147, 200] (.ite (.tmp 110) (.skip)
                  (.exit 7))))
                (.keep [0, 3, 4, 5] [83, 121, 147, 200] (.block 8 (.reg [
                    .op (some 111) none (.mv (.tmp 5)),
                    .op (some 112) none (.arith .add (.tmp 111) (.const (.int .i64 1))),
                    .op (some 5) none (.mv (.tmp 112))]))))))
            (.keep [0, 3, 4, 5] [83, 121, 147, 200] (.reg [
              .op (some 113) none (.mv (.tmp 3)),
              .op (some 114) none (.mv (.tmp 0)),
              .op (some 115) none (.mv (.tmp 4)),
              .op (some 116) none (.mv (.tmp 5)),
              .op (some 117) none (.sslice (.tmp 114) (some (.tmp 115)) (some (.tmp 116))),
              .op (some 118) none (.mv (.tmp 4)),
              .op (some 119) none (.build [(.int .u8 0), (.string ⟨#[]⟩), (.int .i64 0)] [(0, 1, (.const (.int .u8 110))), (1, 1, (.tmp 117)), (2, 1, (.tmp 118))]),
              .op (some 120) none (.bslice ty_corporaref23_token 3 [(.tmp 119)]),
              .op (some 121) none (.append (some 200) ty_corporaref23_token 3 32 (.tmp 113) (.tmp 120)),
              .op (some 3) none (.mv (.tmp 121))])))
            (.seq (.reg [
              .op (some 123) none (.mv (.tmp 0)),
              .op (some 124) none (.mv (.tmp 4)),
              .op (some 125) none (.sidx (.tmp 123) (.tmp 124)),
              .op (some 126) none (.call f_r23_isDigit [(.tmp 125)]),
              .op (some 122) none (.mv (.tmp 126))])
            (.keep [0, 3, 4, 5, 122] [83, 121, 147, 200] (.ite (.tmp 122) (.seq /- 16 -/ (.block 9 (.loop 4 (.seq /- 17 -/ (.seq (.reg [
                    .op (some 127) none (.mv (.tmp 5)),
                    .op (some 128) none (.mv (.tmp 0)),
                    .op (some 129) none (.slen (.tmp 128)),
                    .op (some 130) none (.cmp .lss (.tmp 127) (.tmp 129)),
                    .op (some 131) none (.mv (.tmp 130)),
                    .op (some 132) (some (131, true)) (.mv (.tmp 0)),
                    .op (some 133) (some (131, true)) (.mv (.tmp 5)),
                    .op (some 134) (some (131, true)) (.sidx (.tmp 132) (.tmp 133)),
                    .op (some 135) (some (131, true)) (.call f_r23_isDigit [(.tmp 134)]),
                    .op (some 136) none (.pick (.tmp 131) (.tmp 135) (.const (.bool false)))])
                  (.keep [0, 3, 4, 5, 136] [83, 121, 147, 200] (.ite (.tmp 136) (.skip)
                    (.exit 9))))
                  (.keep [0, 3, 4, 5] [83, 121, 147, 200] (.block 10 (.reg [
                      .op (some 137) none (.mv (.tmp 5)),
                      .op (some 138) none (.arith .add (.tmp 137) (.const (.int .i64 1))),
                      .op (some 5) none (.mv (.tmp 138))]))))))
              (.keep [0, 3, 4, 5] [83, 121, 147, 200] (.reg [
                .op (some 139) none (.mv (.tmp 3)),
                .op (some 140) none (.mv (.tmp 0)),
                .op (some 141) none (.mv (.tmp 4)),
                .op (some 142) none (.mv (.tmp 5)),
                .op (some 143) none (.sslice (.tmp 140) (some (.tmp 141)) (some (.tmp 142))),
                .op (some 144) none (.mv (.tmp 4)),
                .op (some 145) none (.build [(.int .u8 0), (.string ⟨#[]⟩), (.int .i64 0)] [(0, 1, (.const (.int .u8 100))), (1, 1, (.tmp 143)), (2, 1, (.tmp 144))]),
                .op (some 146) none (.bslice ty_corporaref23_token 3 [(.tmp 145)]),
                .op (some 147) none (.append (some 200) ty_corporaref23_token 3 32 (.tmp 139) (.tmp 146)),
                .op (some 3) none (.mv (.tmp 147))])))
              (.seq (.reg [
                .op (some 149) none (.mv (.tmp 0)),
                .op (some 150) none (.mv (.tmp 4)),
                .op (some 151) none (.sidx (.tmp 149) (.tmp 150)),
                .op (some 152) none (.eql false false [.int] (.tmp 151) (.const (.int .u8 34))),
                .op (some 148) none (.mv (.tmp 152))])
              (.keep [0, 3, 4, 5, 148] [83, 121, 147, 200] (.ite (.tmp 148) (.seq (.reg [
                  .op (some 6) none (.mv (.const (.string ⟨#[]⟩))),
                  .op (some 7) none (.mv (.const (.bool false)))])
                (.keep [0, 3, 4, 6, 7] [83, 121, 147, 200] (.seq /- 21 -/ (.seq (.reg [
                  .op (some 153) none (.mv (.tmp 4)),
                  .op (some 154) none (.arith .add (.tmp 153) (.const (.int .i64 1))),
                  .op (some 5) none (.mv (.tmp 154))])
                (.keep [0, 3, 4, 5, 6, 7] [83, 121, 147, 200] (.block 11 (.loop 5 (.seq /- 23 -/ (.seq (.reg [
                      .op (some 155) none (.mv (.tmp 5)),
                      .op (some 156) none (.mv (.tmp 0)),
                      .op (some 157) none (.slen (.tmp 156)),
                      .op (some 158) none (.cmp .lss (.tmp 155) (.tmp 157))])
                    (.keep [0, 3, 4, 5, 6, 7, 158] [83, 121, 147, 200] (.ite (.tmp 158) (.skip)
                      (.exit 11))))
                    (.keep [0, 3, 4, 5, 6, 7] [83, 121, 147, 200] (.seq /- 25 -/ (.block 12 (.seq /- 26 -/ (.seq (.reg [
                        .op (some 161) none (.mv (.tmp 0)),
                        .op (some 162) none (.mv (.tmp 5)),
                        .op (some 163) none (.sidx (.tmp 161) (.tmp 162)),
                        .op (some 164) none (.eql false false [.int] (.tmp 163) (.const (.int .u8 34)))])
                      (.keep [0, 3, 4, 5, 6, 7, 164] [83, 121, 147, 200] (.ite (.tmp 164) (.seq (.reg [
                          .op (some 165) none (.mv (.tmp 5)),
                          .op (some 166) none (.arith .add (.tmp 165) (.const (.int .i64 1))),
                          .op (some 167) none (.mv (.tmp 0)),
                          .op (some 168) none (.slen (.tmp 167)),
                          .op (some 169) none (.cmp .lss (.tmp 166) (.tmp 168)),
                          .op (some 170) none (.mv (.tmp 169)),
                          .op (some 171) (some (170, true)) (.mv (.tmp 0)),
                          .op (some 172) (some (170, true)) (.mv (.tmp 5)),
                          .op (some 173) (some (170, true)) (.arith .add (.tmp 172) (.const (.int .i64 1))),
                          .op (some 174) (some (170, true)) (.sidx (.tmp 171) (.tmp 173)),
                          .op (some 175) (some (170, true)) (.eql false false [.int] (.tmp 174) (.const (.int .u8 34))),
                          .op (some 176) none (.pick (.tmp 170) (.tmp 175) (.const (.bool false)))])
                        (.keep [0, 3, 4, 5, 6, 7, 176] [83, 121, 147, 200] (.ite (.tmp 176) (.reg [
                            .op (some 177) none (.mv (.tmp 5)),
                            .op (some 178) none (.arith .add (.tmp 177) (.const (.int .i64 1))),
                            .op (some 5) none (.mv (.tmp 178))])
                          (.seq (.reg [
                            .op (some 7) none (.mv (.const (.bool true)))])
                          (.keep [0, 3, 4, 5, 6, 7] [83, 121, 147, 200] (.exit 11))))))
                        (.skip))))
                      (.keep [0, 3, 4, 5, 6, 7] [83, 121, 147, 200] (.reg [
                        .op (some 179) none (.mv (.tmp 6)),
                        .op (some 180) none (.mv (.tmp 0)),
                        .op (some 181) none (.mv (.tmp 5)),
                        .op (some 182) none (.mv (.tmp 5)),
                        .op (some 183) none (.arith .add (.tmp 182) (.const (.int .i64 1))),
                        .op (some 184) none (.sslice (.tmp 180) (some (.tmp 181)) (some (.tmp 183))),
                        .op (some 185) none (.scat (.tmp 179) (.tmp 184)),
                        .op (some 6) none (.mv (.tmp 185))]))))
                    (.keep [0, 3, 4, 5, 6, 7] [83, 121, 147, 200] (.reg [
                      .op (some 159) none (.mv (.tmp 5)),
                      .op (some 160) none (.arith .add (.tmp 159) (.const (.int .i64 1))),
                      .op (some 5) none (.mv (.tmp 160))])))))))))
                (.keep [0, 3, 4, 5, 6, 7] [83, 121, 147, 200] (.seq /- 30 -/ (.seq (.reg [
                  .op (some 186) none (.mv (.tmp 7)),
                  .op (some 187) none (.not (.tmp 186))])
                (.keep [0, 3, 4, 5, 6, 187] [83, 121, 147, 200] (.ite (.tmp 187) (.seq (.reg [
                    .op (some 188) none (.mv (.tmp 3)),
                    .op (some 189) none (.mv (.tmp 4)),
                    .op (some 190) none (.build [(.int .u8 0), (.string ⟨#[]⟩), (.int .i64 0)] [(0, 1, (.const (.int .u8 120))), (1, 1, (.const (.string ⟨#[]⟩))), (2, 1, (.tmp 189))]),
                    .op (some 191) none (.bslice ty_corporaref23_token 3 [(.tmp 190)]),
                    .op (some 192) none (.append (some 200) ty_corporaref23_token 3 32 (.tmp 188) (.tmp 191)),
                    .op (some 2) none (.mv (.tmp 192))])
                  (.keep [2] [36, 74, 83, 121, 147, 192, 200] (.ret)))
                  (.skip))))
                (.keep [0, 3, 4, 5, 6] [83, 121, 147, 200] (.seq (.reg [
                  .op (some 193) none (.mv (.tmp 5)),
                  .op (some 194) none (.arith .add (.tmp 193) (.const (.int .i64 1))),
                  .op (some 5) none (.mv (.tmp 194))])
                (.keep [0, 3, 4, 5, 6] [83, 121, 147, 200] (.reg [
                  .op (some 195) none (.mv (.tmp 3)),
                  .op (some 196) none (.mv (.tmp 6)),
                  .op (some 197) none (.mv (.tmp 4)),
                  .op (some 198) none (.build [(.int .u8 0), (.string ⟨#[]⟩), (.int .i64 0)] [(0, 1, (.const (.int .u8 115))), (1, 1, (.tmp 196)), (2, 1, (.tmp 197))]),
                  .op (some 199) none (.bslice ty_corporaref23_token 3 [(.tmp 198)]),
                  .op (some 200) none (.append (some 200) ty_corporaref23_token 3 32 (.tmp 195) (.tmp 199)),
                  .op (some 3) none (.mv (.tmp 200))])))))))))
                (.seq /- 34 -/ (.seq (.reg [
                  .op (some 38) none (.call f_r23_signs []),
                  .op (some 39) none (.len (.tmp 38)),
                  .op (some 40) none (.mv (.const (.int .i64 0)))])
                (.keep [0, 3, 4, 5, 38, 39, 40] [83, 121, 147, 200] (rangeCC 5 40 39 41 6 (.seq (.reg [
                    .op (some 42) none (.iaddr 1 (.tmp 38) (.tmp 40)),
                    .op (some 43) none (.load false 1 (.tmp 42)),
                    .op (some 9) none (.mv (.tmp 43))])
                  (.keep [0, 3, 4, 5, 9, 38, 39, 40] [83, 121, 147, 200] (.seq (.reg [
                    .op (some 44) none (.mv (.tmp 0)),
                    .op (some 45) none (.slen (.tmp 44)),
                    .op (some 46) none (.mv (.tmp 4)),
                    .op (some 47) none (.arith .sub (.tmp 45) (.tmp 46)),
                    .op (some 48) none (.mv (.tmp 9)),
                    .op (some 49) none (.slen (.tmp 48)),
                    .op (some 50) none (.cmp .geq (.tmp 47) (.tmp 49)),
                    .op (some 51) none (.mv (.tmp 50)),
                    .op (some 52) (some (51, true)) (.mv (.tmp 0)),
                    .op (some 53) (some (51, true)) (.mv (.tmp 4)),
                    .op (some 54) (some (51, true)) (.mv (.tmp 4)),
                    .op (some 55) (some (51, true)) (.mv (.tmp 9)),
                    .op (some 56) (some (51, true)) (.slen (.tmp 55)),
                    .op (some 57) (some (51, true)) (.arith .add (.tmp 54) (.tmp 56)),
                    .op (some 58) (some (51, true)) (.sslice (.tmp 52) (some (.tmp 53)) (some (.tmp 57))),
                    .op (some 59) (some (51, true)) (.mv (.tmp 9)),
                    .op (some 60) (some (51, true)) (.eql false false [.str] (.tmp 58) (.tmp 59)),
                    .op (some 61) none (.pick (.tmp 51) (.tmp 60) (.const (.bool false)))])
                  (.keep [0, 3, 4, 5, 9, 38, 39, 40, 61] [83, 121, 147, 200] (.ite (.tmp 61) (.seq (.reg [
                      .op (some 62) none (.mv (.tmp 4)),
                      .op (some 63) none (.mv (.tmp 9)),
                      .op (some 64) none (.slen (.tmp 63)),
                      .op (some 65) none (.arith .add (.tmp 62) (.tmp 64)),
                      .op (some 5) none (.mv (.tmp 65))])
                    (.keep [0, 3, 4, 5] [83, 121, 147, 200] (.exit 5)))
                    (.skip)))))) 66)))
                (.keep [0, 3, 4, 5] [83, 121, 147, 200] (.seq /- 39 -/ (.seq (.reg [
                  .op (some 67) none (.mv (.tmp 5)),
                  .op (some 68) none (.mv (.tmp 4)),
                  .op (some 69) none (.eql false false [.int] (.tmp 67) (.tmp 68))])
                (.keep [0, 3, 4, 5, 69] [83, 121, 147, 200] (.ite (.tmp 69) (.seq (.reg [
                    .op (some 70) none (.mv (.tmp 3)),
                    .op (some 71) none (.mv (.tmp 4)),
                    .op (some 72) none (.build [(.int .u8 0), (.string ⟨#[]⟩), (.int .i64 0)] [(0, 1, (.const (.int .u8 120))), (1, 1, (.const (.string ⟨#[]⟩))), (2, 1, (.tmp 71))]),
                    .op (some 73) none (.bslice ty_corporaref23_token 3 [(.tmp 72)]),
                    .op (some 74) none (.append (some 200) ty_corporaref23_token 3 32 (.tmp 70) (.tmp 73)),
                    .op (some 2) none (.mv (.tmp 74))])
                  (.keep [2] [36, 74, 83, 121, 147, 192, 200] (.ret)))
                  (.skip))))
                (.keep [0, 3, 4, 5] [83, 121, 147, 200] (.reg [
                  .op (some 75) none (.mv (.tmp 3)),
                  .op (some 76) none (.mv (.tmp 0)),
                  .op (some 77) none (.mv (.tmp 4)),
                  .op (some 78) none (.mv (.tmp 5)),
                  .op (some 79) none (.sslice (.tmp 76) (some (.tmp 77)) (some (.tmp 78))),
                  .op (some 80) none (.mv (.tmp 4)),
                  .op (some 81) none (.build [(.int .u8 0), (.string ⟨#[]⟩), (.int .i64 0)] [(0, 1, (.const (.int .u8 111))), (1, 1, (.tmp 79)), (2, 1, (.tmp 80))]),
                  .op (some 82) none (.bslice ty_corporaref23_token 3 [(.tmp 81)]),
                  .op (some 83) none (.append (some 200) ty_corporaref23_token 3 32 (.tmp 75) (.tmp 82)),
                  .op (some 3) none (.mv (.tmp 83))])))))))))))))))
        (.keep [0, 3, 5] [83, 121, 147, 200] (.reg [
          .op (some 201) none (.mv (.tmp 5)),
          .op (some 4) none (.mv (.tmp 201))])))))))))))))))))
def rs_r23_scan : List CRes := [.tmp 2]
def im_r23_scan : List Nat := [1036200, 1074200, 1083200, 1121200, 1147200, 1192200, 1200200]
theorem ok_r23_scan : FnOk Tryz.prog f_r23_scan im_r23_scan cc_r23_scan rs_r23_scan 202 := fnOk1 mixed (by kernel_rfl)
-- r23_parser_word while id=0: live [0:p, 1:l, 7:i] changed [7] res [0]
/-- (*corpora/corporaref23.parser).word [P_corporaref23_parser, L_string, int] -> [int] -/
def cc_r23_parser_word : CC :=
  .seq (.reg [
    .op (some 6) none (.mv (.const (.int .i64 0)))])
  (.keep [0, 1, 2] [0] (.seq /- 1 -/ (.seq (.reg [
    .op (some 8) none (.mv (.tmp 2)),
    .op (some 7) none (.mv (.tmp 8))])
  (.keep [0, 1, 7] [0] (.block 0 (.loop 1 (.seq /- 3 -/ (.seq (.reg [
        .op (some 9) none (.mv (.tmp 7)),
        .op (some 10) none (.mv (.tmp 1)),
        .op (some 11) none (.len (.tmp 10)),
        .op (some 12) none (.cmp .lss (.tmp 9) (.tmp 11))])
      (.keep [0, 1, 7, 12] [0] (.ite (.tmp 12) (.skip)
        (.exit 0))))
      (.keep [0, 1, 7] [0] (.seq /- 5 -/ (.block 1 (.seq (.reg [
          .op (some 15) none (.mv (.tmp 0)),
          .op (some 16) none (.mv (.tmp 1)),
          .op (some 17) none (.mv (.tmp 7)),
          .op (some 18) none (.iaddr 1 (.tmp 16) (.tmp 17)),
          .op (some 19) none (.load false 1 (.tmp 18)),
          .op (some 20) none (.call f_r23_parser_is [(.tmp 15), (.const (.int .u8 110)), (.tmp 19)])])
        (.keep [0, 1, 7, 20] [0] (.ite (.tmp 20) (.seq (.reg [
            .op (some 21) none (.mv (.tmp 7)),
            .op (some 6) none (.mv (.tmp 21))])
          (.keep [6] [0] (.ret)))
          (.skip)))))
      (.keep [0, 1, 7] [0] (.reg [
        .op (some 13) none (.mv (.tmp 7)),
        .op (some 14) none (.arith .add (.tmp 13) (.const (.int .i64 1))),
        .op (some 7) none (.mv (.tmp 14))])))))))))
  (.keep [] [0] (.seq (.reg [
    .op (some 6) none (.mv (.const (.int .i64 (-1))))])
  (.keep [6] [0] (.ret))))))
def rs_r23_parser_word : List CRes := [.tmp 6]
def im_r23_parser_word : List Nat := []
theorem ok_r23_parser_word : FnOk Tryz.prog f_r23_parser_word im_r23_parser_word cc_r23_parser_word rs_r23_parser_word 22 := fnOk1 mixed (by kernel_rfl)
/-- corpora/corporaref23.filters [] -> [L_string] -/
def cc_r23_filters : CC :=
  .seq (.reg [
    .op (some 0) none (.mv (.const (.slice none 0 0)))])
  (.keep [] [] (.seq (.reg [
    .op (some 1) none (.bslice ty_string 1 [(.const (.string ⟨#[]⟩)), (.const (.string ⟨#[119, 105, 116, 104, 105, 110]⟩)), (.const (.string ⟨#[99, 111, 110, 116, 97, 105, 110, 105, 110, 103]⟩)), (.const (.string ⟨#[111, 118, 101, 114, 108, 97, 112, 112, 105, 110, 103]⟩))]),
    .op (some 0) none (.mv (.tmp 1))])
  (.keep [0] [] (.ret))))
def rs_r23_filters : List CRes := [.tmp 0]
def im_r23_filters : List Nat := []
theorem ok_r23_filters : FnOk Tryz.prog f_r23_filters im_r23_filters cc_r23_filters rs_r23_filters 2 := fnOk1 mixed (by kernel_rfl)
-- r23_Parse while id=0: live [2:, 5:p, 6:q] changed [] res [2, 6, 16, 55]
/-- corpora/corporaref23.Parse [string] -> [Query, int, Errno] -/
def cc_r23_Parse : CC :=
  .seq (.reg [
    .op (some 2) none (.alloc ty_Query [(.int .i64 0), (.int .i64 0), (.string ⟨#[]⟩), (.string ⟨#[]⟩), (.string ⟨#[]⟩), (.string ⟨#[]⟩), (.bool false), (.slice none 0 0), (.string ⟨#[]⟩), (.string ⟨#[]⟩), (.int .i64 0), (.int .i64 0), (.slice none 0 0), (.int .i64 0), (.string ⟨#[]⟩), (.string ⟨#[]⟩), (.string ⟨#[]⟩), (.string ⟨#[]⟩), (.string ⟨#[]⟩), (.bool false), (.int .i64 0), (.int .i64 0), (.slice none 0 0), (.slice none 0 0), (.slice none 0 0), (.int .i64 0)]),
    .op (some 3) none (.mv (.const (.int .i64 0))),
    .op (some 4) none (.mv (.const (.int .i64 0)))])
  (.keep [0, 2] [2, 16, 55] (.seq /- 1 -/ (.seq (.reg [
    .op (some 9) none (.mv (.tmp 0)),
    .op (some 10) none (.slen (.tmp 9)),
    .op (some 11) none (.cmp .gtr (.tmp 10) (.const (.int .i64 400)))])
  (.keep [0, 2, 11] [2, 16, 55] (.ite (.tmp 11) (.seq (.reg [
      .op (some 12) none (.build [(.int .i64 0), (.int .i64 0), (.string ⟨#[]⟩), (.string ⟨#[]⟩), (.string ⟨#[]⟩), (.string ⟨#[]⟩), (.bool false), (.slice none 0 0), (.string ⟨#[]⟩), (.string ⟨#[]⟩), (.int .i64 0), (.int .i64 0), (.slice none 0 0), (.int .i64 0), (.string ⟨#[]⟩), (.string ⟨#[]⟩), (.string ⟨#[]⟩), (.string ⟨#[]⟩), (.string ⟨#[]⟩), (.bool false), (.int .i64 0), (.int .i64 0), (.slice none 0 0), (.slice none 0 0), (.slice none 0 0), (.int .i64 0)] []),
      .op none none (.store (some 2) 26 (.tmp 2) (.tmp 12)),
      .op (some 3) none (.mv (.const (.int .i64 0))),
      .op (some 4) none (.mv (.const (.int .i64 2)))])
    (.keep [2, 3, 4] [2, 16, 55] (.ret)))
    (.skip))))
  (.keep [0, 2] [2, 16, 55] (.seq (.reg [
    .op (some 13) none (.mv (.tmp 0)),
    .op (some 14) none (.call f_r23_scan [(.tmp 13)]),
    .op (some 15) none (.build [(.slice none 0 0), (.int .i64 0), (.int .i64 0), (.int .i64 0), (.int .i64 0)] [(0, 1, (.tmp 14))]),
    .op (some 16) none (.box ty_corporaref23_parser false (.tmp 15)),
    .op (some 5) none (.mv (.tmp 16))])
  (.keep [2, 5] [2, 16, 55] (.seq (.reg [
    .op (some 17) none (.mv (.tmp 5)),
    .op (some 18) none (.call f_r23_parser_alt [(.tmp 17)]),
    .op (some 19) none (.build [(.int .i64 0), (.int .i64 0), (.string ⟨#[]⟩), (.string ⟨#[]⟩), (.string ⟨#[]⟩), (.string ⟨#[]⟩), (.bool false), (.slice none 0 0), (.string ⟨#[]⟩), (.string ⟨#[]⟩), (.int .i64 0), (.int .i64 0), (.slice none 0 0), (.int .i64 0), (.string ⟨#[]⟩), (.string ⟨#[]⟩), (.string ⟨#[]⟩), (.string ⟨#[]⟩), (.string ⟨#[]⟩), (.bool false), (.int .i64 0), (.int .i64 0), (.slice none 0 0), (.slice none 0 0), (.slice none 0 0), (.int .i64 0)] [(0, 13, (.tmp 18))]),
    .op (some 6) none (.alloc ty_Query [(.int .i64 0), (.int .i64 0), (.string ⟨#[]⟩), (.string ⟨#[]⟩), (.string ⟨#[]⟩), (.string ⟨#[]⟩), (.bool false), (.slice none 0 0), (.string ⟨#[]⟩), (.string ⟨#[]⟩), (.int .i64 0), (.int .i64 0), (.slice none 0 0), (.int .i64 0), (.string ⟨#[]⟩), (.string ⟨#[]⟩), (.string ⟨#[]⟩), (.string ⟨#[]⟩), (.string ⟨#[]⟩), (.bool false), (.int .i64 0), (.int .i64 0), (.slice none 0 0), (.slice none 0 0), (.slice none 0 0), (.int .i64 0)]),
    .op none none (.store none 26 (.tmp 6) (.tmp 19))])
  (.keep [2, 5, 6] [2, 6, 16, 55] (.seq /- 6 -/ (.seq (.reg [
    .op (some 20) none (.mv (.tmp 5)),
    .op (some 21) none (.call f_r23_parser_eat [(.tmp 20), (.const (.string ⟨#[58, 58]⟩))])])
  (.keep [2, 5, 6, 21] [2, 6, 16, 55] (.ite (.tmp 21) (.reg [
      .op (some 22) none (.mv (.tmp 5)),
      .op (some 23) none (.call f_r23_parser_gor [(.tmp 22)]),
      .op (some 24) none (.faddr 13 (.tmp 6)),
      .op none none (.store none 11 (.tmp 24) (.tmp 23))])
    (.skip))))
  (.keep [2, 5, 6] [2, 6, 16, 55] (seqM 8 (.block 0 (.loop 1 (.seq /- 9 -/ (.seq (.reg [
        .op (some 25) none (.mv (.tmp 5)),
        .op (some 26) none (.nilck (.tmp 25)),
        .op (some 27) none (.faddr 3 (.tmp 26)),
        .op (some 28) none (.load false 1 (.tmp 27)),
        .op (some 29) none (.eql false false [.int] (.tmp 28) (.const (.int .i64 0)))])
      (.keep [2, 5, 6, 29] [2, 6, 16, 55] (.ite (.tmp 29) (.skip)
        (.exit 0))))
      (.keep [2, 5, 6] [2, 6, 16, 55] (.block 1 (.seq (.reg [
          .op (some 30) none (.mv (.tmp 5)),
          .op (some 31) none (.call f_r23_parser_eat [(.tmp 30), (.const (.string ⟨#[33]⟩))]),
          .op (some 7) none (.mv (.tmp 31))])
        (.keep [2, 5, 6, 7] [2, 6, 16, 55] (.seq (.reg [
          .op (some 32) none (.mv (.tmp 5)),
          .op (some 33) none (.call f_r23_filters []),
          .op (some 34) none (.call f_r23_parser_word [(.tmp 32), (.tmp 33), (.const (.int .i64 1))]),
          .op (some 8) none (.mv (.tmp 34))])
        (.keep [2, 5, 6, 7, 8] [2, 6, 16, 55] (.seq /- 13 -/ (.seq (.reg [
          .op (some 35) none (.mv (.tmp 8)),
          .op (some 36) none (.eql false false [.int] (.tmp 35) (.const (.int .i64 (-1))))])
        (.keep [2, 5, 6, 7, 8, 36] [2, 6, 16, 55] (.ite (.tmp 36) (.seq /- 15 -/ (.seq (.reg [
            .op (some 37) none (.mv (.tmp 7))])
          (.keep [2, 5, 6, 37] [2, 6, 16, 55] (.ite (.tmp 37) (.reg [
              .op (some 38) none (.mv (.tmp 5)),
              .op (some 39) none (.call f_r23_parser_wrong [(.tmp 38)])])
            (.skip))))
          (.keep [2, 5, 6] [2, 6, 16, 55] (.exit 0)))
          (.skip))))
        (.keep [2, 5, 6, 7, 8] [2, 6, 16, 55] (.seq (.reg [
          .op (some 40) none (.mv (.tmp 5)),
          .op (some 41) none (.nilck (.tmp 40)),
          .op (some 42) none (.faddr 1 (.tmp 41)),
          .op (some 43) none (.load false 1 (.tmp 42)),
          .op (some 44) none (.arith .add (.tmp 43) (.const (.int .i64 1))),
          .op (some 45) none (.nilck (.tmp 40)),
          .op (some 46) none (.faddr 1 (.tmp 45)),
          .op none none (.store none 1 (.tmp 46) (.tmp 44))])
        (.keep [2, 5, 6, 7, 8] [2, 6, 16, 55] (.regd [
          .op (some 47) none (.faddr 24 (.tmp 6)),
          .op (some 48) none (.load false 1 (.tmp 47)),
          .op (some 49) none (.mv (.tmp 8)),
          .op (some 50) none (.mv (.tmp 7)),
          .op (some 51) none (.mv (.tmp 5)),
          .op (some 52) none (.call f_r23_parser_want [(.tmp 51), (.const (.int .u8 110)), (.const (.string ⟨#[]⟩))]),
          .op (some 53) none (.build [(.int .i64 0), (.bool false), (.string ⟨#[]⟩)] [(0, 1, (.tmp 49)), (1, 1, (.tmp 50)), (2, 1, (.tmp 52))]),
          .op (some 54) none (.bslice ty_Filter 3 [(.tmp 53)])] [
          .op (some 55) none (.append none ty_Filter 3 32 (.tmp 48) (.tmp 54)),
          .op (some 56) none (.faddr 24 (.tmp 6)),
          .op none none (.store (some 6) 1 (.tmp 56) (.tmp 55))]))))))))))))))
  (.keep [2, 5, 6] [2, 6, 16, 55] (seqM 18 (.seq (.reg [
    .op (some 57) none (.mv (.tmp 5)),
    .op (some 58) none (.call f_r23_parser_is [(.tmp 57), (.const (.int .u8 110)), (.const (.string ⟨#[115, 116, 114, 97, 116, 101, 103, 121]⟩))])])
  (.keep [2, 5, 6, 58] [2, 6, 16, 55] (.ite (.tmp 58) (.seq (.reg [
      .op (some 59) none (.mv (.tmp 5)),
      .op (some 60) none (.nilck (.tmp 59)),
      .op (some 61) none (.faddr 1 (.tmp 60)),
      .op (some 62) none (.load false 1 (.tmp 61)),
      .op (some 63) none (.arith .add (.tmp 62) (.const (.int .i64 1))),
      .op (some 64) none (.nilck (.tmp 59)),
      .op (some 65) none (.faddr 1 (.tmp 64)),
      .op none none (.store none 1 (.tmp 65) (.tmp 63))])
    (.keep [2, 5, 6] [2, 6, 16, 55] (.seq (.reg [
      .op (some 66) none (.mv (.tmp 5)),
      .op (some 67) none (.call f_r23_strategies []),
      .op (some 68) none (.call f_r23_parser_word [(.tmp 66), (.tmp 67), (.const (.int .i64 0))]),
      .op (some 69) none (.faddr 25 (.tmp 6)),
      .op none none (.store none 1 (.tmp 69) (.tmp 68))])
    (.keep [2, 5, 6] [2, 6, 16, 55] (.seq (.reg [
      .op (some 70) none (.faddr 25 (.tmp 6)),
      .op (some 71) none (.load false 1 (.tmp 70)),
      .op (some 72) none (.eql false false [.int] (.tmp 71) (.const (.int .i64 (-1))))])
    (.keep [2, 5, 6, 72] [2, 6, 16, 55] (.ite (.tmp 72) (.reg [
        .op (some 73) none (.mv (.tmp 5)),
        .op (some 74) none (.call f_r23_parser_wrong [(.tmp 73)])])
      (.reg [
        .op (some 75) none (.mv (.tmp 5)),
        .op (some 76) none (.nilck (.tmp 75)),
        .op (some 77) none (.faddr 1 (.tmp 76)),
        .op (some 78) none (.load false 1 (.tmp 77)),
        .op (some 79) none (.arith .add (.tmp 78) (.const (.int .i64 1))),
        .op (some 80) none (.nilck (.tmp 75)),
        .op (some 81) none (.faddr 1 (.tmp 80)),
        .op none none (.store none 1 (.tmp 81) (.tmp 79))]))))))))
    (.skip))))
  (.keep [2, 5, 6] [2, 6, 16, 55] (seqM 23 (.seq (.reg [
    .op (some 82) none (.mv (.tmp 5)),
    .op (some 83) none (.nilck (.tmp 82)),
    .op (some 84) none (.faddr 3 (.tmp 83)),
    .op (some 85) none (.load false 1 (.tmp 84)),
    .op (some 86) none (.eql false false [.int] (.tmp 85) (.const (.int .i64 0))),
    .op (some 87) none (.mv (.tmp 86)),
    .op (some 88) (some (87, true)) (.mv (.tmp 5)),
    .op (some 89) (some (87, true)) (.call f_r23_parser_now [(.tmp 88)]),
    .op (some 90) (some (87, true)) (.fld false 1 0 (.tmp 89)),
    .op (some 91) (some (87, true)) (.eql true false [.int] (.tmp 90) (.const (.int .u8 101))),
    .op (some 92) none (.pick (.tmp 87) (.tmp 91) (.const (.bool false)))])
  (.keep [2, 5, 6, 92] [2, 6, 16, 55] (.ite (.tmp 92) (.reg [
      .op (some 93) none (.mv (.tmp 5)),
      .op (some 94) none (.call f_r23_parser_wrong [(.tmp 93)])])
    (.skip))))
  (.keep [2, 5, 6] [2, 6, 16, 55] (.seq /- 25 -/ (.seq (.reg [
    .op (some 95) none (.mv (.tmp 5)),
    .op (some 96) none (.nilck (.tmp 95)),
    .op (some 97) none (.faddr 3 (.tmp 96)),
    .op (some 98) none (.load false 1 (.tmp 97)),
    .op (some 99) none (.eql true false [.int] (.tmp 98) (.const (.int .i64 0)))])
  (.keep [2, 5, 6, 99] [2, 6, 16, 55] (.ite (.tmp 99) (.seq (.regd [
      .op (some 100) none (.build [(.int .i64 0), (.int .i64 0), (.string ⟨#[]⟩), (.string ⟨#[]⟩), (.string ⟨#[]⟩), (.string ⟨#[]⟩), (.bool false), (.slice none 0 0), (.string ⟨#[]⟩), (.string ⟨#[]⟩), (.int .i64 0), (.int .i64 0), (.slice none 0 0), (.int .i64 0), (.string ⟨#[]⟩), (.string ⟨#[]⟩), (.string ⟨#[]⟩), (.string ⟨#[]⟩), (.string ⟨#[]⟩), (.bool false), (.int .i64 0), (.int .i64 0), (.slice none 0 0), (.slice none 0 0), (.slice none 0 0), (.int .i64 0)] []),
      .op (some 101) none (.mv (.tmp 5)),
      .op (some 102) none (.nilck (.tmp 101)),
      .op (some 103) none (.faddr 4 (.tmp 102)),
      .op (some 104) none (.load false 1 (.tmp 103)),
      .op (some 105) none (.mv (.tmp 5)),
      .op (some 106) none (.nilck (.tmp 105)),
      .op (some 107) none (.faddr 3 (.tmp 106)),
      .op (some 108) none (.load false 1 (.tmp 107)),
      .op none none (.store (some 2) 26 (.tmp 2) (.tmp 100)),
      .op (some 3) none (.mv (.tmp 104))] [
      .op (some 4) none (.mv (.tmp 108))])
    (.keep [2, 3, 4] [2, 16, 55] (.ret)))
    (.skip))))
  (.keep [2, 6] [2, 6, 16, 55] (.seq (.reg [
    .op (some 109) none (.load true 26 (.tmp 6)),
    .op none none (.store (some 2) 26 (.tmp 2) (.tmp 109)),
    .op (some 3) none (.mv (.const (.int .i64 0))),
    .op (some 4) none (.mv (.const (.int .i64 0)))])
  (.keep [2, 3, 4] [2, 16, 55] (.ret))))))))))))))))))))
def rs_r23_Parse : List CRes := [.cell 2 true 26, .tmp 3, .tmp 4]
def im_r23_Parse : List Nat := [2056006, 2002002]
theorem ok_r23_Parse : FnOk Tryz.prog f_r23_Parse im_r23_Parse cc_r23_Parse rs_r23_Parse 110 := fnOk1 mixed (by kernel_rfl)
/-- corpora/corporalaw31.known [] -> [bool] -/
def cc_law31_known : CC :=
  .seq (.reg [
    .op (some 0) none (.mv (.const (.bool false)))])
  (.keep [] [] (.seq (.reg [
    .op (some 5) none (.call f_r23_Parse [(.const (.string ⟨#[40, 34, 97, 34, 32, 34, 98, 34, 41, 123, 50, 125, 32, 34, 99, 34]⟩))]),
    .op (some 4) none (.mv (.tmp 5)),
    .op (some 6) none (.ext (.tmp 4) 0),
    .op (some 7) none (.ext (.tmp 4) 1),
    .op (some 8) none (.ext (.tmp 4) 2),
    .op (some 1) none (.alloc ty_Query [(.int .i64 0), (.int .i64 0), (.string ⟨#[]⟩), (.string ⟨#[]⟩), (.string ⟨#[]⟩), (.string ⟨#[]⟩), (.bool false), (.slice none 0 0), (.string ⟨#[]⟩), (.string ⟨#[]⟩), (.int .i64 0), (.int .i64 0), (.slice none 0 0), (.int .i64 0), (.string ⟨#[]⟩), (.string ⟨#[]⟩), (.string ⟨#[]⟩), (.string ⟨#[]⟩), (.string ⟨#[]⟩), (.bool false), (.int .i64 0), (.int .i64 0), (.slice none 0 0), (.slice none 0 0), (.slice none 0 0), (.int .i64 0)]),
    .op none none (.store none 26 (.tmp 1) (.tmp 6)),
    .op (some 2) none (.mv (.tmp 7)),
    .op (some 3) none (.mv (.tmp 8))])
  (.keep [1, 3] [1] (.seq (.reg [
    .op (some 9) none (.mv (.tmp 3)),
    .op (some 10) none (.eql false false [.int] (.tmp 9) (.const (.int .i64 0))),
    .op (some 11) none (.mv (.tmp 10)),
    .op (some 12) (some (11, true)) (.faddr 0 (.tmp 1)),
    .op (some 13) (some (11, true)) (.load true 13 (.tmp 12)),
    .op (some 14) (some (11, true)) (.call f_estimate_Fixed [(.tmp 13)]),
    .op (some 15) (some (11, true)) (.build [(.int .i64 0), (.int .i64 0)] [(0, 1, (.const (.int .i64 0))), (1, 1, (.const (.int .i64 0)))]),
    .op (some 16) (some (11, true)) (.build [(.int .i64 0), (.int .i64 0)] [(0, 1, (.const (.int .i64 0))), (1, 1, (.const (.int .i64 2)))]),
    .op (some 17) (some (11, true)) (.build [(.int .i64 0), (.int .i64 0)] [(0, 1, (.const (.int .i64 1))), (1, 1, (.const (.int .i64 1)))]),
    .op (some 18) (some (11, true)) (.build [(.int .i64 0), (.int .i64 0)] [(0, 1, (.const (.int .i64 1))), (1, 1, (.const (.int .i64 3)))]),
    .op (some 19) (some (11, true)) (.build [(.int .i64 0), (.int .i64 0)] [(0, 1, (.const (.int .i64 2))), (1, 1, (.const (.int .i64 4)))]),
    .op (some 20) (some (11, true)) (.bslice ty_Source 2 [(.tmp 15), (.tmp 16), (.tmp 17), (.tmp 18), (.tmp 19)]),
    .op (some 21) (some (11, true)) (.call f_r31_Same [(.tmp 14), (.tmp 20)]),
    .op (some 22) none (.pick (.tmp 11) (.tmp 21) (.const (.bool false))),
    .op (some 0) none (.mv (.tmp 22))])
  (.keep [0] [] (.ret))))))
def rs_law31_known : List CRes := [.tmp 0]
def im_law31_known : List Nat := []
theorem ok_law31_known : FnOk Tryz.prog f_law31_known im_law31_known cc_law31_known rs_law31_known 23 := fnOk1 mixed (by kernel_rfl)

end Go.Gv

namespace Go.Gv
set_option linter.unusedSimpArgs false
set_option linter.unusedVariables false
set_option linter.unusedSectionVars false
open Cod (enc dec)
section
variable {Y Z : Type}
def psB : BoxF Pst := boxD cePst
/-- A method of the parser: what it asks, how its result is written, what it says. -/
def psC (A : Arg Z) (er : Y → D) (pre : Pst → Z → Prop) (post : Pst → Z → Pst → Y → Prop) : Spc := bpC psB A er pre post
def psX (er : Y → D) (pre : Pst → Z → Prop) (post : Pst → Z → Pst → Y → Prop) (id b : Nat) (r : Option Res) (o : Option Z) (H : HMap) (K : D → HMap → Prop) : Prop :=
  ∃ x, r = some (.box b (cePst x)) ∧ optX o fun z => pre x z ∧ ∀ x' y, post x z x' y → K (er y) (updH H id (some (.box b (cePst x'))))
@[congr] theorem psX_cg {er : Y → D} {pre : Pst → Z → Prop} {post : Pst → Z → Pst → Y → Prop} {id b : Nat} {r r' : Option Res} {o o' : Option Z} {H : HMap} {K : D → HMap → Prop} (h1 : r = r') (h2 : o = o') : psX er pre post id b r o H K = psX er pre post id b r' o' H K := by subst h1; subst h2; rfl
theorem cePst_inj {x y : Pst} (h : cePst x = cePst y) : x = y := by
  obtain ⟨l, a, d, e, f⟩ := x
  obtain ⟨l', a', d', e', f'⟩ := y
  simp only [cePst, List.cons.injEq] at h
  obtain ⟨h1, h2, h3, h4, h5, _⟩ := h
  have h1 := enc_inj h1
  have h2 := enc_inj h2
  have h3 := enc_inj h3
  have h4 := enc_inj h4
  have h5 := enc_inj h5
  subst h1; subst h2; subst h3; subst h4; subst h5
  rfl
@[simp] theorem psC_pt (A : Arg Z) (er : Y → D) (pre : Pst → Z → Prop) (post : Pst → Z → Pst → Y → Prop) (d i b : Nat) (ds : List D) (H : HMap) (K : D → HMap → Prop) : (psC A er pre post).pt d (.bptr i b 0 :: ds) H K = psX er pre post i b (H i) (A.dec ds) H K := by
  refine propext ⟨fun h => ?_, fun h => ?_⟩
  · obtain ⟨id, b', x, z, ds', h1, h2, h3, h4, h5, h6, h7⟩ := h
    cases h1
    refine ⟨x, h3, ?_⟩
    rw [h2]
    exact ⟨h6, h7⟩
  · obtain ⟨x, h1, h2⟩ := h
    cases hz : A.dec ds with
    | none => rw [hz] at h2; exact h2.elim
    | some z => rw [hz] at h2; exact ⟨i, b, x, z, ds, rfl, hz, h1, fun p hp => by simp [psB, boxD] at hp, by simp [psB, boxD], h2.1, h2.2⟩
@[simp] theorem psX_r (er : Y → D) (pre : Pst → Z → Prop) (post : Pst → Z → Pst → Y → Prop) (id b : Nat) (l : List Tok) (p dp e f : Int) (o : Option Z) (H : HMap) (K : D → HMap → Prop) :
    psX er pre post id b (some (.box b [.list 3 (l.map enc), .v (.int .i64 p), .v (.int .i64 dp), .v (.int .i64 e), .v (.int .i64 f)])) o H K = optX o fun z => pre ⟨l, p, dp, e, f⟩ z ∧ ∀ x' y, post ⟨l, p, dp, e, f⟩ z x' y → K (er y) (updH H id (some (.box b (cePst x')))) := by
  refine propext ⟨fun ⟨x, h1, h2⟩ => ?_, fun h => ⟨⟨l, p, dp, e, f⟩, rfl, h⟩⟩
  have e1 : cePst ⟨l, p, dp, e, f⟩ = cePst x := by
    have := Option.some.inj h1
    exact (Res.box.inj this).2
  have := cePst_inj e1
  subst this
  exact h2
/-- What is to be shown at a method's end. -/
def FinPS (er : Y → D) (b : Nat) (post : Pst → Y → Prop) (r : D) (H : HMap) : Prop := FinBP psB er b post r H
theorem finPS {er : Y → D} {b : Nat} {post : Pst → Y → Prop} {r : D} {H : HMap} (x : Pst) (y : Y) (hr : FrzTo (fun i => if i = 0 then none else H i) r (er y)) (h0 : H 0 = some (.box b (cePst x))) (hq : post x y) : FinPS er b post r H :=
  ⟨x, y, by simpa [psB, boxD] using hr, h0, fun p hp => by simp [psB, boxD] at hp, hq⟩
def WalkPS (cc : CC) (rs : List CRes) (S : Nat → Spc) (A : Arg Z) (er : Y → D) (pre : Pst → Z → Prop) (post : Pst → Z → Pst → Y → Prop) : Prop :=
  ∀ b x z, pre x z → vc S cc (retK rs fun r H' => FinPS er b (post x z) r H') (initS (.bptr 0 b 0 :: A.view z)) (updH noH 0 (some (.box b (cePst x))))
variable {P : Program} {S : Nat → Spc} {f : Nat} {im : List Nat} {cc : CC} {rs : List CRes} {N : Nat}
theorem tri_walkPS {A : Arg Z} {er : Y → D} {pre : Pst → Z → Prop} {post : Pst → Z → Pst → Y → Prop} (hS : ∀ f, Tri P f (S f).pt) (h : FnOk P f im cc rs N) (hN : ∀ z, (A.view z).length + 1 ≤ N) (hw : WalkPS cc rs S A er pre post) : Tri P f (psC A er pre post).pt :=
  tri_walkBP (by simp [psB, boxD]) hS h hN fun b x z hp => hw b x z hp
end
section
variable {Y Z : Type}
/-- The contract of a method that computes F. -/
def psF (A : Arg Z) (er : Y → D) (F : Pst → Z → Option (Pst × Y)) : Spc := psC A er (fun s z => ∃ r, F s z = some r) (fun s z s' y => F s z = some (s', y))
def psFX (er : Y → D) (F : Pst → Z → Option (Pst × Y)) (id b : Nat) (r : Option Res) (o : Option Z) (H : HMap) (K : D → HMap → Prop) : Prop :=
  ∃ x, r = some (.box b (cePst x)) ∧ optX o fun z => optX (F x z) fun q => K (er q.2) (updH H id (some (.box b (cePst q.1))))
@[congr] theorem psFX_cg {er : Y → D} {F : Pst → Z → Option (Pst × Y)} {id b : Nat} {r r' : Option Res} {o o' : Option Z} {H : HMap} {K : D → HMap → Prop} (h1 : r = r') (h2 : o = o') : psFX er F id b r o H K = psFX er F id b r' o' H K := by subst h1; subst h2; rfl
theorem optF {F : Option (Pst × Y)} {k : Pst → Y → Prop} : ((∃ r, F = some r) ∧ ∀ x' y, F = some (x', y) → k x' y) = optX F fun q => k q.1 q.2 := by
  cases F with
  | none =>
    refine propext (Iff.intro (fun h => ?_) (fun h => ?_))
    · obtain ⟨⟨r, h⟩, _⟩ := h
      cases h
    · exact False.elim h
  | some r =>
    refine propext (Iff.intro (fun h => h.2 _ _ rfl) (fun h => ⟨⟨_, rfl⟩, fun x' y e => ?_⟩))
    cases e
    exact h
@[simp] theorem psF_pt (A : Arg Z) (er : Y → D) (F : Pst → Z → Option (Pst × Y)) (d i b : Nat) (ds : List D) (H : HMap) (K : D → HMap → Prop) : (psF A er F).pt d (.bptr i b 0 :: ds) H K = psFX er F i b (H i) (A.dec ds) H K := by
  unfold psF psFX
  rw [psC_pt]
  unfold psX
  refine propext (exists_congr fun x => and_congr_right fun _ => ?_)
  cases A.dec ds with
  | none => exact Iff.rfl
  | some z => exact iff_of_eq optF
@[simp] theorem psFX_r (er : Y → D) (F : Pst → Z → Option (Pst × Y)) (id b : Nat) (l : List Tok) (p dp e f : Int) (o : Option Z) (H : HMap) (K : D → HMap → Prop) :
    psFX er F id b (some (.box b [.list 3 (l.map enc), .v (.int .i64 p), .v (.int .i64 dp), .v (.int .i64 e), .v (.int .i64 f)])) o H K = optX o fun z => optX (F ⟨l, p, dp, e, f⟩ z) fun q => K (er q.2) (updH H id (some (.box b (cePst q.1)))) := by
  refine propext ⟨fun ⟨x, h1, h2⟩ => ?_, fun h => ⟨⟨l, p, dp, e, f⟩, rfl, h⟩⟩
  have e1 : cePst ⟨l, p, dp, e, f⟩ = cePst x := by
    have := Option.some.inj h1
    exact (Res.box.inj this).2
  have := cePst_inj e1
  subst this
  exact h2
variable {P : Program} {S : Nat → Spc} {f : Nat} {im : List Nat} {cc : CC} {rs : List CRes} {N : Nat}
theorem tri_walkPSF {A : Arg Z} {er : Y → D} {F : Pst → Z → Option (Pst × Y)} (hS : ∀ f, Tri P f (S f).pt) (h : FnOk P f im cc rs N) (hN : ∀ z, (A.view z).length + 1 ≤ N)
    (hw : WalkPS cc rs S A er (fun s z => ∃ r, F s z = some r) (fun s z s' y => F s z = some (s', y))) : Tri P f (psF A er F).pt := tri_walkPS hS h hN hw
end
end Go.Gv
