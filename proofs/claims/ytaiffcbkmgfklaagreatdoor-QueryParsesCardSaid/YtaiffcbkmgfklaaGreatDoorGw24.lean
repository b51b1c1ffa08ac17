/- A part of the framework and of the walks: C6 W94 C12. -/
import Derived.Test.YtaiffcbkmgfklaaGreatDoorGw12
import Derived.Test.YtaiffcbkmgfklaaGreatDoorGw23
import Derived.Test.YtaiffcbkmgfklaaGreatDoorGw14
import Derived.Test.YtaiffcbkmgfklaaGreatDoorGw20
set_option linter.unusedSimpArgs false
set_option linter.unusedVariables false
set_option maxRecDepth 100000

namespace Go.Gv
open Go.Proofs
def cc_r23_isLetter : CC := oX [oB 2 (.mv (.const ob))] [0] [] (oX [oA 3 0,oB 4 (.cmp .geq (oT 3) (.const (.int .u8 65))),oA 5 4,oH 6 5 (.mv (oT 0)),oH 7 5 (.cmp .leq (oT 6) (.const (.int .u8 90))),oB 8 (.pick (oT 5) (oT 7) (.const ob)),oA 9 8,oI 10 9 (.mv (oT 0)),oI 11 9 (.cmp .geq (oT 10) (.const (.int .u8 97))),oI 12 9 (.mv (oT 11)),oH 13 12 (.mv (oT 0)),
 oH 14 12 (.cmp .leq (oT 13) (.const (.int .u8 122))),oI 15 9 (.pick (oT 12) (oT 14) (.const ob)),oB 16 (.pick (oT 9) (.const (.bool true)) (oT 15)),oA 17 16,oI 18 17 (.mv (oT 0)),oI 19 17 (.eql false false [.int] (oT 18) (.const (.int .u8 95))),oB 20 (.pick (oT 17) (.const (.bool true)) (oT 19)),oA 2 20] [2] [] (.ret))
def rs_r23_isLetter : List CRes := [.tmp 2]
def im_r23_isLetter : List Nat := []
theorem ok_r23_isLetter : FnOk Tryz.prog f_r23_isLetter im_r23_isLetter cc_r23_isLetter rs_r23_isLetter 21 := fnOk1 mixed (by kernel_rfl)
def cc_r23_isDigit : CC := oX [oB 2 (.mv (.const ob))] [0] [] (oX [oA 3 0,oB 4 (.cmp .geq (oT 3) (.const (.int .u8 48))),oA 5 4,oH 6 5 (.mv (oT 0)),oH 7 5 (.cmp .leq (oT 6) (.const (.int .u8 57))),oB 8 (.pick (oT 5) (oT 7) (.const ob)),oA 2 8] [2] [] (.ret))
def rs_r23_isDigit : List CRes := [.tmp 2]
def im_r23_isDigit : List Nat := []
theorem ok_r23_isDigit : FnOk Tryz.prog f_r23_isDigit im_r23_isDigit cc_r23_isDigit rs_r23_isDigit 9 := fnOk1 mixed (by kernel_rfl)
def cc_r23_signs : CC := oX [oB 0 (.mv (.const on))] [] [] (oX [oB 1 (.bslice ty_string 1 [oS ⟨#[60,47]⟩,oS ⟨#[33,61]⟩,oS ⟨#[58,58]⟩,oS ⟨#[37,99]⟩,oS ⟨#[91]⟩,oS ⟨#[93]⟩,oS ⟨#[40]⟩,oS ⟨#[41]⟩,oS ⟨#[123]⟩,oS ⟨#[125]⟩,oS ⟨#[60]⟩,oS ⟨#[62]⟩,oS ⟨#[124]⟩,oS ⟨#[38]⟩,oS ⟨#[33]⟩,oS ⟨#[61]⟩,oS ⟨#[58]⟩,oS ⟨#[46]⟩,oS ⟨#[44]⟩,oS ⟨#[63]⟩,oS ⟨#[42]⟩,oS ⟨#[43]⟩,oS ⟨#[45]⟩]),oA 0 1] [0] [] (.ret))
def rs_r23_signs : List CRes := [.tmp 0]
def im_r23_signs : List Nat := []
theorem ok_r23_signs : FnOk Tryz.prog f_r23_signs im_r23_signs cc_r23_signs rs_r23_signs 2 := fnOk1 mixed (by kernel_rfl)
-- r23_scan while id=0: live [0:s, 3:out, 4:i] changed [3, 4] res [83, 121, 147, 200]
-- r23_scan while id=0: live [0:s, 3:out, 4:i] changed [4] res [83, 121, 147, 200]
-- r23_scan while id=0: live [0:s, 3:out, 4:i, 5:j] changed [5] res [83, 121, 147, 200]
-- r23_scan while id=0: live [0:s, 3:out, 4:i, 5:j] changed [5] res [83, 121, 147, 200]
-- r23_scan while id=0: live [0:s, 3:out, 4:i, 5:j, 6:v, 7:closed] changed [5, 6, 7] res [83, 121, 147, 200]
-- r23_scan range i=40 n=39 c=41 i2=66 id=5: live [0:s, 3:out, 4:i, 5:j, 38:] changed [5] res [83, 121, 147, 200]
def cc_r23_scan : CC := oX [oB 2 (.mv (.const on))] [0] [] (oX [oB 3 (.mv (.const on))] [0,3] [83,121,147,200] (oX [oB 4 (.mv (oN 0))] [0,3,4] [83,121,147,200] (.block 0 (.loop 1 (.block 1 (seqM 3 (.block 2 (.loop 2 (.seq (oX [oA 10 4,oA 11 0,oB 12 (.slen (oT 11)),oB 13 (.cmp .lss (oT 10) (oT 12)),oA 14 13,oH 15 14 (.mv (oT 0)),oH 16 14 (.mv (oT 4)),oH 17 14 (.sidx (oT 15) (oT 16)),
 oH 18 14 (.eql false false [.int] (oT 17) (.const (.int .u8 32))),oH 19 14 (.mv (oT 18)),oI 20 19 (.mv (oT 0)),oI 21 19 (.mv (oT 4)),oI 22 19 (.sidx (oT 20) (oT 21)),oI 23 19 (.eql false false [.int] (oT 22) (.const (.int .u8 10))),oH 24 14 (.pick (oT 19) (.const (.bool true)) (oT 23)),oB 25 (.pick (oT 14) (oT 24) (.const ob))] [0,3,4,25] [83,121,147,200] (.ite (oT 25) (.skip) (.exit 2)))
 (.keep [0,3,4] [83,121,147,200] (.block 3 (.reg [oA 26 4,oB 27 (.arith .add (oT 26) (oN 1)),oA 4 27])))))) (.keep [0,3,4] [83,121,147,200] (.seq (oX [oA 28 4,oA 29 0,oB 30 (.slen (oT 29)),oB 31 (.eql false false [.int] (oT 28) (oT 30))] [0,3,4,31] [83,121,147,200] (.ite (oT 31) (oX [oA 32 3,oA 33 4,
 oB 34 (.build [.int .u8 0,oe,oi] [(0,1,.const (.int .u8 101)),(1,1,oS ⟨#[]⟩),(2,1,oT 33)]),oB 35 (.bslice ty_corporaref23_token 3 [oT 34]),oB 36 (.append (some 200) ty_corporaref23_token 3 32 (oT 32) (oT 35)),oA 2 36] [2] [36,74,83,121,147,192,200] (.ret)) (.skip))) (.keep [0,3,4] [83,121,147,200] (oX [oA 37 4,oA 5 37] [0,3,4,5] [83,121,147,200] (seqM 10 (.block 4 (oX [oA 85 0,oA 86 4,
 oB 87 (.sidx (oT 85) (oT 86)),oZ 88 f_r23_isLetter [oT 87],oA 84 88] [0,3,4,5,84] [83,121,147,200] (.ite (oT 84) (.seq (.block 7 (.loop 3 (.seq (oX [oA 89 5,oA 90 0,oB 91 (.slen (oT 90)),oB 92 (.cmp .lss (oT 89) (oT 91)),oA 93 92,oH 94 93 (.mv (oT 0)),oH 95 93 (.mv (oT 5)),oH 96 93 (.sidx (oT 94) (oT 95)),oH 97 93 (.call f_r23_isLetter [oT 96]),oH 98 93 (.mv (oT 97)),
 oI 99 98 (.mv (oT 0)),oI 100 98 (.mv (oT 5)),oI 101 98 (.sidx (oT 99) (oT 100)),oI 102 98 (.call f_r23_isDigit [oT 101]),oH 103 93 (.pick (oT 98) (.const (.bool true)) (oT 102)),oH 104 93 (.mv (oT 103)),oI 105 104 (.mv (oT 0)),oI 106 104 (.mv (oT 5)),oI 107 104 (.sidx (oT 105) (oT 106)),oI 108 104 (.eql false false [.int] (oT 107) (.const (.int .u8 45))),
 oH 109 93 (.pick (oT 104) (.const (.bool true)) (oT 108)),oB 110 (.pick (oT 93) (oT 109) (.const ob))] [0,3,4,5,110] [83,121,147,200] (.ite (oT 110) (.skip) (.exit 7))) (.keep [0,3,4,5] [83,121,147,200] (.block 8 (.reg [oA 111 5,oB 112 (.arith .add (oT 111) (oN 1)),oA 5 112])))))) (.keep [0,3,4,5] [83,121,147,200] (.reg [oA 113 3,oA 114 0,oA 115 4,oA 116 5,
 oB 117 (.sslice (oT 114) (some (oT 115)) (some (oT 116))),oA 118 4,oB 119 (.build [.int .u8 0,oe,oi] [(0,1,.const (.int .u8 110)),(1,1,oT 117),(2,1,oT 118)]),oB 120 (.bslice ty_corporaref23_token 3 [oT 119]),oB 121 (.append (some 200) ty_corporaref23_token 3 32 (oT 113) (oT 120)),oA 3 121]))) (oX [oA 123 0,oA 124 4,oB 125 (.sidx (oT 123) (oT 124)),oZ 126 f_r23_isDigit [oT 125],
 oA 122 126] [0,3,4,5,122] [83,121,147,200] (.ite (oT 122) (.seq (.block 9 (.loop 4 (.seq (oX [oA 127 5,oA 128 0,oB 129 (.slen (oT 128)),oB 130 (.cmp .lss (oT 127) (oT 129)),oA 131 130,oH 132 131 (.mv (oT 0)),oH 133 131 (.mv (oT 5)),oH 134 131 (.sidx (oT 132) (oT 133)),oH 135 131 (.call f_r23_isDigit [oT 134]),
 oB 136 (.pick (oT 131) (oT 135) (.const ob))] [0,3,4,5,136] [83,121,147,200] (.ite (oT 136) (.skip) (.exit 9))) (.keep [0,3,4,5] [83,121,147,200] (.block 10 (.reg [oA 137 5,oB 138 (.arith .add (oT 137) (oN 1)),oA 5 138])))))) (.keep [0,3,4,5] [83,121,147,200] (.reg [oA 139 3,oA 140 0,oA 141 4,oA 142 5,oB 143 (.sslice (oT 140) (some (oT 141)) (some (oT 142))),oA 144 4,
 oB 145 (.build [.int .u8 0,oe,oi] [(0,1,.const (.int .u8 100)),(1,1,oT 143),(2,1,oT 144)]),oB 146 (.bslice ty_corporaref23_token 3 [oT 145]),oB 147 (.append (some 200) ty_corporaref23_token 3 32 (oT 139) (oT 146)),oA 3 147]))) (oX [oA 149 0,oA 150 4,oB 151 (.sidx (oT 149) (oT 150)),oB 152 (.eql false false [.int] (oT 151) (.const (.int .u8 34))),
 oA 148 152] [0,3,4,5,148] [83,121,147,200] (.ite (oT 148) (oX [oB 6 (.mv (oS ⟨#[]⟩)),oB 7 (.mv (.const ob))] [0,3,4,6,7] [83,121,147,200] (.seq (oX [oA 153 4,oB 154 (.arith .add (oT 153) (oN 1)),oA 5 154] [0,3,4,5,6,7] [83,121,147,200] (.block 11 (.loop 5 (.seq (oX [oA 155 5,oA 156 0,oB 157 (.slen (oT 156)),
 oB 158 (.cmp .lss (oT 155) (oT 157))] [0,3,4,5,6,7,158] [83,121,147,200] (.ite (oT 158) (.skip) (.exit 11))) (.keep [0,3,4,5,6,7] [83,121,147,200] (.seq (.block 12 (.seq (oX [oA 161 0,oA 162 5,oB 163 (.sidx (oT 161) (oT 162)),oB 164 (.eql false false [.int] (oT 163) (.const (.int .u8 34)))] [0,3,4,5,6,7,164] [83,121,147,200] (.ite (oT 164) (oX [oA 165 5,oB 166 (.arith .add (oT 165) (oN 1)),
 oA 167 0,oB 168 (.slen (oT 167)),oB 169 (.cmp .lss (oT 166) (oT 168)),oA 170 169,oH 171 170 (.mv (oT 0)),oH 172 170 (.mv (oT 5)),oH 173 170 (.arith .add (oT 172) (oN 1)),oH 174 170 (.sidx (oT 171) (oT 173)),oH 175 170 (.eql false false [.int] (oT 174) (.const (.int .u8 34))),oB 176 (.pick (oT 170) (oT 175) (.const ob))] [0,3,4,5,6,7,176] [83,121,147,200] (.ite (oT 176) (.reg [oA 177 5,
 oB 178 (.arith .add (oT 177) (oN 1)),oA 5 178]) (oX [oB 7 (.mv (.const (.bool true)))] [0,3,4,5,6,7] [83,121,147,200] (.exit 11)))) (.skip))) (.keep [0,3,4,5,6,7] [83,121,147,200] (.reg [oA 179 6,oA 180 0,oA 181 5,oA 182 5,oB 183 (.arith .add (oT 182) (oN 1)),oB 184 (.sslice (oT 180) (some (oT 181)) (some (oT 183))),oB 185 (.scat (oT 179) (oT 184)),oA 6 185]))))
 (.keep [0,3,4,5,6,7] [83,121,147,200] (.reg [oA 159 5,oB 160 (.arith .add (oT 159) (oN 1)),oA 5 160])))))))) (.keep [0,3,4,5,6,7] [83,121,147,200] (.seq (oX [oA 186 7,oB 187 (.not (oT 186))] [0,3,4,5,6,187] [83,121,147,200] (.ite (oT 187) (oX [oA 188 3,oA 189 4,oB 190 (.build [.int .u8 0,oe,oi] [(0,1,.const (.int .u8 120)),(1,1,oS ⟨#[]⟩),(2,1,oT 189)]),
 oB 191 (.bslice ty_corporaref23_token 3 [oT 190]),oB 192 (.append (some 200) ty_corporaref23_token 3 32 (oT 188) (oT 191)),oA 2 192] [2] [36,74,83,121,147,192,200] (.ret)) (.skip))) (.keep [0,3,4,5,6] [83,121,147,200] (oX [oA 193 5,oB 194 (.arith .add (oT 193) (oN 1)),oA 5 194] [0,3,4,5,6] [83,121,147,200] (.reg [oA 195 3,oA 196 6,oA 197 4,
 oB 198 (.build [.int .u8 0,oe,oi] [(0,1,.const (.int .u8 115)),(1,1,oT 196),(2,1,oT 197)]),oB 199 (.bslice ty_corporaref23_token 3 [oT 198]),oB 200 (.append (some 200) ty_corporaref23_token 3 32 (oT 195) (oT 199)),oA 3 200]))))))) (.seq (oX [oZ 38 f_r23_signs [],oB 39 (.len (oT 38)),oB 40 (.mv (oN 0))] [0,3,4,5,38,39,40] [83,121,147,200] (rangeCC 5 40 39 41 6 (oX [
 oB 42 (.iaddr 1 (oT 38) (oT 40)),oC 43 1 42,oA 9 43] [0,3,4,5,9,38,39,40] [83,121,147,200] (oX [oA 44 0,oB 45 (.slen (oT 44)),oA 46 4,oB 47 (.arith .sub (oT 45) (oT 46)),oA 48 9,oB 49 (.slen (oT 48)),oB 50 (.cmp .geq (oT 47) (oT 49)),oA 51 50,oH 52 51 (.mv (oT 0)),oH 53 51 (.mv (oT 4)),oH 54 51 (.mv (oT 4)),oH 55 51 (.mv (oT 9)),oH 56 51 (.slen (oT 55)),
 oH 57 51 (.arith .add (oT 54) (oT 56)),oH 58 51 (.sslice (oT 52) (some (oT 53)) (some (oT 57))),oH 59 51 (.mv (oT 9)),oH 60 51 (.eql false false [.str] (oT 58) (oT 59)),oB 61 (.pick (oT 51) (oT 60) (.const ob))] [0,3,4,5,9,38,39,40,61] [83,121,147,200] (.ite (oT 61) (oX [oA 62 4,oA 63 9,oB 64 (.slen (oT 63)),oB 65 (.arith .add (oT 62) (oT 64)),
 oA 5 65] [0,3,4,5] [83,121,147,200] (.exit 5)) (.skip)))) 66)) (.keep [0,3,4,5] [83,121,147,200] (.seq (oX [oA 67 5,oA 68 4,oB 69 (.eql false false [.int] (oT 67) (oT 68))] [0,3,4,5,69] [83,121,147,200] (.ite (oT 69) (oX [oA 70 3,oA 71 4,oB 72 (.build [.int .u8 0,oe,oi] [(0,1,.const (.int .u8 120)),(1,1,oS ⟨#[]⟩),(2,1,oT 71)]),oB 73 (.bslice ty_corporaref23_token 3 [oT 72]),
 oB 74 (.append (some 200) ty_corporaref23_token 3 32 (oT 70) (oT 73)),oA 2 74] [2] [36,74,83,121,147,192,200] (.ret)) (.skip))) (.keep [0,3,4,5] [83,121,147,200] (.reg [oA 75 3,oA 76 0,oA 77 4,oA 78 5,oB 79 (.sslice (oT 76) (some (oT 77)) (some (oT 78))),oA 80 4,oB 81 (.build [.int .u8 0,oe,oi] [(0,1,.const (.int .u8 111)),(1,1,oT 79),(2,1,oT 80)]),
 oB 82 (.bslice ty_corporaref23_token 3 [oT 81]),oB 83 (.append (some 200) ty_corporaref23_token 3 32 (oT 75) (oT 82)),oA 3 83])))))))))))) (.keep [0,3,5] [83,121,147,200] (.reg [oA 201 5,oA 4 201])))))))))))))
def rs_r23_scan : List CRes := [.tmp 2]
def im_r23_scan : List Nat := [1036200, 1074200, 1083200, 1121200, 1147200, 1192200, 1200200]
theorem ok_r23_scan : FnOk Tryz.prog f_r23_scan im_r23_scan cc_r23_scan rs_r23_scan 202 := fnOk1 mixed (by kernel_rfl)
-- r23_parser_word while id=0: live [0:p, 1:l, 7:i] changed [7] res [0]
def cc_r23_parser_word : CC := oX [oB 6 (.mv (oN 0))] [0,1,2] [0] (.seq (oX [oA 8 2,oA 7 8] [0,1,7] [0] (.block 0 (.loop 1 (.seq (oX [oA 9 7,oA 10 1,oB 11 (.len (oT 10)),oB 12 (.cmp .lss (oT 9) (oT 11))] [0,1,7,12] [0] (.ite (oT 12) (.skip) (.exit 0))) (.keep [0,1,7] [0] (.seq (.block 1 (oX [oA 15 0,oA 16 1,oA 17 7,oB 18 (.iaddr 1 (oT 16) (oT 17)),oC 19 1 18,
 oZ 20 f_r23_parser_is [oT 15,.const (.int .u8 110),oT 19]] [0,1,7,20] [0] (.ite (oT 20) (oX [oA 21 7,oA 6 21] [6] [0] (.ret)) (.skip)))) (.keep [0,1,7] [0] (.reg [oA 13 7,oB 14 (.arith .add (oT 13) (oN 1)),oA 7 14])))))))) (.keep [] [0] (oX [oB 6 (.mv (oN (-1)))] [6] [0] (.ret))))
def rs_r23_parser_word : List CRes := [.tmp 6]
def im_r23_parser_word : List Nat := []
theorem ok_r23_parser_word : FnOk Tryz.prog f_r23_parser_word im_r23_parser_word cc_r23_parser_word rs_r23_parser_word 22 := fnOk1 mixed (by kernel_rfl)
def cc_r23_filters : CC := oX [oB 0 (.mv (.const on))] [] [] (oX [oB 1 (.bslice ty_string 1 [oS ⟨#[]⟩,oS ⟨#[119,105,116,104,105,110]⟩,oS ⟨#[99,111,110,116,97,105,110,105,110,103]⟩,oS ⟨#[111,118,101,114,108,97,112,112,105,110,103]⟩]),oA 0 1] [0] [] (.ret))
def rs_r23_filters : List CRes := [.tmp 0]
def im_r23_filters : List Nat := []
theorem ok_r23_filters : FnOk Tryz.prog f_r23_filters im_r23_filters cc_r23_filters rs_r23_filters 2 := fnOk1 mixed (by kernel_rfl)
def cc_r23_strategies : CC := oX [oB 0 (.mv (.const on))] [] [] (oX [oB 1 (.bslice ty_string 1 [oS ⟨#[101,97,99,104]⟩,oS ⟨#[115,104,111,114,116,101,115,116]⟩,oS ⟨#[108,111,110,103,101,115,116]⟩,oS ⟨#[116,114,97,100,105,116,105,111,110,97,108]⟩]),oA 0 1] [0] [] (.ret))
def rs_r23_strategies : List CRes := [.tmp 0]
def im_r23_strategies : List Nat := []
theorem ok_r23_strategies : FnOk Tryz.prog f_r23_strategies im_r23_strategies cc_r23_strategies rs_r23_strategies 2 := fnOk1 mixed (by kernel_rfl)
-- r23_Parse while id=0: live [2:, 5:p, 6:q] changed [] res [2, 6, 16, 55]
end Go.Gv

namespace Go.Gv
open Cod (enc dec)
variable {S S0 : Nat → Spc}
theorem finU {b : Nat} {post : Pst → Unit → Prop} {H : HMap} (s : Pst) (h0 : H 0 = some (.box b (cePst s))) (hq : post s ()) : FinPS er0 b post (.tup []) H := finPS s () (.same _) h0 hq
@[simp] abbrev F_error (s : Pst) (z : Int × Int) : Option (Pst × Unit) := some (errS s z.1 z.2, ())
abbrev s_error : Spc := psF (a2 Int Int) er0 F_error
theorem w_g_error : WalkPF cc_r23_parser_error rs_r23_parser_error S (a2 Int Int) er0 F_error := by
 rintro b s ⟨e, a⟩ -
 simp [cc_r23_parser_error, rs_r23_parser_error]
 refine ⟨fun h => finU { s with e := e, fail := a } (by simp) ?_, fun h => finU s (by simp) ?_⟩
 ·simp [errS, h]
 ·simp [errS, h]
@[simp] abbrev F_wrong (s : Pst) (_ : Unit) : Option (Pst × Unit) := (wrongG s).map fun x => (x, ())
abbrev s_wrong23 : Spc := psF a0 er0 F_wrong
theorem w_g_wrong (h1 : S f_r23_parser_now = s_now) (h2 : S f_r23_parser_error = s_error) : WalkPF cc_r23_parser_wrong rs_r23_parser_wrong S a0 er0 F_wrong := by
 rintro b s ⟨⟩ ⟨r, hr⟩
 obtain ⟨x, hx, rfl⟩ := Option.map_eq_some_iff.1 hr
 unfold wrongG at hx
 obtain ⟨t, ht, rfl⟩ := Option.map_eq_some_iff.1 hx
 simp [cc_r23_parser_wrong, rs_r23_parser_wrong, h1, h2, ht]
 exact finU (errS s 3 t.pos) (by simp) (by simp [wrongG, ht])
@[simp] abbrev F_gwant (s : Pst) (z : U8 × B) : Option (Pst × B) := wantG s z.1.val z.2
abbrev s_gwant : Spc := psF (a2 U8 B) (enc (X := B)) F_gwant
theorem w_g_want (h1 : S f_r23_parser_now = s_now) (h2 : S f_r23_parser_wrong = s_wrong23) : WalkPF cc_r23_parser_want rs_r23_parser_want S (a2 U8 B) (enc (X := B)) F_gwant := by
 rintro b s ⟨⟨k⟩, t⟩ ⟨r, hr⟩
 have hr0 := hr
 simp only [F_gwant, wantG] at hr
 obtain ⟨x, hx, hr⟩ := Option.bind_eq_some_iff.1 hr
 have hrg := nowT_rng hx
 have e0 : ∀ s' y, F_gwant s ⟨⟨k⟩, t⟩ = some (s', y) ↔ r = (s', y) := fun s' y => by rw [hr0]; exact ⟨fun h => Option.some.inj h, fun h => by rw [h]⟩
 by_cases he : s.e = 0
 ·rw [if_neg (by simp [he])] at hr
  by_cases hk : x.kind ≠ k ∨ k = 111 ∧ x.text ≠ t
  ·rw [if_pos hk] at hr
   have hw : wrongG s = some (errS s 3 x.pos) := by rw [wrongG, hx]; rfl
   simp [cc_r23_parser_want, rs_r23_parser_want, h1, h2, he, eta0 he, hx, hw, InR]
   clear h1 h2
   try intro b7
   have fin : ∀ H : HMap, H 0 = some (.box b (cePst (errS s 3 x.pos))) → FinPS enc b (fun s' y => F_gwant s ⟨⟨k⟩, t⟩ = some (s', y)) (.v (.string ⟨#[]⟩)) H := fun H h => finS _ h ((e0 _ _).2 (Option.some.inj hr).symm)
   refine ⟨fun a1 => ⟨fun a2 => ⟨fun _ => fin _ (by simp), fun a3 => ?_⟩, fun a2 => ?_⟩, fun _ => fin _ (by simp)⟩
   ·exact absurd hk (by rw [not_or]; exact ⟨fun h => h a1, fun h => h.2 a3⟩)
   ·exact absurd hk (by rw [not_or]; exact ⟨fun h => h a1, fun h => a2 h.1⟩)
  ·rw [if_neg hk] at hr
   rw [not_or] at hk
   have hk1 : x.kind = k := by simpa using hk.1
   have hk2 : k = 111 → x.text = t := fun h => by have := hk.2; simpa [h] using this
   simp [cc_r23_parser_want, rs_r23_parser_want, h1, he, eta0 he, hx, hk1, InR]
   clear h1 h2
   have fin : ∀ H : HMap, H 0 = some (.box b (cePst s.step)) → FinPS enc b (fun s' y => F_gwant s ⟨⟨k⟩, t⟩ = some (s', y)) (.v (.string x.text)) H := fun H h => finS _ h ((e0 _ _).2 (Option.some.inj hr).symm)
   try intro b7
   exact ⟨fun a2 => ⟨fun a3 => absurd (hk2 a2) a3, fun _ => ⟨by omega, fin _ (by simp [Pst.step, he])⟩⟩, fun _ => ⟨by omega, fin _ (by simp [Pst.step, he])⟩⟩
 ·rw [if_pos he] at hr
  simp [cc_r23_parser_want, rs_r23_parser_want, h1, he, hx]
  try intro _
  exact finS s (by simp) ((e0 _ _).2 (Option.some.inj hr).symm)
@[simp] abbrev F_gnumber (s : Pst) (z : Int × Int) : Option (Pst × Int) := numberG s z.1 z.2
abbrev s_gnumber : Spc := psF (a2 Int Int) (enc (X := Int)) F_gnumber
theorem digit_rng {c : UInt8} (h : 48 ≤ c.toNat ∧ c.toNat ≤ 57) (n : Int) : digitG n c = digit1 n c := by
 unfold digitG digit1
 omega
theorem w_g_number (h1 : S f_r23_parser_want = s_gwant) (h2 : S f_r23_parser_error = s_error) : WalkPF cc_r23_parser_number rs_r23_parser_number S (a2 Int Int) (enc (X := Int)) F_gnumber := by
 rintro b s ⟨lim, at_⟩ ⟨⟨s', n⟩, hr⟩
 have hr0 := hr
 simp only [F_gnumber, numberG] at hr
 obtain ⟨⟨s1, t⟩, hw, hr⟩ := Option.bind_eq_some_iff.1 hr
 simp only at hr
 split at hr
 ·rename_i hall
  cases hr
  have hdig : ∀ (k : Nat) (c : UInt8), t.data[k]? = some c → 48 ≤ c.toNat ∧ c.toNat ≤ 57 := by
   intro k c hc
   unfold digsB at hall
   rw [List.all_eq_true] at hall
   have := hall c (by rw [← Array.getElem?_toList] at hc; exact mem_at hc)
   simpa using this
  have hrng : ∀ l : List UInt8, (∀ c ∈ l, 48 ≤ c.toNat ∧ c.toNat ≤ 57) → ∀ n : Int, 0 ≤ n → n ≤ 1000000 → 0 ≤ l.foldl digitG n ∧ l.foldl digitG n ≤ 1000000 := by
   intro l
   induction l with
   | nil => intro _ n h0 h1; exact ⟨h0, h1⟩
   | cons c l ih =>
     intro hc n h0 h1
     have := hc c (by simp)
     exact ih (fun x hx => hc x (by simp [hx])) _ (by unfold digitG; omega) (by unfold digitG; omega)
  have hw' : wantG s 100 ⟨#[]⟩ = some (s1, t) := hw
  simp [cc_r23_parser_number, rs_r23_parser_number, h1, hw']
  refine vc_while (X := Nat) [0, 1, 2, 7] [0] (fun k => k ≤ t.size) (fun k => [(8, enc ((t.data.toList.take k).foldl digitG 0)), (9, enc (k : Int))]) (fun _ => []) (fun k => t.size - k) 0 (by omega) (by simp) (by simp) ?_
  rintro k hk
  have hm := hrng (t.data.toList.take k) (fun c hc => by
   obtain ⟨j, hj, rfl⟩ := List.mem_iff_getElem.1 (List.mem_of_mem_take hc)
   exact hdig j _ (by rw [← Array.getElem?_toList]; exact List.getElem?_eq_getElem hj)) 0 (by omega) (by omega)
  simp [h2]
  clear h1
  refine fun _ => ⟨fun hlt => ⟨by simp only [InR]; omega, hlt, fun c hc => ?_⟩, fun hge => ?_⟩
  ·have hcr := hdig k c hc
   have hw : IntKind.i64.wrap ((c.toNat : Int) - 48) = (c.toNat : Int) - 48 := by
    exact InR.wrap (by simp only [InR]; omega)
   rw [hw]
   have hn : (t.data.toList.take (k + 1)).foldl digitG 0 = digit1 ((t.data.toList.take k).foldl digitG 0) c := by
    rw [take_snoc (a := c) (by rw [Array.getElem?_toList]; exact hc), List.foldl_append]; exact digit_rng hcr _
   refine ⟨by simp only [InR]; omega, by simp only [InR]; omega, by simp only [InR]; omega, k + 1, by omega, ⟨?_, by omega⟩, by omega⟩
   rw [hn]; rfl
  ·have e : k = t.size := by omega
   have hall2 : t.data.toList.take k = t.data.toList := List.take_of_length_le (by rw [e]; exact Nat.le_refl _)
   rw [hall2]
   refine ⟨fun h => finI (errS s1 8 at_) (by simp) ?_, fun h => finI s1 (by simp) ?_⟩
   ·exact hr0.trans (by rw [if_pos h])
   ·exact hr0.trans (by rw [if_neg (by omega)])
 ·cases hr
@[simp] abbrev F_next (s : Pst) (_ : Unit) : Option (Pst × Tok) := (nextT s).map fun x => (s, x)
abbrev s_next : Spc := psF a0 (enc (X := Tok)) F_next
theorem w_g_next : WalkPF cc_r23_parser_next rs_r23_parser_next S a0 (enc (X := Tok)) F_next := by
 rintro b s ⟨⟩ ⟨r, hr⟩
 obtain ⟨x, hx, rfl⟩ := Option.map_eq_some_iff.1 hr
 have hx0 := hx
 unfold nextT at hx
 split at hx
 ·rename_i h0
  have hl := lt_at hx
  obtain ⟨_, hgx⟩ := List.getElem?_eq_some_iff.1 hx
  simp [cc_r23_parser_next, rs_r23_parser_next, InR]
  exact fun _ => ⟨by omega, fun _ => ⟨by omega, by omega, by omega, fun a ha => finPS s a (.same _) (by simp) ⟨by rw [hx0, ← hx, ha], rfl⟩⟩⟩
 ·cases hx
@[simp] abbrev F_tail (s : Pst) (_ : Unit) : Option (Pst × Bool) := (nowT s).map fun x => (s, tailG x.text)
abbrev s_tail : Spc := psF a0 (enc (X := Bool)) F_tail
theorem w_g_tail (h1 : S f_r23_parser_now = s_now) : WalkPF cc_r23_parser_tail rs_r23_parser_tail S a0 (enc (X := Bool)) F_tail := by
 rintro b s ⟨⟩ ⟨r, hr⟩
 obtain ⟨x, hx, rfl⟩ := Option.map_eq_some_iff.1 hr
 simp [cc_r23_parser_tail, rs_r23_parser_tail, h1, hx]
 refine ⟨fun n1 => ⟨fun n2 => ⟨fun n3 => finB s (by simp) ⟨rfl, by simp [tailG, n1, n2, n3]⟩, fun n3 => finB s (by simp) ⟨rfl, by simp [tailG, n3]⟩⟩, fun n2 => finB s (by simp) ⟨rfl, by simp [tailG, n2]⟩⟩, fun n1 => finB s (by simp) ⟨rfl, by simp [tailG, n1]⟩⟩
@[simp] abbrev F_gbegins (s : Pst) (_ : Unit) : Option (Pst × Bool) := (beginsG s).map fun x => (s, x)
abbrev s_gbegins : Spc := psF a0 (enc (X := Bool)) F_gbegins
theorem w_g_begins (h1 : S f_r23_parser_now = s_now) (h2 : S f_r23_parser_next = s_next) (h3 : S f_r23_parser_tail = s_tail) : WalkPF cc_r23_parser_begins rs_r23_parser_begins S a0 (enc (X := Bool)) F_gbegins := by
 rintro b s ⟨⟩ ⟨r, hr⟩
 obtain ⟨v, hv, rfl⟩ := Option.map_eq_some_iff.1 hr
 have hv0 := hv
 unfold beginsG at hv
 obtain ⟨x, hx, hv⟩ := Option.bind_eq_some_iff.1 hv
 by_cases he : s.e = 0
 ·rw [if_neg (by simp [he])] at hv
  by_cases hk : x.kind = 110
  ·rw [if_pos hk] at hv
   obtain ⟨n, hn, hv⟩ := Option.map_eq_some_iff.1 hv
   simp [cc_r23_parser_begins, rs_r23_parser_begins, h1, h2, h3, hx, he, eta0 he, hk, hn]
   have d0 : ∀ h : s.deep ≤ 0, decide (0 < s.deep) = false := fun h => decide_eq_false (by omega)
   have fin : ∀ (v' : Bool) (H : HMap), H 0 = some (.box b (cePst s)) → v' = v → FinPS enc b (fun s' y => beginsG s = some y ∧ s = s') (.v (.bool v')) H := fun v' H h e => finB s h ⟨by rw [hv0, e], rfl⟩
   refine ⟨fun a1 => ⟨fun a2 => fin _ _ (by simp [he]) ?_, fun a2 => ⟨fun a3 => fin _ _ (by simp [he]) ?_, fun a3 => fin _ _ (by simp [he]) ?_⟩⟩, fun a1 => ⟨fun a3 => fin _ _ (by simp [he]) ?_, fun a3 => fin _ _ (by simp [he]) ?_⟩⟩
   all_goals (rw [← hv]; try rw [d0 a3])
   all_goals simp [*]
  ·rw [if_neg hk] at hv
   simp [cc_r23_parser_begins, rs_r23_parser_begins, h1, hx, he, eta0 he, hk]
   clear h1 h2 h3
   repeat' first | apply And.intro | intro _
   all_goals refine finB s (by simp [he]) ?_
   all_goals (refine ⟨?_, rfl⟩; rw [hv0, ← Option.some.inj hv]; simp [*])
 ·rw [if_pos he] at hv
  simp [cc_r23_parser_begins, rs_r23_parser_begins, h1, hx, he]
  exact finB s (by simp) ⟨by rw [hv0, ← Option.some.inj hv], rfl⟩
end Go.Gv

namespace Go.Gv
open Go.Proofs
-- r23_parser_or while id=0: live [0:p, 2:, 3:l] changed [3] res [0, 2, 6, 13]
def cc_r23_parser_or : CC := oX [oB 2 (.alloc ty_Cond [oi,oe,oe,oe,oe,ob,on])] [0,2] [0,2,6,13] (oX [oA 4 0,oZ 5 f_r23_parser_and [oT 4],oB 6 (.mslice ty_Cond 7 [oT 5]),oA 3 6] [0,2,3] [0,2,6,13] (.seq (.block 0 (.loop 1 (.seq (oX [oA 7 0,oZ 8 f_r23_parser_eat [oT 7,oS ⟨#[124]⟩]] [0,2,3,8] [0,2,6,13] (.ite (oT 8) (.skip) (.exit 0))) (.keep [0,2,3] [0,2,6,13] (.block 1 (.reg [oA 9 3,
 oA 10 0,oZ 11 f_r23_parser_and [oT 10],oB 12 (.bslice ty_Cond 7 [oT 11]),oB 13 (.append (some 6) ty_Cond 7 104 (oT 9) (oT 12)),oA 3 13])))))) (.keep [2,3] [0,2,6,13] (.seq (oX [oA 14 3,oB 15 (.len (oT 14)),oB 16 (.eql false false [.int] (oT 15) (oN 1))] [2,3,16] [0,2,6,13] (.ite (oT 16) (oX [oA 17 3,oB 18 (.iaddr 7 (oT 17) (oN 0)),oD 19 7 18,oF 7 2 19] [2] [0,2,6,13] (.ret)) (.skip)))
 (.keep [2,3] [0,2,6,13] (oX [oA 20 3,oB 21 (.build [oi,oe,oe,oe,oe,ob,on] [(0,1,oN 8),(6,1,oT 20)]),oF 7 2 21] [2] [0,2,6,13] (.ret)))))))
def rs_r23_parser_or : List CRes := [.cell 2 true 7]
def im_r23_parser_or : List Nat := [100006, 1013006]
theorem ok_r23_parser_or : FnOk Tryz.prog f_r23_parser_or im_r23_parser_or cc_r23_parser_or rs_r23_parser_or 22 := fnOk1 mixed (by kernel_rfl)
-- r23_parser_and while id=0: live [0:p, 2:, 3:l] changed [3] res [0, 2, 6, 13]
def cc_r23_parser_and : CC := oX [oB 2 (.alloc ty_Cond [oi,oe,oe,oe,oe,ob,on])] [0,2] [0,2,6,13] (oX [oA 4 0,oZ 5 f_r23_parser_not [oT 4],oB 6 (.mslice ty_Cond 7 [oT 5]),oA 3 6] [0,2,3] [0,2,6,13] (.seq (.block 0 (.loop 1 (.seq (oX [oA 7 0,oZ 8 f_r23_parser_eat [oT 7,oS ⟨#[38]⟩]] [0,2,3,8] [0,2,6,13] (.ite (oT 8) (.skip) (.exit 0))) (.keep [0,2,3] [0,2,6,13] (.block 1 (.reg [oA 9 3,
 oA 10 0,oZ 11 f_r23_parser_not [oT 10],oB 12 (.bslice ty_Cond 7 [oT 11]),oB 13 (.append (some 6) ty_Cond 7 104 (oT 9) (oT 12)),oA 3 13])))))) (.keep [2,3] [0,2,6,13] (.seq (oX [oA 14 3,oB 15 (.len (oT 14)),oB 16 (.eql false false [.int] (oT 15) (oN 1))] [2,3,16] [0,2,6,13] (.ite (oT 16) (oX [oA 17 3,oB 18 (.iaddr 7 (oT 17) (oN 0)),oD 19 7 18,oF 7 2 19] [2] [0,2,6,13] (.ret)) (.skip)))
 (.keep [2,3] [0,2,6,13] (oX [oA 20 3,oB 21 (.build [oi,oe,oe,oe,oe,ob,on] [(0,1,oN 7),(6,1,oT 20)]),oF 7 2 21] [2] [0,2,6,13] (.ret)))))))
def rs_r23_parser_and : List CRes := [.cell 2 true 7]
def im_r23_parser_and : List Nat := [100006, 1013006]
theorem ok_r23_parser_and : FnOk Tryz.prog f_r23_parser_and im_r23_parser_and cc_r23_parser_and rs_r23_parser_and 22 := fnOk1 mixed (by kernel_rfl)
def cc_r23_parser_not : CC := oX [oB 2 (.alloc ty_Cond [oi,oe,oe,oe,oe,ob,on])] [0,2] [0,2] (.seq (.block 0 (oX [oA 10 0,oZ 11 f_r23_parser_eat [oT 10,oS ⟨#[33]⟩],oA 9 11] [0,2,9] [0,2] (.ite (oT 9) (oX [oA 12 0,oZ 13 f_r23_parser_not [oT 12],oB 14 (.bslice ty_Cond 7 [oT 13]),oB 15 (.build [oi,oe,oe,oe,oe,ob,on] [(0,1,oN 6),(6,1,oT 14)]),oF 7 2 15] [2] [0,2] (.ret)) (oX [oA 17 0,
 oZ 18 f_r23_parser_eat [oT 17,oS ⟨#[40]⟩],oA 16 18] [0,2,16] [0,2] (.ite (oT 16) (oX [oA 19 0,oZ 20 f_r23_parser_or [oT 19],oB 3 (.alloc ty_Cond [oi,oe,oe,oe,oe,ob,on]),oF 7 3 20] [0,2,3] [0,2,3] (oX [oA 21 0,oZ 22 f_r23_parser_want [oT 21,.const (.int .u8 111),oS ⟨#[41]⟩]] [2,3] [0,2,3] (oX [oD 23 7 3,oF 7 2 23] [2] [0,2] (.ret)))) (.skip)))))) (.keep [0,2] [0,2] (oX [oA 24 0,
 oZ 25 f_r23_parser_want [oT 24,.const (.int .u8 110),oS ⟨#[]⟩],oA 4 25] [0,2,4] [0,2] (.seq (.block 1 (oX [oA 27 4,oB 28 (.eql false false [.str] (oT 27) (oS ⟨#[105,110]⟩)),oA 29 28,oH 30 29 (.mv (oT 0)),oH 31 29 (.call f_r23_parser_eat [oT 30,oS ⟨#[40]⟩]),oB 32 (.pick (oT 29) (oT 31) (.const ob)),oA 26 32] [0,2,4,26] [0,2] (.ite (oT 26) (oX [oA 33 0,
 oZ 34 f_r23_parser_want [oT 33,.const (.int .u8 110),oS ⟨#[]⟩],oB 35 (.build [oi,oe,oe,oe,oe,ob,on] [(0,1,oN 5),(1,1,oT 34)]),oB 5 (.alloc ty_Cond [oi,oe,oe,oe,oe,ob,on]),oF 7 5 35] [0,2,5] [0,2,5] (.seq (oX [oA 36 0,oZ 37 f_r23_parser_eat [oT 36,oS ⟨#[44]⟩]] [0,2,5,37] [0,2,5] (.ite (oT 37) (oX [oA 38 0,oZ 39 f_r23_parser_want [oT 38,.const (.int .u8 110),oS ⟨#[]⟩],oE 40 2 5,
 oF 1 40 39] [0,2,5] [0,2,5] (oX [oA 41 0,oZ 42 f_r23_parser_want [oT 41,.const (.int .u8 111),oS ⟨#[61]⟩]] [0,2,5] [0,2,5] (.reg [oA 43 0,oZ 44 f_r23_parser_want [oT 43,.const (.int .u8 115),oS ⟨#[]⟩],oE 45 3 5,oF 1 45 44]))) (.skip))) (.keep [0,2,5] [0,2,5] (oX [oA 46 0,oZ 47 f_r23_parser_want [oT 46,.const (.int .u8 111),oS ⟨#[41]⟩]] [2,5] [0,2,5] (oX [oD 48 7 5,
 oF 7 2 48] [2] [0,2] (.ret)))))) (oX [oA 50 0,oZ 51 f_r23_parser_eat [oT 50,oS ⟨#[33,61]⟩],oA 49 51] [0,2,4,49] [0,2] (.ite (oT 49) (oX [oA 52 4,oA 53 0,oZ 54 f_r23_parser_want [oT 53,.const (.int .u8 115),oS ⟨#[]⟩],oB 55 (.build [oi,oe,oe,oe,oe,ob,on] [(0,1,oN 2),(1,1,oT 52),(3,1,oT 54)]),oB 6 (.alloc ty_Cond [oi,oe,oe,oe,oe,ob,on]),oF 7 6 55] [0,2,6] [0,2,6] (oX [oA 56 0,
 oZ 57 f_r23_parser_fold [oT 56],oE 58 5 6,oF 1 58 57] [2,6] [0,2,6] (oX [oD 59 7 6,oB 60 (.bslice ty_Cond 7 [oT 59]),oB 61 (.build [oi,oe,oe,oe,oe,ob,on] [(0,1,oN 6),(6,1,oT 60)]),oF 7 2 61] [2] [0,2] (.ret)))) (oX [oA 63 0,oZ 64 f_r23_parser_is [oT 63,.const (.int .u8 110),oS ⟨#[99,111,110,116,97,105,110,115]⟩],oA 62 64] [0,2,4,62] [0,2] (.ite (oT 62) (oX [oA 65 0,oG 66 65,
 oE 67 1 66,oC 68 1 67,oB 69 (.arith .add (oT 68) (oN 1)),oG 70 65,oE 71 1 70,oF 1 71 69] [0,2,4] [0,2] (oX [oA 72 4,oA 73 0,oZ 74 f_r23_parser_want [oT 73,.const (.int .u8 115),oS ⟨#[]⟩],oB 75 (.build [oi,oe,oe,oe,oe,ob,on] [(0,1,oN 3),(1,1,oT 72),(3,1,oT 74)]),oF 7 2 75] [2] [0,2] (.ret))) (.skip)))))))) (.keep [0,2,4] [0,2] (oX [oA 76 0,
 oZ 77 f_r23_parser_want [oT 76,.const (.int .u8 111),oS ⟨#[61]⟩]] [0,2,4] [0,2] (.seq (oX [oA 78 0,oG 79 78,oE 80 3 79,oC 81 1 80,oB 82 (.eql false false [.int] (oT 81) (oN 0)),oA 83 82,oH 84 83 (.mv (oT 0)),oH 85 83 (.call f_r23_parser_now [oT 84]),oH 86 83 (.fld false 1 0 (oT 85)),oH 87 83 (.eql false false [.int] (oT 86) (.const (.int .u8 110))),
 oB 88 (.pick (oT 83) (oT 87) (.const ob))] [0,2,4,88] [0,2] (.ite (oT 88) (oX [oA 89 4,oA 90 0,oZ 91 f_r23_parser_want [oT 90,.const (.int .u8 110),oS ⟨#[]⟩],oB 92 (.build [oi,oe,oe,oe,oe,ob,on] [(0,1,oN 4),(1,1,oT 89),(4,1,oT 91)]),oB 7 (.alloc ty_Cond [oi,oe,oe,oe,oe,ob,on]),oF 7 7 92] [0,2,7] [0,2,7] (oX [oA 93 0,
 oZ 94 f_r23_parser_want [oT 93,.const (.int .u8 111),oS ⟨#[46]⟩]] [0,2,7] [0,2,7] (oX [oA 95 0,oZ 96 f_r23_parser_want [oT 95,.const (.int .u8 110),oS ⟨#[]⟩],oE 97 2 7,oF 1 97 96] [2,7] [0,2,7] (oX [oD 98 7 7,oF 7 2 98] [2] [0,2] (.ret))))) (.skip))) (.keep [0,2,4] [0,2] (oX [oA 99 4,oA 100 0,oZ 101 f_r23_parser_want [oT 100,.const (.int .u8 115),oS ⟨#[]⟩],
 oB 102 (.build [oi,oe,oe,oe,oe,ob,on] [(0,1,oN 2),(1,1,oT 99),(3,1,oT 101)]),oB 8 (.alloc ty_Cond [oi,oe,oe,oe,oe,ob,on]),oF 7 8 102] [0,2,8] [0,2,8] (oX [oA 103 0,oZ 104 f_r23_parser_fold [oT 103],oE 105 5 8,oF 1 105 104] [2,8] [0,2,8] (oX [oD 106 7 8,oF 7 2 106] [2] [0,2] (.ret))))))))))))
def rs_r23_parser_not : List CRes := [.cell 2 true 7]
def im_r23_parser_not : List Nat := []
theorem ok_r23_parser_not : FnOk Tryz.prog f_r23_parser_not im_r23_parser_not cc_r23_parser_not rs_r23_parser_not 107 := fnOk1 mixed (by kernel_rfl)
-- r23_parser_gor while id=0: live [0:p, 2:, 3:l] changed [3] res [0, 2, 6, 13]
def cc_r23_parser_gor : CC := oX [oB 2 (.alloc ty_Constraint [oi,oe,oe,oe,oe,oe,ob,oi,oi,on,on])] [0,2] [0,2,6,13] (oX [oA 4 0,oZ 5 f_r23_parser_gand [oT 4],oB 6 (.mslice ty_Constraint 11 [oT 5]),oA 3 6] [0,2,3] [0,2,6,13] (.seq (.block 0 (.loop 1 (.seq (oX [oA 7 0,oZ 8 f_r23_parser_eat [oT 7,oS ⟨#[124]⟩]] [0,2,3,8] [0,2,6,13] (.ite (oT 8) (.skip) (.exit 0)))
 (.keep [0,2,3] [0,2,6,13] (.block 1 (.reg [oA 9 3,oA 10 0,oZ 11 f_r23_parser_gand [oT 10],oB 12 (.bslice ty_Constraint 11 [oT 11]),oB 13 (.append (some 6) ty_Constraint 11 160 (oT 9) (oT 12)),oA 3 13])))))) (.keep [2,3] [0,2,6,13] (.seq (oX [oA 14 3,oB 15 (.len (oT 14)),oB 16 (.eql false false [.int] (oT 15) (oN 1))] [2,3,16] [0,2,6,13] (.ite (oT 16) (oX [oA 17 3,
 oB 18 (.iaddr 11 (oT 17) (oN 0)),oD 19 11 18,oF 11 2 19] [2] [0,2,6,13] (.ret)) (.skip))) (.keep [2,3] [0,2,6,13] (oX [oA 20 3,oB 21 (.build [oi,oe,oe,oe,oe,oe,ob,oi,oi,on,on] [(0,1,oN 13),(10,1,oT 20)]),oF 11 2 21] [2] [0,2,6,13] (.ret)))))))
def rs_r23_parser_gor : List CRes := [.cell 2 true 11]
def im_r23_parser_gor : List Nat := [100006, 1013006]
theorem ok_r23_parser_gor : FnOk Tryz.prog f_r23_parser_gor im_r23_parser_gor cc_r23_parser_gor rs_r23_parser_gor 22 := fnOk1 mixed (by kernel_rfl)
-- r23_parser_gand while id=0: live [0:p, 2:, 3:l] changed [3] res [0, 2, 6, 13]
def cc_r23_parser_gand : CC := oX [oB 2 (.alloc ty_Constraint [oi,oe,oe,oe,oe,oe,ob,oi,oi,on,on])] [0,2] [0,2,6,13] (oX [oA 4 0,oZ 5 f_r23_parser_gnot [oT 4],oB 6 (.mslice ty_Constraint 11 [oT 5]),oA 3 6] [0,2,3] [0,2,6,13] (.seq (.block 0 (.loop 1 (.seq (oX [oA 7 0,oZ 8 f_r23_parser_eat [oT 7,oS ⟨#[38]⟩]] [0,2,3,8] [0,2,6,13] (.ite (oT 8) (.skip) (.exit 0)))
 (.keep [0,2,3] [0,2,6,13] (.block 1 (.reg [oA 9 3,oA 10 0,oZ 11 f_r23_parser_gnot [oT 10],oB 12 (.bslice ty_Constraint 11 [oT 11]),oB 13 (.append (some 6) ty_Constraint 11 160 (oT 9) (oT 12)),oA 3 13])))))) (.keep [2,3] [0,2,6,13] (.seq (oX [oA 14 3,oB 15 (.len (oT 14)),oB 16 (.eql false false [.int] (oT 15) (oN 1))] [2,3,16] [0,2,6,13] (.ite (oT 16) (oX [oA 17 3,
 oB 18 (.iaddr 11 (oT 17) (oN 0)),oD 19 11 18,oF 11 2 19] [2] [0,2,6,13] (.ret)) (.skip))) (.keep [2,3] [0,2,6,13] (oX [oA 20 3,oB 21 (.build [oi,oe,oe,oe,oe,oe,ob,oi,oi,on,on] [(0,1,oN 12),(10,1,oT 20)]),oF 11 2 21] [2] [0,2,6,13] (.ret)))))))
def rs_r23_parser_gand : List CRes := [.cell 2 true 11]
def im_r23_parser_gand : List Nat := [100006, 1013006]
theorem ok_r23_parser_gand : FnOk Tryz.prog f_r23_parser_gand im_r23_parser_gand cc_r23_parser_gand rs_r23_parser_gand 22 := fnOk1 mixed (by kernel_rfl)
-- r23_parser_gnot range i=28 n=27 c=29 i2=41 id=1: live [0:p, 2:, 4:name, 5:op, 26:] changed [5] res [0, 2]
def cc_r23_parser_gnot : CC := oX [oB 2 (.alloc ty_Constraint [oi,oe,oe,oe,oe,oe,ob,oi,oi,on,on])] [0,2] [0,2] (.seq (.block 0 (oX [oA 10 0,oZ 11 f_r23_parser_eat [oT 10,oS ⟨#[33]⟩],oA 9 11] [0,2,9] [0,2] (.ite (oT 9) (oX [oA 12 0,oZ 13 f_r23_parser_gnot [oT 12],oB 14 (.bslice ty_Constraint 11 [oT 13]),oB 15 (.build [oi,oe,oe,oe,oe,oe,ob,oi,oi,on,on] [(0,1,oN 11),(10,1,oT 14)]),
 oF 11 2 15] [2] [0,2] (.ret)) (oX [oA 17 0,oZ 18 f_r23_parser_eat [oT 17,oS ⟨#[40]⟩],oA 16 18] [0,2,16] [0,2] (.ite (oT 16) (oX [oA 19 0,oZ 20 f_r23_parser_gor [oT 19],oB 3 (.alloc ty_Constraint [oi,oe,oe,oe,oe,oe,ob,oi,oi,on,on]),oF 11 3 20] [0,2,3] [0,2,3] (oX [oA 21 0,oZ 22 f_r23_parser_want [oT 21,.const (.int .u8 111),oS ⟨#[41]⟩]] [2,3] [0,2,3] (oX [oD 23 11 3,
 oF 11 2 23] [2] [0,2] (.ret)))) (.skip)))))) (.keep [0,2] [0,2] (oX [oA 24 0,oZ 25 f_r23_parser_want [oT 24,.const (.int .u8 110),oS ⟨#[]⟩],oA 4 25] [0,2,4] [0,2] (oX [oB 5 (.mv (oN 0))] [0,2,4,5] [0,2] (.seq (oX [oZ 26 f_r23_Functions [],oB 27 (.len (oT 26)),oB 28 (.mv (oN 0))] [0,2,4,5,26,27,28] [0,2] (rangeCC 1 28 27 29 2 (oX [oA 30 28,oB 31 (.iaddr 1 (oT 26) (oT 28)),oC 32 1 31,
 oA 6 30,oA 7 32] [0,2,4,5,6,7,26,27,28] [0,2] (oX [oA 33 7,oB 34 (.eql true false [.str] (oT 33) (oS ⟨#[]⟩)),oA 35 34,oH 36 35 (.mv (oT 7)),oH 37 35 (.mv (oT 4)),oH 38 35 (.eql false false [.str] (oT 36) (oT 37)),oB 39 (.pick (oT 35) (oT 38) (.const ob))] [0,2,4,5,6,26,27,28,39] [0,2] (.ite (oT 39) (.reg [oA 40 6,oA 5 40]) (.skip)))) 41)) (.keep [0,2,4,5] [0,2] (.seq (oX [oA 42 5,
 oB 43 (.cmp .gtr (oT 42) (oN 0)),oA 44 43,oH 45 44 (.mv (oT 0)),oH 46 44 (.call f_r23_parser_eat [oT 45,oS ⟨#[40]⟩]),oB 47 (.pick (oT 44) (oT 46) (.const ob))] [0,2,4,5,47] [0,2] (.ite (oT 47) (oX [oA 48 0,oA 49 5,oZ 50 f_r23_parser_call [oT 48,oT 49],oF 11 2 50] [2] [0,2] (.ret)) (.skip))) (.keep [0,2,4] [0,2] (oX [oA 51 4,
 oB 52 (.build [oi,oe,oe,oe,oe,oe,ob,oi,oi,on,on] [(0,1,oN 2),(1,1,oT 51)]),oB 8 (.alloc ty_Constraint [oi,oe,oe,oe,oe,oe,ob,oi,oi,on,on]),oF 11 8 52] [0,2,8] [0,2,8] (oX [oA 53 0,oZ 54 f_r23_parser_want [oT 53,.const (.int .u8 111),oS ⟨#[46]⟩]] [0,2,8] [0,2,8] (oX [oA 55 0,oZ 56 f_r23_parser_want [oT 55,.const (.int .u8 110),oS ⟨#[]⟩],oE 57 3 8,oF 1 57 56] [0,2,8] [0,2,8] (oX [oA 58 0,
 oZ 59 f_r23_parser_want [oT 58,.const (.int .u8 111),oS ⟨#[61]⟩]] [0,2,8] [0,2,8] (.seq (oX [oA 60 0,oG 61 60,oE 62 3 61,oC 63 1 62,oB 64 (.eql false false [.int] (oT 63) (oN 0)),oA 65 64,oH 66 65 (.mv (oT 0)),oH 67 65 (.call f_r23_parser_now [oT 66]),oH 68 65 (.fld false 1 0 (oT 67)),oH 69 65 (.eql false false [.int] (oT 68) (.const (.int .u8 110))),
 oB 70 (.pick (oT 65) (oT 69) (.const ob))] [0,2,8,70] [0,2,8] (.ite (oT 70) (oX [oA 71 0,oZ 72 f_r23_parser_want [oT 71,.const (.int .u8 110),oS ⟨#[]⟩],oE 73 0 8,.op none none (.store none 1 (oT 73) (oN 3)),oE 74 2 8,oF 1 74 72] [0,2,8] [0,2,8] (oX [oA 75 0,oZ 76 f_r23_parser_want [oT 75,.const (.int .u8 111),oS ⟨#[46]⟩]] [0,2,8] [0,2,8] (oX [oA 77 0,
 oZ 78 f_r23_parser_want [oT 77,.const (.int .u8 110),oS ⟨#[]⟩],oE 79 4 8,oF 1 79 78] [2,8] [0,2,8] (oX [oD 80 11 8,oF 11 2 80] [2] [0,2] (.ret))))) (.skip))) (.keep [0,2,8] [0,2,8] (oX [oA 81 0,oZ 82 f_r23_parser_want [oT 81,.const (.int .u8 115),oS ⟨#[]⟩],oE 83 5 8,oF 1 83 82] [0,2,8] [0,2,8] (oX [oA 84 0,oZ 85 f_r23_parser_fold [oT 84],oE 86 6 8,oF 1 86 85] [2,8] [0,2,8] (oX [
 oD 87 11 8,oF 11 2 87] [2] [0,2] (.ret))))))))))))))))))
def rs_r23_parser_gnot : List CRes := [.cell 2 true 11]
def im_r23_parser_gnot : List Nat := []
theorem ok_r23_parser_gnot : FnOk Tryz.prog f_r23_parser_gnot im_r23_parser_gnot cc_r23_parser_gnot rs_r23_parser_gnot 88 := fnOk1 mixed (by kernel_rfl)
def cc_r23_parser_signed : CC := oX [oB 2 (.mv (oN 0))] [0] [0] (.seq (oX [oA 3 0,oZ 4 f_r23_parser_eat [oT 3,oS ⟨#[45]⟩]] [0,4] [0] (.ite (oT 4) (oX [oA 5 0,oA 6 0,oZ 7 f_r23_parser_now [oT 6],oB 8 (.fld false 1 2 (oT 7)),oZ 9 f_r23_parser_number [oT 5,oN 100000,oT 8],oB 10 (.neg (oT 9)),oA 2 10] [2] [0] (.ret)) (.skip))) (.keep [0] [0] (oX [oA 11 0,oA 12 0,
 oZ 13 f_r23_parser_now [oT 12],oB 14 (.fld false 1 2 (oT 13)),oZ 15 f_r23_parser_number [oT 11,oN 100000,oT 14],oA 2 15] [2] [0] (.ret))))
def rs_r23_parser_signed : List CRes := [.tmp 2]
def im_r23_parser_signed : List Nat := []
theorem ok_r23_parser_signed : FnOk Tryz.prog f_r23_parser_signed im_r23_parser_signed cc_r23_parser_signed rs_r23_parser_signed 16 := fnOk1 mixed (by kernel_rfl)
-- r23_parser_call while id=0: live [0:p, 4:, 5:x] changed [] res [0, 4, 5, 69]
def cc_r23_parser_call : CC := oX [oB 4 (.alloc ty_Constraint [oi,oe,oe,oe,oe,oe,ob,oi,oi,on,on])] [0,1,4] [0,4,69] (oX [oA 6 1,oA 7 0,oZ 8 f_r23_parser_want [oT 7,.const (.int .u8 110),oS ⟨#[]⟩],oB 9 (.build [oi,oe,oe,oe,oe,oe,ob,oi,oi,on,on] [(0,1,oT 6),(1,1,oT 8)]),oB 5 (.alloc ty_Constraint [oi,oe,oe,oe,oe,oe,ob,oi,oi,on,on]),oF 11 5 9] [0,1,4,5] [0,4,5,69] (seqM 2 (oX [oA 10 1,
 oB 11 (.eql true false [.int] (oT 10) (oN 1)),oA 12 11,oH 13 12 (.mv (oT 1)),oH 14 12 (.eql true false [.int] (oT 13) (oN 10)),oB 15 (.pick (oT 12) (oT 14) (.const ob))] [0,1,4,5,15] [0,4,5,69] (.ite (oT 15) (oX [oA 16 0,oZ 17 f_r23_parser_want [oT 16,.const (.int .u8 111),oS ⟨#[44]⟩]] [0,1,4,5] [0,4,5,69] (.reg [oA 18 0,oZ 19 f_r23_parser_want [oT 18,.const (.int .u8 110),oS ⟨#[]⟩],
 oE 20 2 5,oF 1 20 19])) (.skip))) (.keep [0,1,4,5] [0,4,5,69] (seqM 5 (oX [oA 21 1] [0,4,5,21] [0,4,5,69] (.block 0 (oX [oB 23 (.eql false false [.int] (oT 21) (oN 4)),oA 22 23] [0,4,5,21,22] [0,4,5,69] (.ite (oT 22) (oX [oA 24 0,oZ 25 f_r23_parser_want [oT 24,.const (.int .u8 111),oS ⟨#[44]⟩]] [0,4,5] [0,4,5,69] (oX [oA 26 0,oZ 27 f_r23_parser_signed [oT 26],oE 28 7 5,
 oF 1 28 27] [0,4,5] [0,4,5,69] (oX [oA 29 0,oZ 30 f_r23_parser_want [oT 29,.const (.int .u8 111),oS ⟨#[44]⟩]] [0,4,5] [0,4,5,69] (.reg [oA 31 0,oZ 32 f_r23_parser_signed [oT 31],oE 33 8 5,oF 1 33 32])))) (oX [oB 35 (.eql false false [.int] (oT 21) (oN 10)),oA 34 35] [0,4,5,21,34] [0,4,5,69] (.ite (oT 34) (oX [oA 36 0,
 oZ 37 f_r23_parser_want [oT 36,.const (.int .u8 111),oS ⟨#[44]⟩]] [0,4,5] [0,4,5,69] (oX [oA 38 0,oA 39 0,oZ 40 f_r23_parser_now [oT 39],oB 41 (.fld false 1 2 (oT 40)),oZ 42 f_r23_parser_number [oT 38,oN 100000,oT 41],oE 43 7 5,oF 1 43 42] [0,4,5] [0,4,5,69] (oX [oA 44 0,oZ 45 f_r23_parser_want [oT 44,.const (.int .u8 111),oS ⟨#[44]⟩]] [0,4,5] [0,4,5,69] (.reg [oA 46 0,oA 47 0,
 oZ 48 f_r23_parser_now [oT 47],oB 49 (.fld false 1 2 (oT 48)),oZ 50 f_r23_parser_number [oT 46,oN 100000,oT 49],oE 51 8 5,oF 1 51 50])))) (.seq (oX [oB 53 (.eql false false [.int] (oT 21) (oN 5)),oA 52 53] [0,4,5,21,52] [0,4,5,69] (.ite (oT 52) (.skip) (.reg [oB 54 (.eql false false [.int] (oT 21) (oN 9)),oA 52 54]))) (.keep [0,4,5,21,52] [0,4,5,69] (.ite (oT 52) (oX [oA 55 0,
 oZ 56 f_r23_parser_want [oT 55,.const (.int .u8 111),oS ⟨#[44]⟩]] [0,4,5] [0,4,5,69] (.reg [oA 57 0,oZ 58 f_r23_parser_want [oT 57,.const (.int .u8 110),oS ⟨#[]⟩],oE 59 3 5,oF 1 59 58])) (oX [oB 61 (.eql false false [.int] (oT 21) (oN 8)),oA 60 61] [0,4,5,60] [0,4,5,69] (.ite (oT 60) (.block 1 (.loop 1 (.seq (oX [oA 62 0,
 oZ 63 f_r23_parser_eat [oT 62,oS ⟨#[44]⟩]] [0,4,5,63] [0,4,5,69] (.ite (oT 63) (.skip) (.exit 1))) (.keep [0,4,5] [0,4,5,69] (.block 2 (.regd [oE 64 9 5,oC 65 1 64,oA 66 0,oB 67 (.callb 0 f_r23_parser_want [oT 66,.const (.int .u8 115),oS ⟨#[]⟩]),oB 68 (.bslice ty_string 1 [oT 67])] [oB 69 (.append (some 69) ty_string 1 16 (oT 65) (oT 68)),oE 70 9 5,
 .op none none (.store (some 5) 1 (oT 70) (oT 69))])))))) (.skip)))))))))))) (.keep [0,4,5] [0,4,5,69] (oX [oA 71 0,oZ 72 f_r23_parser_want [oT 71,.const (.int .u8 111),oS ⟨#[41]⟩]] [4,5] [0,4,5,69] (oX [oD 73 11 5,oF 11 4 73] [4] [0,4,69] (.ret))))))))
def rs_r23_parser_call : List CRes := [.cell 4 true 11]
def im_r23_parser_call : List Nat := [3067000, 1069069, 2070005]
theorem ok_r23_parser_call : FnOk Tryz.prog f_r23_parser_call im_r23_parser_call cc_r23_parser_call rs_r23_parser_call 74 := fnOk1 mixed (by kernel_rfl)
def cc_r23_Functions : CC := oX [oB 0 (.mv (.const on))] [] [] (oX [oB 1 (.bslice ty_string 1 [oS ⟨#[]⟩,oS ⟨#[98,111,117,110,100]⟩,oS ⟨#[]⟩,oS ⟨#[]⟩,oS ⟨#[100,105,115,116,97,110,99,101]⟩,oS ⟨#[115,97,109,101]⟩,oS ⟨#[104,101,97,100]⟩,oS ⟨#[97,110,99,101,115,116,111,114]⟩,oS ⟨#[112,97,116,104]⟩,oS ⟨#[110,111,100,101]⟩,oS ⟨#[100,101,112,116,104]⟩]),oA 0 1] [0] [] (.ret))
def rs_r23_Functions : List CRes := [.tmp 0]
def im_r23_Functions : List Nat := []
theorem ok_r23_Functions : FnOk Tryz.prog f_r23_Functions im_r23_Functions cc_r23_Functions rs_r23_Functions 2 := fnOk1 mixed (by kernel_rfl)
-- r23_Format range i=32 n=31 c=33 i2=39 id=0: live [1:q, 30:] changed [] res []
-- r23_Format range i=56 n=55 c=57 i2=85 id=2: live [1:q, 5:out, 54:] changed [5] res []
-- r23_globNodes range i=17 n=16 c=18 i2=38 id=0: live [1:deep, 6:n, 7:d, 15:] changed [6, 7] res []
-- r23_globShape range i=138 n=137 c=139 i2=145 id=1: live [136:] changed [] res []
-- r23_malformed range i=26 n=25 c=27 i2=32 id=0: live [24:] changed [] res []
-- r23_pattern range i=152 n=151 c=153 i2=188 id=3: live [1:p, 3:out, 150:] changed [3] res []
-- r23_constraint range i=66 n=65 c=67 i2=103 id=1: live [1:g, 3:out, 64:] changed [3] res []
-- r23_constraint range i=162 n=161 c=163 i2=171 id=3: live [3:out, 160:] changed [3] res []
-- r23_condition range i=94 n=93 c=95 i2=131 id=1: live [1:x, 3:out, 92:] changed [3] res []
-- r23_quote while id=0: live [0:s, 3:out, 4:i] changed [3, 4] res []
-- r23_Same range i=39 n=38 c=40 i2=53 id=0: live [2:a, 3:b] changed [] res []
def cc_r23_Same : CC := oX [oB 2 (.box ty_Query true (oT 0)),oB 3 (.box ty_Query true (oT 1)),oB 4 (.mv (.const ob))] [2,3] [] (.seq (oX [oE 6 0 2,oD 7 13 6,oE 8 0 3,oD 9 13 8,oZ 10 f_r23_SamePattern [oT 7,oT 9],oB 11 (.not (oT 10)),oA 12 11,oI 13 12 (.faddr 13 (oT 2)),oI 14 12 (.load true 11 (oT 13)),oI 15 12 (.faddr 13 (oT 3)),oI 16 12 (.load true 11 (oT 15)),
 oI 17 12 (.call f_r23_sameGlob [oT 14,oT 16]),oI 18 12 (.not (oT 17)),oB 19 (.pick (oT 12) (.const (.bool true)) (oT 18)),oA 20 19,oI 21 20 (.faddr 25 (oT 2)),oI 22 20 (.load false 1 (oT 21)),oI 23 20 (.faddr 25 (oT 3)),oI 24 20 (.load false 1 (oT 23)),oI 25 20 (.eql true false [.int] (oT 22) (oT 24)),oB 26 (.pick (oT 20) (.const (.bool true)) (oT 25)),oA 27 26,
 oI 28 27 (.faddr 24 (oT 2)),oI 29 27 (.load false 1 (oT 28)),oI 30 27 (.len (oT 29)),oI 31 27 (.faddr 24 (oT 3)),oI 32 27 (.load false 1 (oT 31)),oI 33 27 (.len (oT 32)),oI 34 27 (.eql true false [.int] (oT 30) (oT 33)),oB 35 (.pick (oT 27) (.const (.bool true)) (oT 34))] [2,3,35] [] (.ite (oT 35) (oX [oB 4 (.mv (.const ob))] [4] [] (.ret)) (.skip))) (.keep [2,3] [] (.seq (oX [
 oE 36 24 2,oC 37 1 36,oB 38 (.len (oT 37)),oB 39 (.mv (oN 0))] [2,3,38,39] [] (rangeCC 0 39 38 40 1 (oX [oA 41 39,oA 5 41] [2,3,5,38,39] [] (.seq (.regd [oE 42 24 2,oC 43 1 42,oA 44 5,oB 45 (.iaddr 3 (oT 43) (oT 44)),oD 46 3 45,oE 47 24 3,oC 48 1 47,oA 49 5,oB 50 (.iaddr 3 (oT 48) (oT 49)),oD 51 3 50] [oB 52 (.eql true true [.int,.bool,.str] (oT 46) (oT 51))])
 (.keep [2,3,38,39,52] [] (.ite (oT 52) (oX [oB 4 (.mv (.const ob))] [4] [] (.ret)) (.skip))))) 53)) (.keep [] [] (oX [oB 4 (.mv (.const (.bool true)))] [4] [] (.ret))))))
def rs_r23_Same : List CRes := [.tmp 4]
def im_r23_Same : List Nat := [2, 3]
theorem ok_r23_Same : FnOk Tryz.prog f_r23_Same im_r23_Same cc_r23_Same rs_r23_Same 54 := fnOk1 mixed (by kernel_rfl)
-- r23_sameGlob range i=87 n=86 c=88 i2=102 id=0: live [2:a, 3:b] changed [] res []
def cc_r23_sameGlob : CC := oX [oB 2 (.box ty_Constraint true (oT 0)),oB 3 (.box ty_Constraint true (oT 1)),oB 4 (.mv (.const ob))] [2,3] [] (.seq (oX [oE 6 0 2,oC 7 1 6,oE 8 0 3,oC 9 1 8,oB 10 (.eql true false [.int] (oT 7) (oT 9)),oA 11 10,oI 12 11 (.faddr 1 (oT 2)),oI 13 11 (.load false 1 (oT 12)),oI 14 11 (.faddr 1 (oT 3)),oI 15 11 (.load false 1 (oT 14)),
 oI 16 11 (.eql true false [.str] (oT 13) (oT 15)),oB 17 (.pick (oT 11) (.const (.bool true)) (oT 16)),oA 18 17,oI 19 18 (.faddr 2 (oT 2)),oI 20 18 (.load false 1 (oT 19)),oI 21 18 (.faddr 2 (oT 3)),oI 22 18 (.load false 1 (oT 21)),oI 23 18 (.eql true false [.str] (oT 20) (oT 22)),oB 24 (.pick (oT 18) (.const (.bool true)) (oT 23)),oA 25 24,oI 26 25 (.faddr 3 (oT 2)),
 oI 27 25 (.load false 1 (oT 26)),oI 28 25 (.faddr 3 (oT 3)),oI 29 25 (.load false 1 (oT 28)),oI 30 25 (.eql true false [.str] (oT 27) (oT 29)),oB 31 (.pick (oT 25) (.const (.bool true)) (oT 30)),oA 32 31,oI 33 32 (.faddr 4 (oT 2)),oI 34 32 (.load false 1 (oT 33)),oI 35 32 (.faddr 4 (oT 3)),oI 36 32 (.load false 1 (oT 35)),oI 37 32 (.eql true false [.str] (oT 34) (oT 36)),
 oB 38 (.pick (oT 32) (.const (.bool true)) (oT 37)),oA 39 38,oI 40 39 (.faddr 5 (oT 2)),oI 41 39 (.load false 1 (oT 40)),oI 42 39 (.faddr 5 (oT 3)),oI 43 39 (.load false 1 (oT 42)),oI 44 39 (.eql true false [.str] (oT 41) (oT 43)),oB 45 (.pick (oT 39) (.const (.bool true)) (oT 44)),oA 46 45,oI 47 46 (.faddr 6 (oT 2)),oI 48 46 (.load false 1 (oT 47)),oI 49 46 (.faddr 6 (oT 3)),
 oI 50 46 (.load false 1 (oT 49)),oI 51 46 (.eql true false [.bool] (oT 48) (oT 50)),oB 52 (.pick (oT 46) (.const (.bool true)) (oT 51)),oA 53 52,oI 54 53 (.faddr 7 (oT 2)),oI 55 53 (.load false 1 (oT 54)),oI 56 53 (.faddr 7 (oT 3)),oI 57 53 (.load false 1 (oT 56)),oI 58 53 (.eql true false [.int] (oT 55) (oT 57)),oB 59 (.pick (oT 53) (.const (.bool true)) (oT 58)),oA 60 59,
 oI 61 60 (.faddr 8 (oT 2)),oI 62 60 (.load false 1 (oT 61)),oI 63 60 (.faddr 8 (oT 3)),oI 64 60 (.load false 1 (oT 63)),oI 65 60 (.eql true false [.int] (oT 62) (oT 64)),oB 66 (.pick (oT 60) (.const (.bool true)) (oT 65)),oA 67 66,oI 68 67 (.faddr 9 (oT 2)),oI 69 67 (.load false 1 (oT 68)),oI 70 67 (.faddr 9 (oT 3)),oI 71 67 (.load false 1 (oT 70)),
 oI 72 67 (.call f_r22_Texts [oT 69,oT 71]),oI 73 67 (.not (oT 72)),oB 74 (.pick (oT 67) (.const (.bool true)) (oT 73)),oA 75 74,oI 76 75 (.faddr 10 (oT 2)),oI 77 75 (.load false 1 (oT 76)),oI 78 75 (.len (oT 77)),oI 79 75 (.faddr 10 (oT 3)),oI 80 75 (.load false 1 (oT 79)),oI 81 75 (.len (oT 80)),oI 82 75 (.eql true false [.int] (oT 78) (oT 81)),
 oB 83 (.pick (oT 75) (.const (.bool true)) (oT 82))] [2,3,83] [] (.ite (oT 83) (oX [oB 4 (.mv (.const ob))] [4] [] (.ret)) (.skip))) (.keep [2,3] [] (.seq (oX [oE 84 10 2,oC 85 1 84,oB 86 (.len (oT 85)),oB 87 (.mv (oN 0))] [2,3,86,87] [] (rangeCC 0 87 86 88 1 (oX [oA 89 87,oA 5 89] [2,3,5,86,87] [] (.seq (.regd [oE 90 10 2,oC 91 1 90,oA 92 5,oB 93 (.iaddr 11 (oT 91) (oT 92)),
 oD 94 11 93,oE 95 10 3,oC 96 1 95,oA 97 5,oB 98 (.iaddr 11 (oT 96) (oT 97)),oD 99 11 98] [oZ 100 f_r23_sameGlob [oT 94,oT 99],oB 101 (.not (oT 100))]) (.keep [2,3,86,87,101] [] (.ite (oT 101) (oX [oB 4 (.mv (.const ob))] [4] [] (.ret)) (.skip))))) 102)) (.keep [] [] (oX [oB 4 (.mv (.const (.bool true)))] [4] [] (.ret))))))
def rs_r23_sameGlob : List CRes := [.tmp 4]
def im_r23_sameGlob : List Nat := [2, 3]
theorem ok_r23_sameGlob : FnOk Tryz.prog f_r23_sameGlob im_r23_sameGlob cc_r23_sameGlob rs_r23_sameGlob 103 := fnOk1 mixed (by kernel_rfl)
-- law23_QueryParses while id=0: live [0:s, 5:pieces, 6:typical, 7:t, 8:n] changed [6, 8] res []
-- law23_QueryParses range i=47 n=46 c=48 i2=77 id=2: live [45:] changed [] res []
def cc_law23_QueryParses : CC := oX [oB 4 (.mv (.const ob))] [0,1] [] (.seq (oX [oA 17 0,oB 18 (.slen (oT 17)),oB 19 (.cmp .gtr (oT 18) (oN 420))] [0,1,19] [] (.ite (oT 19) (oX [oB 4 (.mv (.const (.bool true)))] [4] [] (.ret)) (.skip))) (.keep [0,1] [] (oX [
 oB 20 (.bslice ty_string 1 [oS ⟨#[34,97,34]⟩,oS ⟨#[91]⟩,oS ⟨#[93]⟩,oS ⟨#[40]⟩,oS ⟨#[41]⟩,oS ⟨#[120]⟩,oS ⟨#[58]⟩,oS ⟨#[58,58]⟩,oS ⟨#[119,111,114,100]⟩,oS ⟨#[61]⟩,oS ⟨#[33,61]⟩,oS ⟨#[38]⟩,oS ⟨#[124]⟩,oS ⟨#[33]⟩,oS ⟨#[63]⟩,oS ⟨#[42]⟩,oS ⟨#[43]⟩,oS ⟨#[123]⟩,oS ⟨#[125]⟩,oS ⟨#[50]⟩,oS ⟨#[44]⟩,oS ⟨#[49]⟩,oS ⟨#[60]⟩,oS ⟨#[60,47]⟩,oS ⟨#[62]⟩,oS ⟨#[115]⟩,oS ⟨#[119,105,116,104,105,110]⟩,oS ⟨#[99,111,110,116,97,105,110,105,110,103]⟩,oS ⟨#[115,116,114,97,116,101,103,121]⟩,oS ⟨#[108,111,110,103,101,115,116]⟩,oS ⟨#[101,97,99,104]⟩,oS ⟨#[46]⟩,oS ⟨#[100,105,115,116,97,110,99,101]⟩,oS ⟨#[98,111,117,110,100]⟩,oS ⟨#[112,97,116,104]⟩,oS ⟨#[105,110]⟩,oS ⟨#[99,111,110,116,97,105,110,115]⟩,oS ⟨#[37,99]⟩,oS ⟨#[45]⟩,oS ⟨#[32]⟩]),
 oA 5 20] [0,1,5] [] (oX [oB 6 (.mv (oS ⟨#[]⟩))] [0,1,5,6] [] (oX [oA 21 1,oZ 22 f_m_New [oT 21],oA 7 22] [0,5,6,7] [] (.seq (oX [oA 23 7,oZ 24 f_m_Tape_Next [oT 23,oN 24],oA 8 24] [0,5,6,7,8] [] (.block 0 (.loop 1 (.seq (oX [oA 25 8,oB 26 (.cmp .gtr (oT 25) (oN 0))] [0,5,6,7,8,26] [] (.ite (oT 26) (.skip) (.exit 0))) (.keep [0,5,6,7,8] [] (.seq (.block 1 (oX [oA 29 6,oA 30 5,oA 31 7,
 oA 32 5,oB 33 (.len (oT 32)),oZ 34 f_m_Tape_Next [oT 31,oT 33],oB 35 (.iaddr 1 (oT 30) (oT 34)),oC 36 1 35,oB 37 (.scat (oT 29) (oT 36)),oA 6 37] [0,5,6,7,8] [] (oX [oA 38 7,oZ 39 f_m_Tape_Next [oT 38,oN 2],oB 40 (.eql false false [.int] (oT 39) (oN 1))] [0,5,6,7,8,40] [] (.ite (oT 40) (.reg [oA 41 6,oB 42 (.scat (oT 41) (oS ⟨#[32]⟩)),oA 6 42]) (.skip)))))
 (.keep [0,5,6,7,8] [] (.reg [oA 27 8,oB 28 (.arith .sub (oT 27) (oN 1)),oA 8 28])))))))) (.keep [0,6] [] (.seq (oX [oA 43 0,oA 44 6,oB 45 (.bslice ty_string 1 [oT 43,oT 44]),oB 46 (.len (oT 45)),oB 47 (.mv (oN 0))] [45,46,47] [] (rangeCC 2 47 46 48 3 (oX [oB 49 (.iaddr 1 (oT 45) (oT 47)),oC 50 1 49,oA 10 50] [10,45,46,47] [] (oX [oA 52 10,oZ 53 f_query_Parse [oT 52],oA 51 53,
 oB 54 (.ext (oT 51) 0),oB 55 (.ext (oT 51) 1),oB 56 (.ext (oT 51) 2),oB 11 (.alloc ty_Query [oi,oi,oe,oe,oe,oe,ob,on,oe,oe,oi,oi,on,oi,oe,oe,oe,oe,oe,ob,oi,oi,on,on,on,oi]),oF 26 11 54,oA 12 55,oA 13 56] [10,11,12,13,45,46,47] [11] (oX [oA 58 10,oZ 59 f_r23_Parse [oT 58],oA 57 59,oB 60 (.ext (oT 57) 0),oB 61 (.ext (oT 57) 1),oB 62 (.ext (oT 57) 2),
 oB 14 (.alloc ty_Query [oi,oi,oe,oe,oe,oe,ob,on,oe,oe,oi,oi,on,oi,oe,oe,oe,oe,oe,ob,oi,oi,on,on,on,oi]),oF 26 14 60,oA 15 61,oA 16 62] [11,12,13,14,15,16,45,46,47] [11,14] (oX [oA 63 13,oA 64 16,oB 65 (.eql true false [.int] (oT 63) (oT 64)),oA 66 65,oI 67 66 (.mv (oT 12)),oI 68 66 (.mv (oT 15)),oI 69 66 (.eql true false [.int] (oT 67) (oT 68)),
 oB 70 (.pick (oT 66) (.const (.bool true)) (oT 69)),oA 71 70,oI 72 71 (.load true 26 (oT 11)),oI 73 71 (.load true 26 (oT 14)),oI 74 71 (.call f_r23_Same [oT 72,oT 73]),oI 75 71 (.not (oT 74)),oB 76 (.pick (oT 71) (.const (.bool true)) (oT 75))] [45,46,47,76] [] (.ite (oT 76) (oX [oB 4 (.mv (.const ob))] [4] [] (.ret)) (.skip)))))) 77)) (.keep [] [] (oX [oZ 78 f_law23_known [],
 oA 4 78] [4] [] (.ret)))))))))))
def rs_law23_QueryParses : List CRes := [.tmp 4]
def im_law23_QueryParses : List Nat := []
theorem ok_law23_QueryParses : FnOk Tryz.prog f_law23_QueryParses im_law23_QueryParses cc_law23_QueryParses rs_law23_QueryParses 79 := fnOk1 mixed (by kernel_rfl)
-- law23_QueryBlanks while id=0: live [1:gaps, 6:s, 7:wide, 8:quoted, 9:i] changed [7, 8, 9] res []
end Go.Gv
