/- A part of the framework and of the walks: C70 W194. -/
import Derived.Test.YtphdikcommfnhaaGreatDoorGa22
import Derived.Test.YtphdikcommfnhaaGreatDoorGa36
import Derived.Test.YtphdikcommfnhaaGreatDoorGa42
set_option linter.unusedSimpArgs false
set_option linter.unusedVariables false
set_option maxRecDepth 100000

namespace Go.Gv
open Go.Proofs
def nU:CC:=oX [oB 2 (.mv (.const ob))] [0] [] (oX [oA 3 0,oB 4 (.cmp .geq (oT 3) (.const (.int .u8 65))),oA 5 4,oH 6 5 (.mv (oT 0)),oH 7 5 (.cmp .leq (oT 6) (.const (.int .u8 90))),oB 8 (.pick (oT 5) (oT 7) (.const ob)),oA 9 8,oI 10 9 (.mv (oT 0)),oI 11 9 (.cmp .geq (oT 10) (.const (.int .u8 97))),oI 12 9 (.mv (oT 11)),oH 13 12 (.mv (oT 0)),
 oH 14 12 (.cmp .leq (oT 13) (.const (.int .u8 122))),oI 15 9 (.pick (oT 12) (oT 14) (.const ob)),oB 16 (.pick (oT 9) (.const (.bool true)) (oT 15)),oA 17 16,oI 18 17 (.mv (oT 0)),oI 19 17 (.eql false false [.int] (oT 18) (.const (.int .u8 95))),oB 20 (.pick (oT 17) (.const (.bool true)) (oT 19)),oA 2 20] [2] [] (.ret))
def nL:List ar:= [.tmp 2]
def CS:List Nat:= []
theorem CK:ay Tryz.prog f9 CS nU nL 21:=ak mixed (by kernel_rfl)
def pS:CC:=oX [oB 2 (.mv (.const ob))] [0] [] (oX [oA 3 0,oB 4 (.cmp .geq (oT 3) (.const (.int .u8 48))),oA 5 4,oH 6 5 (.mv (oT 0)),oH 7 5 (.cmp .leq (oT 6) (.const (.int .u8 57))),oB 8 (.pick (oT 5) (oT 7) (.const ob)),oA 2 8] [2] [] (.ret))
def pk:List ar:= [.tmp 2]
def E2:List Nat:= []
theorem Ey:ay Tryz.prog fO E2 pS pk 9:=ak mixed (by kernel_rfl)
def s8:CC:=oX [oB 0 (.mv (.const on))] [] [] (oX [oB 1 (.bslice aL 1 [oS ⟨#[60,47]⟩,oS ⟨#[33,61]⟩,oS ⟨#[58,58]⟩,oS ⟨#[37,99]⟩,oS ⟨#[91]⟩,oS ⟨#[93]⟩,oS ⟨#[40]⟩,oS ⟨#[41]⟩,oS ⟨#[123]⟩,oS ⟨#[125]⟩,oS ⟨#[60]⟩,oS ⟨#[62]⟩,oS ⟨#[124]⟩,oS ⟨#[38]⟩,oS ⟨#[33]⟩,oS ⟨#[61]⟩,oS ⟨#[58]⟩,oS ⟨#[46]⟩,oS ⟨#[44]⟩,oS ⟨#[63]⟩,oS ⟨#[42]⟩,oS ⟨#[43]⟩,oS ⟨#[45]⟩]),oA 0 1] [0] [] (.ret))
def sw:List ar:= [.tmp 0]
def Jm:List Nat:= []
theorem I1:ay Tryz.prog nw Jm s8 sw 2:=ak mixed (by kernel_rfl)
def u4:CC:=oX [oB 2 (.mv (.const on))] [0] [] (oX [oB 3 (.mv (.const on))] [0,3] [83,121,147,200] (oX [oB 4 (.mv (oN 0))] [0,3,4] [83,121,147,200] (.block 0 (.loop 1 (.block 1 (qQ 3 (.block 2 (.loop 2 (.seq (oX [oA 10 4,oA 11 0,oB 12 (.slen (oT 11)),oB 13 (.cmp .lss (oT 10) (oT 12)),oA 14 13,oH 15 14 (.mv (oT 0)),oH 16 14 (.mv (oT 4)),oH 17 14 (.sidx (oT 15) (oT 16)),
 oH 18 14 (.eql false false [.int] (oT 17) (.const (.int .u8 32))),oH 19 14 (.mv (oT 18)),oI 20 19 (.mv (oT 0)),oI 21 19 (.mv (oT 4)),oI 22 19 (.sidx (oT 20) (oT 21)),oI 23 19 (.eql false false [.int] (oT 22) (.const (.int .u8 10))),oH 24 14 (.pick (oT 19) (.const (.bool true)) (oT 23)),oB 25 (.pick (oT 14) (oT 24) (.const ob))] [0,3,4,25] [83,121,147,200] (.ite (oT 25) (.skip) (.exit 2)))
 (.keep [0,3,4] [83,121,147,200] (.block 3 (.reg [oA 26 4,oB 27 (.arith .add (oT 26) (oN 1)),oA 4 27])))))) (.keep [0,3,4] [83,121,147,200] (.seq (oX [oA 28 4,oA 29 0,oB 30 (.slen (oT 29)),oB 31 (.eql false false [.int] (oT 28) (oT 30))] [0,3,4,31] [83,121,147,200] (.ite (oT 31) (oX [oA 32 3,oA 33 4,
 oB 34 (.build [.int .u8 0,oe,oi] [(0,1,.const (.int .u8 101)),(1,1,oS ⟨#[]⟩),(2,1,oT 33)]),oB 35 (.bslice aj 3 [oT 34]),oB 36 (.append (some 200) aj 3 32 (oT 32) (oT 35)),oA 2 36] [2] [36,74,83,121,147,192,200] (.ret)) (.skip))) (.keep [0,3,4] [83,121,147,200] (oX [oA 37 4,oA 5 37] [0,3,4,5] [83,121,147,200] (qQ 10 (.block 4 (oX [oA 85 0,oA 86 4,
 oB 87 (.sidx (oT 85) (oT 86)),oZ 88 f9 [oT 87],oA 84 88] [0,3,4,5,84] [83,121,147,200] (.ite (oT 84) (.seq (.block 7 (.loop 3 (.seq (oX [oA 89 5,oA 90 0,oB 91 (.slen (oT 90)),oB 92 (.cmp .lss (oT 89) (oT 91)),oA 93 92,oH 94 93 (.mv (oT 0)),oH 95 93 (.mv (oT 5)),oH 96 93 (.sidx (oT 94) (oT 95)),oH 97 93 (.call f9 [oT 96]),oH 98 93 (.mv (oT 97)),
 oI 99 98 (.mv (oT 0)),oI 100 98 (.mv (oT 5)),oI 101 98 (.sidx (oT 99) (oT 100)),oI 102 98 (.call fO [oT 101]),oH 103 93 (.pick (oT 98) (.const (.bool true)) (oT 102)),oH 104 93 (.mv (oT 103)),oI 105 104 (.mv (oT 0)),oI 106 104 (.mv (oT 5)),oI 107 104 (.sidx (oT 105) (oT 106)),oI 108 104 (.eql false false [.int] (oT 107) (.const (.int .u8 45))),
 oH 109 93 (.pick (oT 104) (.const (.bool true)) (oT 108)),oB 110 (.pick (oT 93) (oT 109) (.const ob))] [0,3,4,5,110] [83,121,147,200] (.ite (oT 110) (.skip) (.exit 7))) (.keep [0,3,4,5] [83,121,147,200] (.block 8 (.reg [oA 111 5,oB 112 (.arith .add (oT 111) (oN 1)),oA 5 112])))))) (.keep [0,3,4,5] [83,121,147,200] (.reg [oA 113 3,oA 114 0,oA 115 4,oA 116 5,
 oB 117 (.sslice (oT 114) (some (oT 115)) (some (oT 116))),oA 118 4,oB 119 (.build [.int .u8 0,oe,oi] [(0,1,.const (.int .u8 110)),(1,1,oT 117),(2,1,oT 118)]),oB 120 (.bslice aj 3 [oT 119]),oB 121 (.append (some 200) aj 3 32 (oT 113) (oT 120)),oA 3 121]))) (oX [oA 123 0,oA 124 4,oB 125 (.sidx (oT 123) (oT 124)),oZ 126 fO [oT 125],
 oA 122 126] [0,3,4,5,122] [83,121,147,200] (.ite (oT 122) (.seq (.block 9 (.loop 4 (.seq (oX [oA 127 5,oA 128 0,oB 129 (.slen (oT 128)),oB 130 (.cmp .lss (oT 127) (oT 129)),oA 131 130,oH 132 131 (.mv (oT 0)),oH 133 131 (.mv (oT 5)),oH 134 131 (.sidx (oT 132) (oT 133)),oH 135 131 (.call fO [oT 134]),
 oB 136 (.pick (oT 131) (oT 135) (.const ob))] [0,3,4,5,136] [83,121,147,200] (.ite (oT 136) (.skip) (.exit 9))) (.keep [0,3,4,5] [83,121,147,200] (.block 10 (.reg [oA 137 5,oB 138 (.arith .add (oT 137) (oN 1)),oA 5 138])))))) (.keep [0,3,4,5] [83,121,147,200] (.reg [oA 139 3,oA 140 0,oA 141 4,oA 142 5,oB 143 (.sslice (oT 140) (some (oT 141)) (some (oT 142))),oA 144 4,
 oB 145 (.build [.int .u8 0,oe,oi] [(0,1,.const (.int .u8 100)),(1,1,oT 143),(2,1,oT 144)]),oB 146 (.bslice aj 3 [oT 145]),oB 147 (.append (some 200) aj 3 32 (oT 139) (oT 146)),oA 3 147]))) (oX [oA 149 0,oA 150 4,oB 151 (.sidx (oT 149) (oT 150)),oB 152 (.eql false false [.int] (oT 151) (.const (.int .u8 34))),
 oA 148 152] [0,3,4,5,148] [83,121,147,200] (.ite (oT 148) (oX [oB 6 (.mv (oS ⟨#[]⟩)),oB 7 (.mv (.const ob))] [0,3,4,6,7] [83,121,147,200] (.seq (oX [oA 153 4,oB 154 (.arith .add (oT 153) (oN 1)),oA 5 154] [0,3,4,5,6,7] [83,121,147,200] (.block 11 (.loop 5 (.seq (oX [oA 155 5,oA 156 0,oB 157 (.slen (oT 156)),
 oB 158 (.cmp .lss (oT 155) (oT 157))] [0,3,4,5,6,7,158] [83,121,147,200] (.ite (oT 158) (.skip) (.exit 11))) (.keep [0,3,4,5,6,7] [83,121,147,200] (.seq (.block 12 (.seq (oX [oA 161 0,oA 162 5,oB 163 (.sidx (oT 161) (oT 162)),oB 164 (.eql false false [.int] (oT 163) (.const (.int .u8 34)))] [0,3,4,5,6,7,164] [83,121,147,200] (.ite (oT 164) (oX [oA 165 5,oB 166 (.arith .add (oT 165) (oN 1)),
 oA 167 0,oB 168 (.slen (oT 167)),oB 169 (.cmp .lss (oT 166) (oT 168)),oA 170 169,oH 171 170 (.mv (oT 0)),oH 172 170 (.mv (oT 5)),oH 173 170 (.arith .add (oT 172) (oN 1)),oH 174 170 (.sidx (oT 171) (oT 173)),oH 175 170 (.eql false false [.int] (oT 174) (.const (.int .u8 34))),oB 176 (.pick (oT 170) (oT 175) (.const ob))] [0,3,4,5,6,7,176] [83,121,147,200] (.ite (oT 176) (.reg [oA 177 5,
 oB 178 (.arith .add (oT 177) (oN 1)),oA 5 178]) (oX [oB 7 (.mv (.const (.bool true)))] [0,3,4,5,6,7] [83,121,147,200] (.exit 11)))) (.skip))) (.keep [0,3,4,5,6,7] [83,121,147,200] (.reg [oA 179 6,oA 180 0,oA 181 5,oA 182 5,oB 183 (.arith .add (oT 182) (oN 1)),oB 184 (.sslice (oT 180) (some (oT 181)) (some (oT 183))),oB 185 (.scat (oT 179) (oT 184)),oA 6 185]))))
 (.keep [0,3,4,5,6,7] [83,121,147,200] (.reg [oA 159 5,oB 160 (.arith .add (oT 159) (oN 1)),oA 5 160])))))))) (.keep [0,3,4,5,6,7] [83,121,147,200] (.seq (oX [oA 186 7,oB 187 (.not (oT 186))] [0,3,4,5,6,187] [83,121,147,200] (.ite (oT 187) (oX [oA 188 3,oA 189 4,oB 190 (.build [.int .u8 0,oe,oi] [(0,1,.const (.int .u8 120)),(1,1,oS ⟨#[]⟩),(2,1,oT 189)]),
 oB 191 (.bslice aj 3 [oT 190]),oB 192 (.append (some 200) aj 3 32 (oT 188) (oT 191)),oA 2 192] [2] [36,74,83,121,147,192,200] (.ret)) (.skip))) (.keep [0,3,4,5,6] [83,121,147,200] (oX [oA 193 5,oB 194 (.arith .add (oT 193) (oN 1)),oA 5 194] [0,3,4,5,6] [83,121,147,200] (.reg [oA 195 3,oA 196 6,oA 197 4,
 oB 198 (.build [.int .u8 0,oe,oi] [(0,1,.const (.int .u8 115)),(1,1,oT 196),(2,1,oT 197)]),oB 199 (.bslice aj 3 [oT 198]),oB 200 (.append (some 200) aj 3 32 (oT 195) (oT 199)),oA 3 200]))))))) (.seq (oX [oZ 38 nw [],oB 39 (.len (oT 38)),oB 40 (.mv (oN 0))] [0,3,4,5,38,39,40] [83,121,147,200] (aP 5 40 39 41 6 (oX [
 oB 42 (.iaddr 1 (oT 38) (oT 40)),oC 43 1 42,oA 9 43] [0,3,4,5,9,38,39,40] [83,121,147,200] (oX [oA 44 0,oB 45 (.slen (oT 44)),oA 46 4,oB 47 (.arith .sub (oT 45) (oT 46)),oA 48 9,oB 49 (.slen (oT 48)),oB 50 (.cmp .geq (oT 47) (oT 49)),oA 51 50,oH 52 51 (.mv (oT 0)),oH 53 51 (.mv (oT 4)),oH 54 51 (.mv (oT 4)),oH 55 51 (.mv (oT 9)),oH 56 51 (.slen (oT 55)),
 oH 57 51 (.arith .add (oT 54) (oT 56)),oH 58 51 (.sslice (oT 52) (some (oT 53)) (some (oT 57))),oH 59 51 (.mv (oT 9)),oH 60 51 (.eql false false [.str] (oT 58) (oT 59)),oB 61 (.pick (oT 51) (oT 60) (.const ob))] [0,3,4,5,9,38,39,40,61] [83,121,147,200] (.ite (oT 61) (oX [oA 62 4,oA 63 9,oB 64 (.slen (oT 63)),oB 65 (.arith .add (oT 62) (oT 64)),
 oA 5 65] [0,3,4,5] [83,121,147,200] (.exit 5)) (.skip)))) 66)) (.keep [0,3,4,5] [83,121,147,200] (.seq (oX [oA 67 5,oA 68 4,oB 69 (.eql false false [.int] (oT 67) (oT 68))] [0,3,4,5,69] [83,121,147,200] (.ite (oT 69) (oX [oA 70 3,oA 71 4,oB 72 (.build [.int .u8 0,oe,oi] [(0,1,.const (.int .u8 120)),(1,1,oS ⟨#[]⟩),(2,1,oT 71)]),oB 73 (.bslice aj 3 [oT 72]),
 oB 74 (.append (some 200) aj 3 32 (oT 70) (oT 73)),oA 2 74] [2] [36,74,83,121,147,192,200] (.ret)) (.skip))) (.keep [0,3,4,5] [83,121,147,200] (.reg [oA 75 3,oA 76 0,oA 77 4,oA 78 5,oB 79 (.sslice (oT 76) (some (oT 77)) (some (oT 78))),oA 80 4,oB 81 (.build [.int .u8 0,oe,oi] [(0,1,.const (.int .u8 111)),(1,1,oT 79),(2,1,oT 80)]),
 oB 82 (.bslice aj 3 [oT 81]),oB 83 (.append (some 200) aj 3 32 (oT 75) (oT 82)),oA 3 83])))))))))))) (.keep [0,3,5] [83,121,147,200] (.reg [oA 201 5,oA 4 201])))))))))))))
def uk:List ar:= [.tmp 2]
def K2:List Nat:= [1036200,1074200,1083200,1121200,1147200,1192200,1200200]
theorem KG:ay Tryz.prog pJ K2 u4 uk 202:=ak mixed (by kernel_rfl)
def l9:CC:=oX [oB 2 (.alloc aj [.int .u8 0,oe,oi])] [0,2] [0,2] (.seq (.regd [oA 3 0,oG 4 3,oE 5 0 4,oC 6 1 5,oA 7 0,oG 8 7,oE 9 1 8,oC 10 1 9] [oB 11 (.iaddr 3 (oT 6) (oT 10)),oD 12 3 11,.op none none (.store (some 2) 3 (oT 2) (oT 12))]) (.keep [2] [0,2] (.ret)))
def lw:List ar:= [.cell 2 true 3]
def zA:List Nat:= [2002002]
theorem yZ:ay Tryz.prog av zA l9 lw 13:=ak mixed (by kernel_rfl)
def kM:CC:=oX [oB 2 (.alloc aj [.int .u8 0,oe,oi])] [0,2] [0,2] (.seq (.regd [oA 3 0,oG 4 3,oE 5 0 4,oC 6 1 5,oA 7 0,oG 8 7,oE 9 1 8,oC 10 1 9,oB 11 (.arith .add (oT 10) (oN 1)),oA 12 0,oG 13 12,oE 14 0 13,oC 15 1 14,oB 16 (.len (oT 15)),oB 17 (.arith .sub (oT 16) (oN 1)),oB 18 (.mm false [oT 11,oT 17])] [oB 19 (.iaddr 3 (oT 6) (oT 18)),
 oD 20 3 19,.op none none (.store (some 2) 3 (oT 2) (oT 20))]) (.keep [2] [0,2] (.ret)))
def kz:List ar:= [.cell 2 true 3]
def xq:List Nat:= [2002002]
theorem wU:ay Tryz.prog fw xq kM kz 21:=ak mixed (by kernel_rfl)
def jj:CC:=oX [oB 6 (.mv (.const ob))] [0,1,2] [0] (oX [oA 7 0,oG 8 7,oE 9 3 8,oC 10 1 9,oB 11 (.eql false false [.int] (oT 10) (oN 0)),oA 12 11,oH 13 12 (.mv (oT 0)),oH 14 12 (.call av [oT 13]),oH 15 12 (.fld false 1 0 (oT 14)),oH 16 12 (.mv (oT 1)),oH 17 12 (.eql false false [.int] (oT 15) (oT 16)),oB 18 (.pick (oT 12) (oT 17) (.const ob)),oA 19 18,
 oH 20 19 (.mv (oT 0)),oH 21 19 (.call av [oT 20]),oH 22 19 (.fld false 1 1 (oT 21)),oH 23 19 (.mv (oT 2)),oH 24 19 (.eql false false [.str] (oT 22) (oT 23)),oB 25 (.pick (oT 19) (oT 24) (.const ob)),oA 6 25] [6] [0] (.ret))
def jd:List ar:= [.tmp 6]
def Bd:List Nat:= []
theorem AU:ay Tryz.prog bV Bd jj jd 26:=ak mixed (by kernel_rfl)
def ma:CC:=oX [oB 4 (.mv (.const ob))] [0,1] [0] (.seq (oX [oA 5 0,oA 6 1,oZ 7 bV [oT 5,.const (.int .u8 111),oT 6]] [0,7] [0] (.ite (oT 7) (oX [oA 8 0,oG 9 8,oE 10 1 9,oC 11 1 10,oB 12 (.arith .add (oT 11) (oN 1)),oG 13 8,oE 14 1 13,oF 1 14 12] [] [0] (oX [oB 4 (.mv (.const (.bool true)))] [4] [0] (.ret))) (.skip))) (.keep [] [0] (oX [
 oB 4 (.mv (.const ob))] [4] [0] (.ret))))
def lz:List ar:= [.tmp 4]
def zB:List Nat:= []
theorem za:ay Tryz.prog au zB ma lz 15:=ak mixed (by kernel_rfl)
def kL:CC:=oX [oB 6 (.mv (oS ⟨#[]⟩))] [0,1,2] [0] (oX [oA 8 0,oZ 9 av [oT 8],oB 7 (.alloc aj [.int .u8 0,oe,oi]),oF 3 7 9] [0,1,2,7] [0,7] (.seq (oX [oA 10 0,oG 11 10,oE 12 3 11,oC 13 1 12,oB 14 (.eql true false [.int] (oT 13) (oN 0))] [0,1,2,7,14] [0,7] (.ite (oT 14) (oX [oB 6 (.mv (oS ⟨#[]⟩))] [6] [0] (.ret)) (.skip)))
 (.keep [0,1,2,7] [0,7] (.seq (oX [oE 15 0 7,oC 16 1 15,oA 17 1,oB 18 (.eql true false [.int] (oT 16) (oT 17)),oA 19 18,oI 20 19 (.mv (oT 1)),oI 21 19 (.eql false false [.int] (oT 20) (.const (.int .u8 111))),oI 22 19 (.mv (oT 21)),oH 23 22 (.faddr 1 (oT 7)),oH 24 22 (.load false 1 (oT 23)),oH 25 22 (.mv (oT 2)),oH 26 22 (.eql true false [.str] (oT 24) (oT 25)),
 oI 27 19 (.pick (oT 22) (oT 26) (.const ob)),oB 28 (.pick (oT 19) (.const (.bool true)) (oT 27))] [0,7,28] [0,7] (.ite (oT 28) (oX [oA 29 0,oZ 30 gD [oT 29]] [] [0] (oX [oB 6 (.mv (oS ⟨#[]⟩))] [6] [0] (.ret))) (.skip))) (.keep [0,7] [0,7] (oX [oA 31 0,oG 32 31,oE 33 1 32,oC 34 1 33,oB 35 (.arith .add (oT 34) (oN 1)),oG 36 31,oE 37 1 36,oF 1 37 35] [7] [0,7] (oX [
 oE 38 1 7,oC 39 1 38,oA 6 39] [6] [0] (.ret))))))))
def kw:List ar:= [.tmp 6]
def xp:List Nat:= []
theorem wT:ay Tryz.prog aK xp kL kw 40:=ak mixed (by kernel_rfl)
def kN:CC:=oX [oB 2 (.mv (.const ob))] [0] [0] (oX [oA 3 0,oZ 4 au [oT 3,oS ⟨#[37,99]⟩],oA 2 4] [2] [0] (.ret))
def kA:List ar:= [.tmp 2]
def xt:List Nat:= []
theorem wW:ay Tryz.prog fA xt kN kA 5:=ak mixed (by kernel_rfl)
def fH:CC:=oX [oB 2 (.mv (.const ob))] [0] [0] (oX [oA 5 0,oZ 6 av [oT 5],oB 3 (.alloc aj [.int .u8 0,oe,oi]),oF 3 3 6] [0,3] [0,3] (.seq (oX [oA 7 0,oG 8 7,oE 9 3 8,oC 10 1 9,oB 11 (.eql true false [.int] (oT 10) (oN 0))] [0,3,11] [0,3] (.ite (oT 11) (oX [oB 2 (.mv (.const ob))] [2] [0] (.ret)) (.skip)))
 (.keep [0,3] [0,3] (.seq (oX [oE 12 0 3,oC 13 1 12,oB 14 (.eql false false [.int] (oT 13) (.const (.int .u8 110)))] [0,3,14] [0,3] (.ite (oT 14) (oX [oA 15 0,oZ 16 fw [oT 15],oB 4 (.alloc aj [.int .u8 0,oe,oi]),oF 3 4 16] [0,4] [0,4] (.seq (oX [oE 17 0 4,oC 18 1 17,oB 19 (.eql false false [.int] (oT 18) (.const (.int .u8 111))),oA 20 19,
 oH 21 20 (.faddr 1 (oT 4)),oH 22 20 (.load false 1 (oT 21)),oH 23 20 (.eql false false [.str] (oT 22) (oS ⟨#[58]⟩)),oB 24 (.pick (oT 20) (oT 23) (.const ob))] [0,24] [0] (.ite (oT 24) (oX [oB 2 (.mv (.const (.bool true)))] [2] [0] (.ret)) (.skip))) (.keep [0] [0] (oX [oA 25 0,oG 26 25,oE 27 2 26,oC 28 1 27,oB 29 (.cmp .gtr (oT 28) (oN 0)),oA 30 29,oI 31 30 (.mv (oT 0)),
 oI 32 30 (.call zU [oT 31]),oI 33 30 (.not (oT 32)),oB 34 (.pick (oT 30) (.const (.bool true)) (oT 33)),oA 2 34] [2] [0] (.ret))))) (.skip))) (.keep [3] [0,3] (oX [oE 35 0 3,oC 36 1 35,oB 37 (.eql false false [.int] (oT 36) (.const (.int .u8 115))),oA 38 37,oI 39 38 (.faddr 0 (oT 3)),oI 40 38 (.load false 1 (oT 39)),
 oI 41 38 (.eql false false [.int] (oT 40) (.const (.int .u8 111))),oI 42 38 (.mv (oT 41)),oH 43 42 (.faddr 1 (oT 3)),oH 44 42 (.load false 1 (oT 43)),oH 45 42 (.eql false false [.str] (oT 44) (oS ⟨#[91]⟩)),oH 46 42 (.mv (oT 45)),oI 47 46 (.faddr 1 (oT 3)),oI 48 46 (.load false 1 (oT 47)),oI 49 46 (.eql false false [.str] (oT 48) (oS ⟨#[60]⟩)),
 oH 50 42 (.pick (oT 46) (.const (.bool true)) (oT 49)),oH 51 42 (.mv (oT 50)),oI 52 51 (.faddr 1 (oT 3)),oI 53 51 (.load false 1 (oT 52)),oI 54 51 (.eql false false [.str] (oT 53) (oS ⟨#[60,47]⟩)),oH 55 42 (.pick (oT 51) (.const (.bool true)) (oT 54)),oH 56 42 (.mv (oT 55)),oI 57 56 (.faddr 1 (oT 3)),oI 58 56 (.load false 1 (oT 57)),
 oI 59 56 (.eql false false [.str] (oT 58) (oS ⟨#[40]⟩)),oH 60 42 (.pick (oT 56) (.const (.bool true)) (oT 59)),oI 61 38 (.pick (oT 42) (oT 60) (.const ob)),oB 62 (.pick (oT 38) (.const (.bool true)) (oT 61)),oA 2 62] [2] [0] (.ret)))))))
def fp:List ar:= [.tmp 2]
def uO:List Nat:= []
theorem uw:ay Tryz.prog eo uO fH fp 63:=ak mixed (by kernel_rfl)
def dE:CC:=oX [oB 2 (.alloc aq [oi,oi,oe,oe,oe,oe,ob,on,oe,oe,oi,oi,on])] [0,2] [0,2] (.seq (.block 0 (oX [oA 8 0,oZ 9 au [oT 8,oS ⟨#[40]⟩],oA 7 9] [0,2,7] [0,2] (.ite (oT 7) (oX [oA 10 0,oG 11 10,oE 12 2 11,oC 13 1 12,oB 14 (.arith .add (oT 13) (oN 1)),oG 15 10,oE 16 2 15,oF 1 16 14] [0,2] [0,2] (oX [oA 17 0,oZ 18 eJ [oT 17],
 oB 3 (.alloc aq [oi,oi,oe,oe,oe,oe,ob,on,oe,oe,oi,oi,on]),oF 13 3 18] [0,2,3] [0,2,3] (oX [oA 19 0,oG 20 19,oE 21 2 20,oC 22 1 21,oB 23 (.arith .sub (oT 22) (oN 1)),oG 24 19,oE 25 2 24,oF 1 25 23] [0,2,3] [0,2,3] (oX [oA 26 0,oZ 27 aK [oT 26,.const (.int .u8 111),oS ⟨#[41]⟩]] [2,3] [0,2,3] (oX [oD 28 13 3,oF 13 2 28] [2] [0,2] (.ret)))))) (oX [oA 30 0,
 oZ 31 au [oT 30,oS ⟨#[60]⟩],oA 29 31] [0,2,29] [0,2] (.ite (oT 29) (oX [oA 32 0,oZ 33 aK [oT 32,.const (.int .u8 110),oS ⟨#[]⟩],oB 34 (.build [oi,oi,oe,oe,oe,oe,ob,on,oe,oe,oi,oi,on] [(0,1,oN 2),(9,1,oT 33)]),oB 4 (.alloc aq [oi,oi,oe,oe,oe,oe,ob,on,oe,oe,oi,oi,on]),oF 13 4 34] [0,2,4] [0,2,4] (oX [oA 35 0,
 oZ 36 aK [oT 35,.const (.int .u8 111),oS ⟨#[62]⟩]] [2,4] [0,2,4] (oX [oD 37 13 4,oF 13 2 37] [2] [0,2] (.ret)))) (oX [oA 39 0,oZ 40 au [oT 39,oS ⟨#[60,47]⟩],oA 38 40] [0,2,38] [0,2] (.ite (oT 38) (oX [oA 41 0,oZ 42 aK [oT 41,.const (.int .u8 110),oS ⟨#[]⟩],oB 43 (.build [oi,oi,oe,oe,oe,oe,ob,on,oe,oe,oi,oi,on] [(0,1,oN 3),(9,1,oT 42)]),
 oB 5 (.alloc aq [oi,oi,oe,oe,oe,oe,ob,on,oe,oe,oi,oi,on]),oF 13 5 43] [0,2,5] [0,2,5] (oX [oA 44 0,oZ 45 aK [oT 44,.const (.int .u8 111),oS ⟨#[62]⟩]] [2,5] [0,2,5] (oX [oD 46 13 5,oF 13 2 46] [2] [0,2] (.ret)))) (.skip)))))))) (.keep [0,2] [0,2] (oX [oB 47 (.build [oi,oi,oe,oe,oe,oe,ob,on,oe,oe,oi,oi,on] [(0,1,oN 1)]),
 oB 6 (.alloc aq [oi,oi,oe,oe,oe,oe,ob,on,oe,oe,oi,oi,on]),oF 13 6 47] [0,2,6] [0,2,6] (.seq (oX [oA 48 0,oG 49 48,oE 50 3 49,oC 51 1 50,oB 52 (.eql false false [.int] (oT 51) (oN 0)),oA 53 52,oH 54 53 (.mv (oT 0)),oH 55 53 (.call av [oT 54]),oH 56 53 (.fld false 1 0 (oT 55)),oH 57 53 (.eql false false [.int] (oT 56) (.const (.int .u8 110))),
 oB 58 (.pick (oT 53) (oT 57) (.const ob))] [0,2,6,58] [0,2,6] (.ite (oT 58) (oX [oA 59 0,oZ 60 aK [oT 59,.const (.int .u8 110),oS ⟨#[]⟩],oE 61 8 6,oF 1 61 60] [0,2,6] [0,2,6] (.reg [oA 62 0,oZ 63 aK [oT 62,.const (.int .u8 111),oS ⟨#[58]⟩]])) (.skip))) (.keep [0,2,6] [0,2,6] (.seq (oX [oA 64 0,oG 65 64,oE 66 3 65,oC 67 1 66,
 oB 68 (.eql false false [.int] (oT 67) (oN 0)),oA 69 68,oH 70 69 (.mv (oT 0)),oH 71 69 (.call av [oT 70]),oH 72 69 (.fld false 1 0 (oT 71)),oH 73 69 (.eql false false [.int] (oT 72) (.const (.int .u8 115))),oB 74 (.pick (oT 69) (oT 73) (.const ob))] [0,2,6,74] [0,2,6] (.ite (oT 74) (oX [oA 75 0,oZ 76 aK [oT 75,.const (.int .u8 115),oS ⟨#[]⟩],
 oB 77 (.build [oi,oe,oe,oe,oe,ob,on] [(0,1,oN 2),(3,1,oT 76)]),oE 78 1 6,oF 7 78 77] [0,2,6] [0,2,6] (oX [oA 79 0,oZ 80 fA [oT 79],oE 81 1 6,oE 82 5 81,oF 1 82 80] [2,6] [0,2,6] (oX [oD 83 13 6,oF 13 2 83] [2] [0,2] (.ret)))) (.skip))) (.keep [0,2,6] [0,2,6] (oX [oA 84 0,oZ 85 aK [oT 84,.const (.int .u8 111),oS ⟨#[91]⟩]] [0,2,6] [0,2,6] (.seq (oX [
 oA 86 0,oZ 87 au [oT 86,oS ⟨#[93]⟩]] [0,2,6,87] [0,2,6] (.ite (oT 87) (oX [oB 88 (.build [oi,oe,oe,oe,oe,ob,on] [(0,1,oN 1)]),oE 89 1 6,oF 7 89 88] [2,6] [0,2,6] (oX [oD 90 13 6,oF 13 2 90] [2] [0,2] (.ret))) (.skip))) (.keep [0,2,6] [0,2,6] (oX [oA 91 0,oZ 92 CZ [oT 91],oE 93 1 6,oF 7 93 92] [0,2,6] [0,2,6] (oX [oA 94 0,
 oZ 95 aK [oT 94,.const (.int .u8 111),oS ⟨#[93]⟩]] [2,6] [0,2,6] (oX [oD 96 13 6,oF 13 2 96] [2] [0,2] (.ret))))))))))))))
def dy:List ar:= [.cell 2 true 13]
def xr:List Nat:= []
theorem wV:ay Tryz.prog fy xr dE dy 97:=ak mixed (by kernel_rfl)
def l8:CC:=oX [oB 2 (.alloc aq [oi,oi,oe,oe,oe,oe,ob,on,oe,oe,oi,oi,on])] [0,2] [0,2] (oX [oA 7 0,oZ 8 fy [oT 7],oB 3 (.alloc aq [oi,oi,oe,oe,oe,oe,ob,on,oe,oe,oi,oi,on]),oF 13 3 8] [0,2,3] [0,2,3] (.seq (.block 0 (.loop 1 (.seq (oX [oA 9 0,oG 10 9,oE 11 3 10,oC 12 1 11,
 oB 13 (.eql false false [.int] (oT 12) (oN 0))] [0,2,3,13] [0,2,3] (.ite (oT 13) (.skip) (.exit 0))) (.keep [0,2,3] [0,2,3] (.block 1 (oX [oA 14 0,oZ 15 av [oT 14],oB 16 (.fld false 1 2 (oT 15)),oA 4 16] [0,2,3,4] [0,2,3] (oX [oB 5 (.mv (oN 0)),oB 6 (.mv (oN (-1)))] [0,2,3,4,5,6] [0,2,3] (.seq (.block 2 (oX [oA 19 0,oZ 20 au [oT 19,oS ⟨#[63]⟩],
 oA 18 20] [0,2,3,4,5,6,18] [0,2,3] (.ite (oT 18) (.reg [oB 6 (.mv (oN 1))]) (oX [oA 22 0,oZ 23 au [oT 22,oS ⟨#[42]⟩],oA 21 23] [0,2,3,4,5,6,21] [0,2,3] (.ite (oT 21) (.skip) (oX [oA 25 0,oZ 26 au [oT 25,oS ⟨#[43]⟩],oA 24 26] [0,2,3,4,6,24] [0,2,3] (.ite (oT 24) (.reg [oB 5 (.mv (oN 1))]) (oX [oA 28 0,oZ 29 au [oT 28,oS ⟨#[123]⟩],
 oA 27 29] [0,2,3,4,27] [0,2,3] (.ite (oT 27) (oX [oA 30 0,oA 31 4,oZ 32 n9 [oT 30,oN 16,oT 31],oA 5 32] [0,2,3,4,5] [0,2,3] (oX [oA 33 5,oA 6 33] [0,2,3,4,5,6] [0,2,3] (.seq (oX [oA 34 0,oZ 35 au [oT 34,oS ⟨#[44]⟩]] [0,2,3,4,5,6,35] [0,2,3] (.ite (oT 35) (oX [oB 6 (.mv (oN (-1)))] [0,2,3,4,5,6] [0,2,3] (oX [oA 36 0,oG 37 36,oE 38 3 37,oC 39 1 38,
 oB 40 (.eql false false [.int] (oT 39) (oN 0)),oA 41 40,oH 42 41 (.mv (oT 0)),oH 43 41 (.call av [oT 42]),oH 44 41 (.fld false 1 0 (oT 43)),oH 45 41 (.eql false false [.int] (oT 44) (.const (.int .u8 100))),oB 46 (.pick (oT 41) (oT 45) (.const ob))] [0,2,3,4,5,6,46] [0,2,3] (.ite (oT 46) (oX [oA 47 0,oA 48 4,oZ 49 n9 [oT 47,oN 16,oT 48],
 oA 6 49] [0,2,3,4,5,6] [0,2,3] (oX [oA 50 6,oA 51 5,oB 52 (.cmp .lss (oT 50) (oT 51))] [0,2,3,4,5,6,52] [0,2,3] (.ite (oT 52) (.reg [oA 53 0,oA 54 4,oZ 55 xN [oT 53,oN 8,oT 54]]) (.skip)))) (.skip)))) (.skip))) (.keep [0,2,3,5,6] [0,2,3] (.reg [oA 56 0,oZ 57 aK [oT 56,.const (.int .u8 111),oS ⟨#[125]⟩]]))))) (oX [oD 17 13 3,
 oF 13 2 17] [2] [0,2] (.ret))))))))))) (.keep [0,2,3,5,6] [0,2,3] (.reg [oA 58 5,oA 59 6,oD 60 13 3,oB 61 (.bslice aq 13 [oT 60]),oB 62 (.build [oi,oi,oe,oe,oe,oe,ob,on,oe,oe,oi,oi,on] [(0,1,oN 6),(10,1,oT 58),(11,1,oT 59),(12,1,oT 61)]),oF 13 3 62])))))))))) (.keep [2,3] [0,2,3] (oX [oD 63 13 3,oF 13 2 63] [2] [0,2] (.ret)))))
def lu:List ar:= [.cell 2 true 13]
def zz:List Nat:= []
theorem yY:ay Tryz.prog eI zz l8 lu 64:=ak mixed (by kernel_rfl)
def l7:CC:=oX [oB 2 (.alloc aq [oi,oi,oe,oe,oe,oe,ob,on,oe,oe,oi,oi,on])] [0,2] [0,2,6,13] (oX [oA 4 0,oZ 5 eI [oT 4],oB 6 (.mslice aq 13 [oT 5]),oA 3 6] [0,2,3] [0,2,6,13] (.seq (.block 0 (.loop 1 (.seq (oX [oA 7 0,oZ 8 eo [oT 7]] [0,2,3,8] [0,2,6,13] (.ite (oT 8) (.skip) (.exit 0)))
 (.keep [0,2,3] [0,2,6,13] (.block 1 (.reg [oA 9 3,oA 10 0,oZ 11 eI [oT 10],oB 12 (.bslice aq 13 [oT 11]),oB 13 (.append (some 6) aq 13 184 (oT 9) (oT 12)),oA 3 13])))))) (.keep [2,3] [0,2,6,13] (.seq (oX [oA 14 3,oB 15 (.len (oT 14)),oB 16 (.eql false false [.int] (oT 15) (oN 1))] [2,3,16] [0,2,6,13] (.ite (oT 16) (oX [oA 17 3,
 oB 18 (.iaddr 13 (oT 17) (oN 0)),oD 19 13 18,oF 13 2 19] [2] [0,2,6,13] (.ret)) (.skip))) (.keep [2,3] [0,2,6,13] (oX [oA 20 3,oB 21 (.build [oi,oi,oe,oe,oe,oe,ob,on,oe,oe,oi,oi,on] [(0,1,oN 4),(12,1,oT 20)]),oF 13 2 21] [2] [0,2,6,13] (.ret)))))))
def lr:List ar:= [.cell 2 true 13]
def zy:List Nat:= [100006,1013006]
theorem yX:ay Tryz.prog eH zy l7 lr 22:=ak mixed (by kernel_rfl)
def mc:CC:=oX [oB 2 (.alloc aq [oi,oi,oe,oe,oe,oe,ob,on,oe,oe,oi,oi,on])] [0,2] [0,2,6,13] (oX [oA 4 0,oZ 5 eH [oT 4],oB 6 (.mslice aq 13 [oT 5]),oA 3 6] [0,2,3] [0,2,6,13] (.seq (.block 0 (.loop 1 (.seq (oX [oA 7 0,oZ 8 au [oT 7,oS ⟨#[124]⟩]] [0,2,3,8] [0,2,6,13] (.ite (oT 8) (.skip) (.exit 0)))
 (.keep [0,2,3] [0,2,6,13] (.block 1 (.reg [oA 9 3,oA 10 0,oZ 11 eH [oT 10],oB 12 (.bslice aq 13 [oT 11]),oB 13 (.append (some 6) aq 13 184 (oT 9) (oT 12)),oA 3 13])))))) (.keep [2,3] [0,2,6,13] (.seq (oX [oA 14 3,oB 15 (.len (oT 14)),oB 16 (.eql false false [.int] (oT 15) (oN 1))] [2,3,16] [0,2,6,13] (.ite (oT 16) (oX [oA 17 3,
 oB 18 (.iaddr 13 (oT 17) (oN 0)),oD 19 13 18,oF 13 2 19] [2] [0,2,6,13] (.ret)) (.skip))) (.keep [2,3] [0,2,6,13] (oX [oA 20 3,oB 21 (.build [oi,oi,oe,oe,oe,oe,ob,on,oe,oe,oi,oi,on] [(0,1,oN 5),(12,1,oT 20)]),oF 13 2 21] [2] [0,2,6,13] (.ret)))))))
def lA:List ar:= [.cell 2 true 13]
def zC:List Nat:= [100006,1013006]
theorem zb:ay Tryz.prog eJ zC mc lA 22:=ak mixed (by kernel_rfl)
def kK:CC:=oX [oB 6 (.mv (oN 0))] [0,1,2] [0] (.seq (oX [oA 8 2,oA 7 8] [0,1,7] [0] (.block 0 (.loop 1 (.seq (oX [oA 9 7,oA 10 1,oB 11 (.len (oT 10)),oB 12 (.cmp .lss (oT 9) (oT 11))] [0,1,7,12] [0] (.ite (oT 12) (.skip) (.exit 0))) (.keep [0,1,7] [0] (.seq (.block 1 (oX [oA 15 0,oA 16 1,oA 17 7,oB 18 (.iaddr 1 (oT 16) (oT 17)),oC 19 1 18,
 oZ 20 bV [oT 15,.const (.int .u8 110),oT 19]] [0,1,7,20] [0] (.ite (oT 20) (oX [oA 21 7,oA 6 21] [6] [0] (.ret)) (.skip)))) (.keep [0,1,7] [0] (.reg [oA 13 7,oB 14 (.arith .add (oT 13) (oN 1)),oA 7 14])))))))) (.keep [] [0] (oX [oB 6 (.mv (oN (-1)))] [6] [0] (.ret))))
def ku:List ar:= [.tmp 6]
def xo:List Nat:= []
theorem wS:ay Tryz.prog d6 xo kK ku 22:=ak mixed (by kernel_rfl)
def pT:CC:=oX [oB 0 (.mv (.const on))] [] [] (oX [oB 1 (.bslice aL 1 [oS ⟨#[]⟩,oS ⟨#[119,105,116,104,105,110]⟩,oS ⟨#[99,111,110,116,97,105,110,105,110,103]⟩,oS ⟨#[111,118,101,114,108,97,112,112,105,110,103]⟩]),oA 0 1] [0] [] (.ret))
def pn:List ar:= [.tmp 0]
def E3:List Nat:= []
theorem Ez:ay Tryz.prog jS E3 pT pn 2:=ak mixed (by kernel_rfl)
def s9:CC:=oX [oB 2 (.alloc o6 [oi,oi,oe,oe,oe,oe,ob,on,oe,oe,oi,oi,on,oi,oe,oe,oe,oe,oe,ob,oi,oi,on,on,on,oi]),oB 3 (.mv (oN 0)),oB 4 (.mv (oN 0))] [0,2] [2,16,55] (.seq (oX [oA 9 0,oB 10 (.slen (oT 9)),oB 11 (.cmp .gtr (oT 10) (oN 400))] [0,2,11] [2,16,55] (.ite (oT 11) (oX [
 oB 12 (.build [oi,oi,oe,oe,oe,oe,ob,on,oe,oe,oi,oi,on,oi,oe,oe,oe,oe,oe,ob,oi,oi,on,on,on,oi] []),.op none none (.store (some 2) 26 (oT 2) (oT 12)),oB 3 (.mv (oN 0)),oB 4 (.mv (oN 2))] [2,3,4] [2,16,55] (.ret)) (.skip))) (.keep [0,2] [2,16,55] (oX [oA 13 0,oZ 14 pJ [oT 13],oB 15 (.build [on,oi,oi,oi,oi] [(0,1,oT 14)]),oB 16 (.box se false (oT 15)),
 oA 5 16] [2,5] [2,16,55] (oX [oA 17 5,oZ 18 eJ [oT 17],oB 19 (.build [oi,oi,oe,oe,oe,oe,ob,on,oe,oe,oi,oi,on,oi,oe,oe,oe,oe,oe,ob,oi,oi,on,on,on,oi] [(0,13,oT 18)]),oB 6 (.alloc o6 [oi,oi,oe,oe,oe,oe,ob,on,oe,oe,oi,oi,on,oi,oe,oe,oe,oe,oe,ob,oi,oi,on,on,on,oi]),oF 26 6 19] [2,5,6] [2,6,16,55] (.seq (oX [oA 20 5,
 oZ 21 au [oT 20,oS ⟨#[58,58]⟩]] [2,5,6,21] [2,6,16,55] (.ite (oT 21) (.reg [oA 22 5,oZ 23 BA [oT 22],oE 24 13 6,oF 11 24 23]) (.skip))) (.keep [2,5,6] [2,6,16,55] (qQ 8 (.block 0 (.loop 1 (.seq (oX [oA 25 5,oG 26 25,oE 27 3 26,oC 28 1 27,oB 29 (.eql false false [.int] (oT 28) (oN 0))] [2,5,6,29] [2,6,16,55] (.ite (oT 29) (.skip) (.exit 0)))
 (.keep [2,5,6] [2,6,16,55] (.block 1 (oX [oA 30 5,oZ 31 au [oT 30,oS ⟨#[33]⟩],oA 7 31] [2,5,6,7] [2,6,16,55] (oX [oA 32 5,oZ 33 jS [],oZ 34 d6 [oT 32,oT 33,oN 1],oA 8 34] [2,5,6,7,8] [2,6,16,55] (.seq (oX [oA 35 8,oB 36 (.eql false false [.int] (oT 35) (oN (-1)))] [2,5,6,7,8,36] [2,6,16,55] (.ite (oT 36) (.seq (oX [
 oA 37 7] [2,5,6,37] [2,6,16,55] (.ite (oT 37) (.reg [oA 38 5,oZ 39 gD [oT 38]]) (.skip))) (.keep [2,5,6] [2,6,16,55] (.exit 0))) (.skip))) (.keep [2,5,6,7,8] [2,6,16,55] (oX [oA 40 5,oG 41 40,oE 42 1 41,oC 43 1 42,oB 44 (.arith .add (oT 43) (oN 1)),oG 45 40,oE 46 1 45,oF 1 46 44] [2,5,6,7,8] [2,6,16,55] (.regd [oE 47 24 6,oC 48 1 47,oA 49 8,oA 50 7,oA 51 5,
 oZ 52 aK [oT 51,.const (.int .u8 110),oS ⟨#[]⟩],oB 53 (.build [oi,ob,oe] [(0,1,oT 49),(1,1,oT 50),(2,1,oT 52)]),oB 54 (.bslice Hb 3 [oT 53])] [oB 55 (.append none Hb 3 32 (oT 48) (oT 54)),oE 56 24 6,.op none none (.store (some 6) 1 (oT 56) (oT 55))]))))))))))) (.keep [2,5,6] [2,6,16,55] (qQ 18 (oX [oA 57 5,
 oZ 58 bV [oT 57,.const (.int .u8 110),oS ⟨#[115,116,114,97,116,101,103,121]⟩]] [2,5,6,58] [2,6,16,55] (.ite (oT 58) (oX [oA 59 5,oG 60 59,oE 61 1 60,oC 62 1 61,oB 63 (.arith .add (oT 62) (oN 1)),oG 64 59,oE 65 1 64,oF 1 65 63] [2,5,6] [2,6,16,55] (oX [oA 66 5,oZ 67 Bz [],oZ 68 d6 [oT 66,oT 67,oN 0],oE 69 25 6,
 oF 1 69 68] [2,5,6] [2,6,16,55] (oX [oE 70 25 6,oC 71 1 70,oB 72 (.eql false false [.int] (oT 71) (oN (-1)))] [2,5,6,72] [2,6,16,55] (.ite (oT 72) (.reg [oA 73 5,oZ 74 gD [oT 73]]) (.reg [oA 75 5,oG 76 75,oE 77 1 76,oC 78 1 77,oB 79 (.arith .add (oT 78) (oN 1)),oG 80 75,oE 81 1 80,oF 1 81 79]))))) (.skip))) (.keep [2,5,6] [2,6,16,55] (qQ 23 (oX [oA 82 5,oG 83 82,
 oE 84 3 83,oC 85 1 84,oB 86 (.eql false false [.int] (oT 85) (oN 0)),oA 87 86,oH 88 87 (.mv (oT 5)),oH 89 87 (.call av [oT 88]),oH 90 87 (.fld false 1 0 (oT 89)),oH 91 87 (.eql true false [.int] (oT 90) (.const (.int .u8 101))),oB 92 (.pick (oT 87) (oT 91) (.const ob))] [2,5,6,92] [2,6,16,55] (.ite (oT 92) (.reg [oA 93 5,oZ 94 gD [oT 93]]) (.skip)))
 (.keep [2,5,6] [2,6,16,55] (.seq (oX [oA 95 5,oG 96 95,oE 97 3 96,oC 98 1 97,oB 99 (.eql true false [.int] (oT 98) (oN 0))] [2,5,6,99] [2,6,16,55] (.ite (oT 99) (.seq (.regd [oB 100 (.build [oi,oi,oe,oe,oe,oe,ob,on,oe,oe,oi,oi,on,oi,oe,oe,oe,oe,oe,ob,oi,oi,on,on,on,oi] []),oA 101 5,oG 102 101,oE 103 4 102,oC 104 1 103,oA 105 5,oG 106 105,oE 107 3 106,oC 108 1 107,
 .op none none (.store (some 2) 26 (oT 2) (oT 100)),oA 3 104] [oA 4 108]) (.keep [2,3,4] [2,16,55] (.ret))) (.skip))) (.keep [2,6] [2,6,16,55] (oX [oD 109 26 6,.op none none (.store (some 2) 26 (oT 2) (oT 109)),oB 3 (.mv (oN 0)),oB 4 (.mv (oN 0))] [2,3,4] [2,16,55] (.ret))))))))))))))))
def sx:List ar:= [.cell 2 true 26, .tmp 3, .tmp 4]
def Jn:List Nat:= [2056006,2002002]
theorem I2:ay Tryz.prog ny Jn s9 sx 110:=ak mixed (by kernel_rfl)
end Go.Gv

namespace Go.Gv
open Cod (enc dec)
variable {S S0:Nat->Spc}
@[simp] abbrev Ps (s:Pst) (_:Unit):Option (Pst×Cp):=(sJ s).map fun x=> (s,x)
abbrev rE:Spc:=Nn a0 (enc (X:=Cp)) Ps
theorem qaK:mz l9 lw S a0 (enc (X:=Cp)) (fun s z=> ∃r,Ps s z=some r) (fun s z s' y=> Ps s z=some (s',y)):=by
 rintro b s ⟨⟩ ⟨r,hr⟩
 simp only[Ps,sJ,Option.map_eq_some_iff] at hr
 obtain⟨x,hx,rfl⟩:=hr
 split at hx
 ·rename_i h0
  obtain⟨h0,hb⟩:=h0
  have hl:=Xz hx
  obtain⟨_,hgx⟩:=List.getElem?_eq_some_iff.1 hx
  simp[l9,lw,hx]
  exact fun _=> ⟨h0,by omega,zT s x (.same _) (by simp) ⟨by rw[sJ,if_pos ⟨h0,hb⟩,hx],rfl⟩⟩
 ·cases hx
theorem zX {s:Pst} (h:s.e=0):Pst.mk s.l s.pos s.deep 0 s.fail=s:=by rw[<-h]
theorem Lk {b:Nat} {post:Pst->Bool->Prop} {v:Bool} {H:aa} (s:Pst) (h0:H 0=some (.box b (jZ s))) (hq:post s v):F2 enc b post (.v (.bool v)) H:=zT s v (.same _) h0 hq
theorem qiR {b:Nat} {post:Pst->Int->Prop} {v:Int} {H:aa} (s:Pst) (h0:H 0=some (.box b (jZ s))) (hq:post s v):F2 enc b post (.v (.int .i64 v)) H:=zT s v (.same _) h0 hq
theorem Y0 {b:Nat} {post:Pst->B->Prop} {v:B} {H:aa} (s:Pst) (h0:H 0=some (.box b (jZ s))) (hq:post s v):F2 enc b post (.v (.string v)) H:=zT s v (.same _) h0 hq
@[simp] abbrev Xl (s:Pst) (z:U8×B):Option (Pst×Bool):=(OI s z.1.val z.2).map fun x=> (s,x)
abbrev M3:Spc:=Nn (a2 U8 B) (enc (X:=Bool)) Xl
theorem qfX (h1:S av=rE):mz jj jd S (a2 U8 B) (enc (X:=Bool)) (fun s z=> ∃r,Xl s z=some r) (fun s z s' y=> Xl s z=some (s',y)):=by
 rintro b s ⟨⟨k⟩,t⟩ ⟨r,hr⟩
 simp only[Xl,OI,Option.map_eq_some_iff] at hr
 obtain⟨v,hr,rfl⟩:=hr
 split at hr
 ·rename_i he
  simp[jj,jd,h1,he]
  exact Lk s (by simp) ⟨by rw[OI,if_pos he],rfl⟩
 ·rename_i he
  have he:s.e=0:=by simpa using he
  obtain⟨x,hx,rfl⟩:=Option.map_eq_some_iff.1 hr
  have hF:OI s k t=some (decide (x.kind=k/\x.text=t)):=by rw[OI,if_neg (by simp[he]),hx];rfl
  simp[jj,jd,h1,he,zX he,hx]
  refine⟨fun hk=> Lk s (by simp[he]) ⟨by rw[hF];simp[hk],rfl⟩,fun hk=> Lk s (by simp[he]) ⟨by rw[hF];simp[hk],rfl⟩⟩
@[simp] abbrev H6 (s:Pst) (t:B):Option (Pst×Bool):=nR s t
abbrev uh:Spc:=Nn (a1 B) (enc (X:=Bool)) H6
theorem Tc {s:Pst} {k:Int} {t:B} (h:OI s k t=some true):s.e=0/\ ∃x,sJ s=some x/\x.kind=k/\x.text=t:=by
 unfold OI at h
 split at h
 ·cases h
 ·rename_i he
  obtain⟨x,hx,h2⟩:=Option.map_eq_some_iff.1 h
  simp at h2
  exact⟨by simpa using he,x,hx,h2⟩
theorem KI {s:Pst} {x:Cp} (h:sJ s=some x):0<=s.pos/\s.pos < s.l.length/\s.l.length<=1000000:=by
 unfold sJ at h
 split at h
 ·have:=Xz h
  omega
 ·cases h
theorem qaM (h1:S bV=M3):mz ma lz S (a1 B) (enc (X:=Bool)) (fun s z=> ∃r,H6 s z=some r) (fun s z s' y=> H6 s z=some (s',y)):=by
 rintro b s t ⟨r,hr⟩
 have hr0:=hr
 simp only[H6,nR,Option.map_eq_some_iff] at hr
 obtain⟨v,hr,rfl⟩:=hr
 simp[ma,lz,h1,hr]
 cases v
 ·simp
  exact Lk s (by simp) (by simp[H6,nR,hr])
 ·obtain⟨_,x,hx,_⟩:=Tc hr
  have:=KI hx
  simp
  exact⟨by simp only[InR];omega,Lk s.step (by simp[Pst.step]) (by simp[H6,nR,hr])⟩
theorem Dm {s:Pst} {k:Int} {t:B} {x:Cp} (he:s.e=0) (hx:sJ s=some x):OI s k t=some (decide (x.kind=k/\x.text=t)):=by
 rw[OI,if_neg (by simp[he]),hx];rfl
@[simp] abbrev J0 (s:Pst) (z:U8×B):Option (Pst×B):=yb s z.1.val z.2
abbrev MP:Spc:=Nn (a2 U8 B) (enc (X:=B)) J0
theorem XW (h1:S av=rE):mz kL kw S (a2 U8 B) (enc (X:=B)) (fun s z=> ∃r,J0 s z=some r) (fun s z s' y=> J0 s z=some (s',y)):=by
 rintro b s ⟨⟨k⟩,t⟩ ⟨r,hr⟩
 have hr0:=hr
 simp only[J0,yb] at hr
 split at hr
 ·cases hr
 rename_i he
 have he:s.e=0:=by simpa using he
 obtain⟨x,hx,hr⟩:=Option.bind_eq_some_iff.1 hr
 split at hr
 ·cases hr
 rename_i hk
 cases hr
 have hk1:x.kind=k:=by by_cases h:x.kind=k;exact h;exact absurd (.inl h) hk
 have hk2:k=111->x.text=t:=fun h=> by by_cases h':x.text=t;exact h';exact absurd (.inr ⟨h,h'⟩) hk
 have hrg:=KI hx
 simp[kL,kw,h1,he,zX he,hx,hk1]
 clear h1
 have fin: ∀H:aa,H 0=some (.box b (jZ s.step))->F2 enc b (fun s' y=> yb s k t=some (s',y)) (.v (.string x.text)) H:=fun H h=> Y0 s.step h hr0
 intro b7
 exact⟨fun h=> ⟨fun h'=> absurd (hk2 h) h',fun _=> ⟨by simp only[InR];omega,Y0 s.step (by simp[Pst.step,he]) hr0⟩⟩,fun _=> ⟨by simp only[InR];omega,Y0 s.step (by simp[Pst.step,he]) hr0⟩⟩
@[simp] abbrev J2 (s:Pst) (_:Unit):Option (Pst×Bool):=nR s ⟨#[37,99]⟩
abbrev M5:Spc:=Nn a0 (enc (X:=Bool)) J2
theorem X9 (h1:S au=uh):mz kN kA S a0 (enc (X:=Bool)) (fun s z=> ∃r,J2 s z=some r) (fun s z s' y=> J2 s z=some (s',y)):=by
 rintro b s ⟨⟩ ⟨⟨s',v⟩,hr⟩
 simp only[J2] at hr
 simp[kN,kA,h1,hr, -Bool.forall_bool, -Bool.exists_bool]
 refine Lk s' ?_ ?_
 ·simp
 ·exact⟨rfl,rfl⟩
theorem Qm {s:Pst} {x:Cp} (h:Ow s=some x):0<=s.pos/\s.pos+1 < s.l.length/\s.l.length<=1000000/\s.l[(s.pos+1).toNat]?=some x:=by
 unfold Ow at h
 split at h
 ·rename_i h0
  exact⟨h0.1,h0.2.1,h0.2.2,h⟩
 ·cases h
@[simp] abbrev Ob (s:Pst) (_:Unit):Option (Pst×Cp):=(Ow s).map fun x=> (s,x)
abbrev MX:Spc:=Nn a0 (enc (X:=Cp)) Ob
theorem X0:mz kM kz S a0 (enc (X:=Cp)) (fun s z=> ∃r,Ob s z=some r) (fun s z s' y=> Ob s z=some (s',y)):=by
 rintro b s ⟨⟩ ⟨r,hr⟩
 obtain⟨x,hx,rfl⟩:=Option.map_eq_some_iff.1 hr
 obtain⟨g1,g2,g3,g4⟩:=Qm hx
 have hm:min (s.pos+1) (s.l.length -1)=s.pos+1:=by omega
 simp[kM,kz,InR,hm]
 refine fun _=> ⟨by omega,fun _=> ⟨by omega,by omega,by omega,fun a ha=> zT s a (.same _) (by simp) ⟨?_,rfl⟩⟩⟩
 rw[g4] at ha
 rw[<-ha,hx]
@[simp] abbrev F3 (s:Pst) (_:Unit):Option (Pst×Bool):=(JP s).map fun v=> (s,v)
abbrev wK:Spc:=Nn a0 (enc (X:=Bool)) F3
theorem Rr (h1:S av=rE) (h2:S fw=MX):mz fH fp S a0 (enc (X:=Bool)) (fun s z=> ∃r,F3 s z=some r) (fun s z s' y=> F3 s z=some (s',y)):=by
 rintro b s ⟨⟩ ⟨r,hr⟩
 obtain⟨v,hv,rfl⟩:=Option.map_eq_some_iff.1 hr
 have hv0:=hv
 simp only[JP] at hv
 obtain⟨x,hx,hv⟩:=Option.bind_eq_some_iff.1 hv
 split at hv
 ·cases hv
 rename_i he
 have he:s.e=0:=by simpa using he
 split at hv
 ·rename_i hk
  obtain⟨n,hn,hv⟩:=Option.bind_eq_some_iff.1 hv
  split at hv
  ·rename_i hc
   cases hv
   simp[fH,fp,h1,h2,hx,he,zX he,hk,hn,hc.1,hc.2]
   exact Lk s (by simp[he]) ⟨hv0,rfl⟩
  ·cases hv
 rename_i hk
 cases hv
 simp[fH,fp,h1,hx,he,zX he,hk]
 clear h1 hr
 repeat' first | apply And.intro | intro _
 all_goals refine Lk s (by simp[he]) ⟨?_,rfl⟩
 all_goals (rw[hv0];simp[*])
end Go.Gv
