/- A part of the framework and of the walks: C51 W130 W131. -/
import Derived.Test.YticbieanhfdnoaaGreatDoorGc21
import Derived.Test.YticbieanhfdnoaaGreatDoorGc30
set_option linter.unusedSimpArgs false
set_option linter.unusedVariables false
set_option maxRecDepth 100000

namespace Go.Gv
open Go.Proofs
def eQ:CC:=oX [oB 2 (.mv (.const (.int .i32 0)))] [0] [0] (.seq (.seq (.regd [oA 5 0,oG 6 5,oE 7 1 6,oC 8 1 7,oA 9 0,oG 10 9,oE 11 0 10,oC 12 1 11,oB 13 (.slen (oT 12))] [oB 14 (.eql false false [.int] (oT 8) (oT 13))]) (.keep [0,14] [0] (.ite (oT 14) (oX [oB 2 (.mv (.const (.int .i32 (-1))))] [2] [0] (.ret)) (.skip)))) (.keep [0] [0] (.seq (.regd [oA 16 0,
 oG 17 16,oE 18 0 17,oC 19 1 18,oA 20 0,oG 21 20,oE 22 1 21,oC 23 1 22,oB 24 (.sslice (oT 19) (some (oT 23)) none),oZ 25 aI [oT 24],oA 15 25,oB 26 (.ext (oT 15) 0),oB 27 (.ext (oT 15) 1),oA 3 26] [oA 4 27]) (.keep [3] [0] (oX [oA 28 3,oA 2 28] [2] [0] (.ret))))))
def eD:List au:= [.tmp 2]
def su:List Nat:= []
theorem rY:ay Tryz.prog ak su eQ eD 29:=ap mixed (by kernel_rfl)
def io:CC:= .seq (.regd [oA 5 0,oG 6 5,oE 7 0 6,oC 8 1 7,oA 9 0,oG 10 9,oE 11 1 10,oC 12 1 11,oB 13 (.sslice (oT 8) (some (oT 12)) none),oZ 14 aI [oT 13],oA 4 14,oB 15 (.ext (oT 4) 0),oB 16 (.ext (oT 4) 1),oA 2 15] [oA 3 16]) (.keep [0,3] [0] (.reg [oA 17 0,oG 18 17,oE 19 1 18,oC 20 1 19,oA 21 3,
 oB 22 (.arith .add (oT 20) (oT 21)),oG 23 17,oE 24 1 23,oF 1 24 22]))
def gO:List au:= []
def ss:List Nat:= []
theorem rX:ay Tryz.prog dS ss io gO 25:=ap mixed (by kernel_rfl)
def ew:CC:=oX [oB 4 (.mv (.const (.int .i32 0))),oB 5 (.mv (.const ob))] [0,1] [0] (oX [oA 7 0,oZ 8 ak [oT 7],oA 6 8] [0,1,6] [0] (.seq (oX [oA 9 6,oB 10 (.eql false false [.int] (oT 9) (.const (.int .i32 92)))] [0,1,6,10] [0] (.ite (oT 10) (oX [oA 11 0,oG 12 11,oE 13 1 12,oC 14 1 13,oB 15 (.arith .add (oT 14) (oN 1)),oG 16 11,oE 17 1 16,
 oF 1 17 15] [0,1] [0] (oX [oA 18 0,oZ 19 ak [oT 18],oA 6 19] [0,1,6] [0] (oX [oA 20 6,oB 21 (.cmp .lss (oT 20) (.const (.int .i32 0))),oA 22 21,oI 23 22 (.mv (oT 1)),oI 24 22 (.mv (oT 6)),oI 25 22 (.call bt [oT 23,oT 24]),oI 26 22 (.not (oT 25)),oB 27 (.pick (oT 22) (.const (.bool true)) (oT 26))] [0,6,27] [0] (.ite (oT 27) (oX [oA 28 0,oA 29 0,
 oG 30 29,oE 31 1 30,oC 32 1 31,oZ 33 cY [oT 28,oT 32,oN 3],oB 4 (.mv (.const (.int .i32 0))),oA 5 33] [4,5] [0] (.ret)) (.skip))))) (.skip))) (.keep [0,6] [0] (oX [oA 34 0,oZ 35 dS [oT 34]] [6] [0] (oX [oA 36 6,oA 4 36,oB 5 (.mv (.const (.bool true)))] [4,5] [0] (.ret))))))
def eu:List au:= [.tmp 4, .tmp 5]
def nS:List Nat:= []
theorem nQ:ay Tryz.prog bi nS ew eu 37:=ap mixed (by kernel_rfl)
def f7:CC:=oX [oB 2 (.mv (.const (.int .i32 0))),oB 3 (.mv (.const ob))] [0] [0] (oX [oA 5 0,oZ 6 ak [oT 5],oA 4 6] [0,4] [0] (.seq (oX [oA 7 4,oB 8 (.cmp .lss (oT 7) (.const (.int .i32 0))),oA 9 8,oI 10 9 (.mv (oT 4)),oI 11 9 (.eql true false [.int] (oT 10) (.const (.int .i32 92))),oI 12 9 (.mv (oT 11)),oH 13 12 (.mv (oT 4)),
 oH 14 12 (.call bt [oS ⟨#[92,91,93,94,45]⟩,oT 13]),oI 15 9 (.pick (oT 12) (oT 14) (.const ob)),oB 16 (.pick (oT 9) (.const (.bool true)) (oT 15))] [0,16] [0] (.ite (oT 16) (oX [oA 17 0,oA 18 0,oG 19 18,oE 20 1 19,oC 21 1 20,oZ 22 cY [oT 17,oT 21,oN 3],oB 2 (.mv (.const (.int .i32 0))),oA 3 22] [2,3] [0] (.ret)) (.skip))) (.keep [0] [0] (oX [oA 23 0,
 oZ 24 bi [oT 23,oS ⟨#[92,91,93,94,45]⟩],oB 25 (.ext (oT 24) 0),oB 26 (.ext (oT 24) 1),oA 2 25,oA 3 26] [2,3] [0] (.ret)))))
def fO:List au:= [.tmp 2, .tmp 3]
def qs:List Nat:= []
theorem qh:ay Tryz.prog cI qs f7 fO 27:=ap mixed (by kernel_rfl)
def qC:CC:=oX [oB 4 (.alloc aA [oi,oi,oi,on,on])] [0,1,4] [4] (oX [oA 5 0,oA 6 1,oB 7 (.build [.int .i32 0,.int .i32 0] [(0,1,oT 5),(1,1,oT 6)]),oB 8 (.bslice dQ 2 [oT 7]),oB 9 (.build [oi,oi,oi,on,on] [(0,1,oN 1),(3,1,oT 8)]),oF 5 4 9] [4] [4] (.ret))
def pS:List au:= [.cell 4 true 5]
def EL:List Nat:= []
theorem Eo:ay Tryz.prog jL EL qC pS 10:=ap mixed (by kernel_rfl)
def dJ:CC:=oX [oB 2 (.alloc aA [oi,oi,oi,on,on]),oB 3 (.mv (.const ob))] [0,2] [0,2] (oX [oA 8 0,oZ 9 ak [oT 8],oA 4 9] [0,2,4] [0,2] (.seq (.block 0 (oX [oA 11 4,oB 12 (.eql false false [.int] (oT 11) (.const (.int .i32 40))),oA 10 12] [0,2,4,10] [0,2] (.ite (oT 10) (oX [oA 13 0,oG 14 13,oE 15 1 14,oC 16 1 15,
 oB 17 (.arith .add (oT 16) (oN 1)),oG 18 13,oE 19 1 18,oF 1 19 17] [0,2] [0,2] (oX [oA 21 0,oZ 22 cO [oT 21],oA 20 22,oB 23 (.ext (oT 20) 0),oB 24 (.ext (oT 20) 1),oB 5 (.alloc aA [oi,oi,oi,on,on]),oF 5 5 23,oA 6 24] [0,2,5,6] [0,2,5] (.seq (.regd [oD 25 5 5,oA 26 6,oA 27 26,oH 28 27 (.mv (oT 0)),
 oH 29 27 (.call u0 [oT 28,.const (.int .i32 41)]),oB 30 (.pick (oT 27) (oT 29) (.const ob)),.op none none (.store (some 2) 5 (oT 2) (oT 25))] [oA 3 30]) (.keep [2,3] [0,2] (.ret))))) (oX [oA 32 4,oB 33 (.eql false false [.int] (oT 32) (.const (.int .i32 46))),oA 31 33] [0,2,4,31] [0,2] (.ite (oT 31) (oX [oA 34 0,oG 35 34,oE 36 1 35,oC 37 1 36,
 oB 38 (.arith .add (oT 37) (oN 1)),oG 39 34,oE 40 1 39,oF 1 40 38] [2] [0,2] (oX [oZ 41 jL [.const (.int .i32 0),.const (.int .i32 1114111)],.op none none (.store (some 2) 5 (oT 2) (oT 41)),oB 3 (.mv (.const (.bool true)))] [2,3] [0,2] (.ret))) (oX [oA 43 4,oB 44 (.eql false false [.int] (oT 43) (.const (.int .i32 91))),oA 42 44] [0,2,4,42] [0,2] (.ite (oT 42) (oX [oA 45 0,
 oZ 46 dF [oT 45],oB 47 (.ext (oT 46) 0),oB 48 (.ext (oT 46) 1),.op none none (.store (some 2) 5 (oT 2) (oT 47)),oA 3 48] [2,3] [0,2] (.ret)) (oX [oA 50 4,oB 51 (.eql true false [.int] (oT 50) (.const (.int .i32 92))),oA 52 51,oH 53 52 (.mv (oT 4)),oH 54 52 (.call bt [oS ⟨#[92,46,91,93,40,41,123,125,124,42,43,63]⟩,oT 53]),
 oB 55 (.pick (oT 52) (oT 54) (.const ob)),oA 49 55] [0,2,49] [0,2] (.ite (oT 49) (oX [oB 56 (.build [oi,oi,oi,on,on] []),oA 57 0,oA 58 0,oG 59 58,oE 60 1 59,oC 61 1 60,oZ 62 cY [oT 57,oT 61,oN 3],.op none none (.store (some 2) 5 (oT 2) (oT 56)),oA 3 62] [2,3] [0,2] (.ret)) (.skip)))))))))) (.keep [0,2] [0,2] (oX [oA 64 0,
 oZ 65 bi [oT 64,oS ⟨#[92,46,91,93,40,41,123,125,124,42,43,63]⟩],oA 63 65,oB 66 (.ext (oT 63) 0),oB 67 (.ext (oT 63) 1),oA 4 66,oA 7 67] [2,4,7] [0,2] (oX [oA 68 4,oA 69 4,oZ 70 jL [oT 68,oT 69],oA 71 7,.op none none (.store (some 2) 5 (oT 2) (oT 70)),oA 3 71] [2,3] [0,2] (.ret))))))
def dB:List au:= [.cell 2 true 5, .tmp 3]
def sv:List Nat:= [2002002]
theorem rZ:ay Tryz.prog dT sv dJ dB 72:=ap mixed (by kernel_rfl)
-- regex_parser_class while id=0: live [0:p, 2:, 4:from, 5:negated, 6:l] changed [6] res [0, 2, 86]
def gx:CC:=oX [oB 2 (.alloc aA [oi,oi,oi,on,on]),oB 3 (.mv (.const ob))] [0,2] [0,2,86] (oX [oA 11 0,oG 12 11,oE 13 1 12,oC 14 1 13,oA 4 14] [0,2,4] [0,2,86] (oX [oA 15 0,oG 16 15,oE 17 1 16,oC 18 1 17,oB 19 (.arith .add (oT 18) (oN 1)),oG 20 15,oE 21 1 20,oF 1 21 19] [0,2,4] [0,2,86] (oX [oA 22 0,oZ 23 ak [oT 22],
 oB 24 (.eql false false [.int] (oT 23) (.const (.int .i32 94))),oA 5 24] [0,2,4,5] [0,2,86] (.seq (oX [oA 25 5] [0,2,4,5,25] [0,2,86] (.ite (oT 25) (.reg [oA 26 0,oG 27 26,oE 28 1 27,oC 29 1 28,oB 30 (.arith .add (oT 29) (oN 1)),oG 31 26,oE 32 1 31,oF 1 32 30]) (.skip))) (.keep [0,2,4,5] [0,2,86] (oX [oB 6 (.mv (.const on))] [0,2,4,5,6] [0,2,86] (.seq (.block 0 (.loop 1 (.seq (oX [
 oA 33 6,oB 34 (.len (oT 33)),oB 35 (.eql false false [.int] (oT 34) (oN 0)),oA 36 35,oI 37 36 (.mv (oT 0)),oI 38 36 (.call ak [oT 37]),oI 39 36 (.eql true false [.int] (oT 38) (.const (.int .i32 93))),oB 40 (.pick (oT 36) (.const (.bool true)) (oT 39))] [0,2,4,5,6,40] [0,2,86] (.ite (oT 40) (.skip) (.exit 0))) (.keep [0,2,4,5,6] [0,2,86] (.block 1 (oX [oA 41 0,oG 42 41,
 oE 43 1 42,oC 44 1 43,oA 7 44] [0,2,4,5,6,7] [0,2,86] (oX [oA 46 0,oZ 47 cI [oT 46],oA 45 47,oB 48 (.ext (oT 45) 0),oB 49 (.ext (oT 45) 1),oA 8 48,oA 9 49] [0,2,4,5,6,7,8,9] [0,2,86] (oX [oA 50 8,oA 10 50] [0,2,4,5,6,7,8,9,10] [0,2,86] (.seq (oX [oA 51 9,oA 52 51,oH 53 52 (.mv (oT 0)),oH 54 52 (.call ak [oT 53]),
 oH 55 52 (.eql false false [.int] (oT 54) (.const (.int .i32 45))),oB 56 (.pick (oT 52) (oT 55) (.const ob))] [0,2,4,5,6,7,8,9,10,56] [0,2,86] (.ite (oT 56) (oX [oA 57 0,oG 58 57,oE 59 1 58,oC 60 1 59,oB 61 (.arith .add (oT 60) (oN 1)),oG 62 57,oE 63 1 62,oF 1 63 61] [0,2,4,5,6,7,8] [0,2,86] (.reg [oA 65 0,oZ 66 cI [oT 65],oA 64 66,oB 67 (.ext (oT 64) 0),
 oB 68 (.ext (oT 64) 1),oA 10 67,oA 9 68])) (.skip))) (.keep [0,2,4,5,6,7,8,9,10] [0,2,86] (.seq (oX [oA 69 9,oA 70 69,oH 71 70 (.mv (oT 10)),oH 72 70 (.mv (oT 8)),oH 73 70 (.cmp .lss (oT 71) (oT 72)),oB 74 (.pick (oT 70) (oT 73) (.const ob))] [0,2,4,5,6,7,8,9,10,74] [0,2,86] (.ite (oT 74) (.reg [oA 75 0,oA 76 7,oZ 77 cY [oT 75,oT 76,oN 8],oA 9 77]) (.skip)))
 (.keep [0,2,4,5,6,8,9,10] [0,2,86] (.seq (oX [oA 78 9,oB 79 (.not (oT 78))] [0,2,4,5,6,8,10,79] [0,2,86] (.ite (oT 79) (oX [oB 80 (.build [oi,oi,oi,on,on] []),oF 5 2 80,oB 3 (.mv (.const ob))] [2,3] [0,2,86] (.ret)) (.skip))) (.keep [0,2,4,5,6,8,10] [0,2,86] (.reg [oA 81 6,oA 82 8,oA 83 10,oB 84 (.build [.int .i32 0,.int .i32 0] [(0,1,oT 82),(1,1,oT 83)]),
 oB 85 (.bslice dQ 2 [oT 84]),oB 86 (.append none dQ 2 8 (oT 81) (oT 85)),oA 6 86]))))))))))))))) (.keep [0,2,4,5,6] [0,2,86] (oX [oA 87 0,oG 88 87,oE 89 1 88,oC 90 1 89,oB 91 (.arith .add (oT 90) (oN 1)),oG 92 87,oE 93 1 92,oF 1 93 91] [0,2,4,5,6] [0,2,86] (oX [oA 94 6,oZ 95 hL [oT 94],oA 6 95] [0,2,4,5,6] [0,2,86] (.seq (oX [
 oA 96 5] [0,2,4,6,96] [0,2,86] (.ite (oT 96) (oX [oA 97 6,oZ 98 Bq [oT 97],oA 6 98] [0,2,4,6] [0,2,86] (oX [oA 99 6,oB 100 (.len (oT 99)),oB 101 (.eql false false [.int] (oT 100) (oN 0))] [0,2,4,6,101] [0,2,86] (.ite (oT 101) (oX [oB 102 (.build [oi,oi,oi,on,on] []),oA 103 0,oA 104 4,oZ 105 cY [oT 103,oT 104,oN 1],oF 5 2 102,
 oA 3 105] [2,3] [0,2,86] (.ret)) (.skip)))) (.skip))) (.keep [2,6] [0,2,86] (oX [oA 106 6,oB 107 (.build [oi,oi,oi,on,on] [(0,1,oN 1),(3,1,oT 106)]),oF 5 2 107,oB 3 (.mv (.const (.bool true)))] [2,3] [0,2,86] (.ret))))))))))))))
def gp:List au:= [.cell 2 true 5, .tmp 3]
def rm:List Nat:= []
theorem rb:ay Tryz.prog dF rm gx gp 108:=ap mixed (by kernel_rfl)
-- regex_parser_repeat while id=0: live [0:p, 2:, 4:e, 5:ok] changed [5] res [0, 2, 4]
def f1:CC:=oX [oB 2 (.alloc aA [oi,oi,oi,on,on]),oB 3 (.mv (.const ob))] [0,2] [0,2] (oX [oA 9 0,oZ 10 dT [oT 9],oA 8 10,oB 11 (.ext (oT 8) 0),oB 12 (.ext (oT 8) 1),oB 4 (.alloc aA [oi,oi,oi,on,on]),oF 5 4 11,oA 5 12] [0,2,4,5] [0,2,4] (.seq (.block 0 (.loop 1 (.seq (oX [oA 13 5] [0,2,4,5,13] [0,2,4] (.ite (oT 13) (.skip) (.exit 0)))
 (.keep [0,2,4,5] [0,2,4] (.block 1 (oX [oB 6 (.mv (oN 0)),oB 7 (.mv (oN (-1)))] [0,2,4,5,6,7] [0,2,4] (.seq (oX [oA 14 0,oZ 15 ak [oT 14]] [0,2,4,5,6,7,15] [0,2,4] (.block 2 (oX [oB 18 (.eql false false [.int] (oT 15) (.const (.int .i32 42))),oA 17 18] [0,2,4,5,6,7,15,17] [0,2,4] (.ite (oT 17) (.skip) (oX [oB 20 (.eql false false [.int] (oT 15) (.const (.int .i32 43))),
 oA 19 20] [0,2,4,5,6,7,15,19] [0,2,4] (.ite (oT 19) (.reg [oB 6 (.mv (oN 1))]) (oX [oB 22 (.eql false false [.int] (oT 15) (.const (.int .i32 63))),oA 21 22] [0,2,4,5,6,15,21] [0,2,4] (.ite (oT 21) (.reg [oB 7 (.mv (oN 1))]) (oX [oB 24 (.eql false false [.int] (oT 15) (.const (.int .i32 123))),oA 23 24] [0,2,4,23] [0,2,4] (.ite (oT 23) (oX [oA 25 0,oG 26 25,oE 27 1 26,oC 28 1 27,
 oB 29 (.arith .add (oT 28) (oN 1)),oG 30 25,oE 31 1 30,oF 1 31 29] [0,2,4] [0,2,4] (oX [oA 33 0,oZ 34 rz [oT 33],oA 32 34,oB 35 (.ext (oT 32) 0),oB 36 (.ext (oT 32) 1),oB 37 (.ext (oT 32) 2),oA 6 35,oA 7 36,oA 5 37] [0,2,4,5,6,7] [0,2,4] (oX [oA 38 5,oB 39 (.not (oT 38))] [0,2,4,5,6,7,39] [0,2,4] (.ite (oT 39) (oX [oB 40 (.build [oi,oi,oi,on,on] []),oF 5 2 40,
 oB 3 (.mv (.const ob))] [2,3] [0,2] (.ret)) (.skip))))) (oX [oD 16 5 4,oF 5 2 16,oB 3 (.mv (.const (.bool true)))] [2,3] [0,2] (.ret)))))))))))) (.keep [0,2,4,5,6,7] [0,2,4] (oX [oA 41 0,oG 42 41,oE 43 1 42,oC 44 1 43,oB 45 (.arith .add (oT 44) (oN 1)),oG 46 41,oE 47 1 46,oF 1 47 45] [0,2,4,5,6,7] [0,2,4] (.reg [oA 48 6,oA 49 7,oD 50 5 4,oB 51 (.bslice aA 5 [oT 50]),
 oB 52 (.build [oi,oi,oi,on,on] [(0,1,oN 4),(1,1,oT 48),(2,1,oT 49),(4,1,oT 51)]),oF 5 4 52])))))))))) (.keep [2] [0,2] (oX [oB 53 (.build [oi,oi,oi,on,on] []),oF 5 2 53,oB 3 (.mv (.const ob))] [2,3] [0,2] (.ret)))))
def fN:List au:= [.cell 2 true 5, .tmp 3]
def qr:List Nat:= []
theorem qg:ay Tryz.prog dg qr f1 fN 54:=ap mixed (by kernel_rfl)
-- regex_parser_concat while id=0: live [0:p, 2:, 4:parts, 5:c] changed [4, 5] res [0, 2, 36, 40]
def f8:CC:=oX [oB 2 (.alloc aA [oi,oi,oi,on,on]),oB 3 (.mv (.const ob))] [0,2] [0,2,36,40] (oX [oB 4 (.mv (.const on))] [0,2,4] [0,2,36,40] (.seq (oX [oA 8 0,oZ 9 ak [oT 8],oA 5 9] [0,2,4,5] [0,2,36,40] (.block 0 (.loop 1 (.seq (oX [oA 10 5,oB 11 (.cmp .geq (oT 10) (.const (.int .i32 0))),oA 12 11,oH 13 12 (.mv (oT 5)),
 oH 14 12 (.eql true false [.int] (oT 13) (.const (.int .i32 124))),oB 15 (.pick (oT 12) (oT 14) (.const ob)),oA 16 15,oH 17 16 (.mv (oT 5)),oH 18 16 (.eql true false [.int] (oT 17) (.const (.int .i32 41))),oB 19 (.pick (oT 16) (oT 18) (.const ob))] [0,2,4,19] [0,2,36,40] (.ite (oT 19) (.skip) (.exit 0))) (.keep [0,2,4] [0,2,36,40] (.seq (.block 1 (oX [oA 23 0,
 oZ 24 dg [oT 23],oA 22 24,oB 25 (.ext (oT 22) 0),oB 26 (.ext (oT 22) 1),oB 6 (.alloc aA [oi,oi,oi,on,on]),oF 5 6 25,oA 7 26] [0,2,4,6,7] [0,2,6,36,40] (.seq (oX [oA 27 7,oB 28 (.not (oT 27))] [0,2,4,6,28] [0,2,6,36,40] (.ite (oT 28) (oX [oB 29 (.build [oi,oi,oi,on,on] []),oF 5 2 29,oB 3 (.mv (.const ob))] [2,3] [0,2,36,40] (.ret)) (.skip)))
 (.keep [0,2,4,6] [0,2,6,36,40] (oX [oE 30 0 6,oC 31 1 30,oB 32 (.eql false false [.int] (oT 31) (oN 2))] [0,2,4,6,32] [0,2,6,36,40] (.ite (oT 32) (.reg [oA 33 4,oE 34 4 6,oC 35 1 34,oB 36 (.append none aA 5 72 (oT 33) (oT 35)),oA 4 36]) (.reg [oA 37 4,oD 38 5 6,oB 39 (.bslice aA 5 [oT 38]),oB 40 (.append none aA 5 72 (oT 37) (oT 39)),oA 4 40])))))))
 (.keep [0,2,4] [0,2,36,40] (.reg [oA 20 0,oZ 21 ak [oT 20],oA 5 21])))))))) (.keep [2,4] [0,2,36,40] (.seq (oX [oA 41 4,oB 42 (.len (oT 41)),oB 43 (.eql false false [.int] (oT 42) (oN 1))] [2,4,43] [0,2,36,40] (.ite (oT 43) (oX [oA 44 4,oB 45 (.iaddr 5 (oT 44) (oN 0)),oD 46 5 45,oF 5 2 46,oB 3 (.mv (.const (.bool true)))] [2,3] [0,2,36,40] (.ret)) (.skip)))
 (.keep [2,4] [0,2,36,40] (oX [oA 47 4,oB 48 (.build [oi,oi,oi,on,on] [(0,1,oN 2),(4,1,oT 47)]),oF 5 2 48,oB 3 (.mv (.const (.bool true)))] [2,3] [0,2,36,40] (.ret)))))))
def fP:List au:= [.cell 2 true 5, .tmp 3]
def qt:List Nat:= []
theorem qi:ay Tryz.prog dh qt f8 fP 49:=ap mixed (by kernel_rfl)
-- regex_parser_union while id=0: live [0:p, 2:, 4:parts] changed [4] res [0, 2, 21, 25]
def gw:CC:=oX [oB 2 (.alloc aA [oi,oi,oi,on,on]),oB 3 (.mv (.const ob))] [0,2] [0,2,21,25] (oX [oB 4 (.mv (.const on))] [0,2,4] [0,2,21,25] (.seq (.block 0 (.loop 1 (.block 1 (oX [oA 8 0,oZ 9 dh [oT 8],oA 7 9,oB 10 (.ext (oT 7) 0),oB 11 (.ext (oT 7) 1),oB 5 (.alloc aA [oi,oi,oi,on,on]),oF 5 5 10,
 oA 6 11] [0,2,4,5,6] [0,2,5,21,25] (.seq (oX [oA 12 6,oB 13 (.not (oT 12))] [0,2,4,5,13] [0,2,5,21,25] (.ite (oT 13) (oX [oB 14 (.build [oi,oi,oi,on,on] []),oF 5 2 14,oB 3 (.mv (.const ob))] [2,3] [0,2,21,25] (.ret)) (.skip))) (.keep [0,2,4,5] [0,2,5,21,25] (.seq (oX [oE 15 0 5,oC 16 1 15,oB 17 (.eql false false [.int] (oT 16) (oN 3))] [0,2,4,5,17] [0,2,5,21,25] (.ite (oT 17) (.reg [
 oA 18 4,oE 19 4 5,oC 20 1 19,oB 21 (.append none aA 5 72 (oT 18) (oT 20)),oA 4 21]) (.reg [oA 22 4,oD 23 5 5,oB 24 (.bslice aA 5 [oT 23]),oB 25 (.append none aA 5 72 (oT 22) (oT 24)),oA 4 25]))) (.keep [0,2,4] [0,2,21,25] (.seq (oX [oA 26 0,oZ 27 ak [oT 26],
 oB 28 (.eql true false [.int] (oT 27) (.const (.int .i32 124)))] [0,2,4,28] [0,2,21,25] (.ite (oT 28) (.exit 0) (.skip))) (.keep [0,2,4] [0,2,21,25] (.reg [oA 29 0,oG 30 29,oE 31 1 30,oC 32 1 31,oB 33 (.arith .add (oT 32) (oN 1)),oG 34 29,oE 35 1 34,oF 1 35 33]))))))))))) (.keep [2,4] [0,2,21,25] (.seq (oX [oA 36 4,oB 37 (.len (oT 36)),
 oB 38 (.eql false false [.int] (oT 37) (oN 1))] [2,4,38] [0,2,21,25] (.ite (oT 38) (oX [oA 39 4,oB 40 (.iaddr 5 (oT 39) (oN 0)),oD 41 5 40,oF 5 2 41,oB 3 (.mv (.const (.bool true)))] [2,3] [0,2,21,25] (.ret)) (.skip))) (.keep [2,4] [0,2,21,25] (oX [oA 42 4,oB 43 (.build [oi,oi,oi,on,on] [(0,1,oN 3),(4,1,oT 42)]),oF 5 2 43,oB 3 (.mv (.const (.bool true)))] [2,3] [0,2,21,25] (.ret)))))))
def gn:List au:= [.cell 2 true 5, .tmp 3]
def rk:List Nat:= []
theorem ra:ay Tryz.prog cO rk gw gn 44:=ap mixed (by kernel_rfl)
end Go.Gv

namespace Go.Gv
open Cod (enc dec)
variable {S S0:Nat→Spc}
abbrev s_decR:Spc:=cv (a1 B) (fun s=> ∃c,s.data[0]?=some c∧c.toNat < 128) (tG (Y:=I32) (Z:=Int)) fun s y=> ∀c,s.data[0]?=some c→y=(⟨c.toNat⟩,1)
abbrev s_crune:Spc:=cv (a2 B I32) (fun x=> 0≤x.2.val∧x.2.val < 128) (enc (X:=Bool)) fun x y=> y=P6 x.1 x.2.val
theorem sT {p:Rp} {c:Int} (h:BM p=some c):p.s.size≤200∧((p.pos=p.s.size∧c= -1)∨(0≤p.pos∧p.pos < p.s.size∧p.pos≠p.s.size∧ ∃x:UInt8,p.s.data[p.pos.toNat]?=some x∧x.toNat < 128∧c=x.toNat)):=by
 unfold BM at h
 split at h
 ·cases h
 rename_i hsz
 refine⟨by omega,?_⟩
 split at h
 ·exact .inl ⟨by assumption,(Option.some.inj h).symm⟩
 ·rename_i hne
  split at h
  ·rename_i h0
   split at h
   ·rename_i x hx
    split at h
    ·rename_i hlt
     have hx2:=(Array.getElem?_eq_some_iff.1 hx).1
     refine .inr ⟨h0,?_,hne,x,hx,hlt,(Option.some.inj h).symm⟩
     show p.pos < (p.s.data.size:Int)
     omega
    ·cases h
   ·cases h
  ·cases h
theorem qgp {s:B} {k:Nat} {x:UInt8} (h:s.data[k]?=some x): (s.extract k s.size).data[0]?=some x:=by
 obtain⟨h1,h2⟩:=Array.getElem?_eq_some_iff.1 h
 rw[ByteArray.data_extract,Array.getElem?_extract]
 have:0 < min s.size s.data.size -k:=by
  have:s.size=s.data.size:=rfl
  omega
 rw[if_pos this,Nat.add_zero]
 exact h
abbrev fK:Spc:=LX a0 (enc (X:=I32)) iE
theorem DP (h1:S aI=s_decR):nL eQ eD S a0 (enc (X:=I32)) (fun s z=> ∃r,iE s z=some r) (fun s z s' y=> iE s z=some (s',y)):=by
 rintro b s ⟨⟩ ⟨r,hr⟩
 obtain⟨c,hc,_⟩:=Option.map_eq_some_iff.1 hr
 have fin: ∀ {H:aa},H 0=some (.box b (mc s))→wS (enc (X:=I32)) b (fun s' y=> iE s ()=some (s',y)) (.v (.int .i32 c)) H:=fun h0=> wB s ⟨c⟩ (.same _) h0 (by simp[iE,hc])
 obtain⟨hsz,hc2⟩:=sT hc
 rcases hc2 with⟨e1,rfl⟩ | ⟨h0,h2,h3,x,hx,hlt,rfl⟩
 ·simp[eQ,eD,e1, -Bool.forall_bool, -Bool.exists_bool]
  exact fun _=> fin (by simp[e1])
 ·have hd: (s.s.data.extract s.pos.toNat s.s.size)[0]?=some x:=by rw[←ByteArray.data_extract];exact qgp hx
  simp[eQ,eD,h1,h0,h2,h3, -Bool.forall_bool, -Bool.exists_bool]
  refine fun _=> ⟨by omega,⟨x,hd,hlt⟩,fun a b1 h=> ?_⟩
  obtain⟨rfl,rfl⟩:=h x hd
  exact fin (by simp)
abbrev D9:Spc:=LX a0 Ka CY
theorem DO (h1:S aI=s_decR):nL io gO S a0 Ka (fun s z=> ∃r,CY s z=some r) (fun s z s' y=> CY s z=some (s',y)):=by
 rintro b s ⟨⟩ ⟨r,hr⟩
 obtain⟨c,hc,h⟩:=Option.bind_eq_some_iff.1 hr
 split at h
 ·rename_i hc0
  have fin: ∀ {H:aa},H 0=some (.box b (mc s.bump))→wS Ka b (fun s' y=> CY s ()=some (s',y)) (.tup []) H:=fun h0=> wB s.bump () (.same _) h0 (by simp[CY,hc,hc0])
  obtain⟨hsz,hc2⟩:=sT hc
  rcases hc2 with⟨e1,rfl⟩ | ⟨h0,h2,h3,x,hx,hlt,rfl⟩
  ·omega
  ·have hd: (s.s.data.extract s.pos.toNat s.s.size)[0]?=some x:=by rw[←ByteArray.data_extract];exact qgp hx
   simp[io,gO,h1,h0,h2,h3, -Bool.forall_bool, -Bool.exists_bool]
   refine⟨by omega,⟨x,hd,hlt⟩,fun a b1 h=> ?_⟩
   obtain⟨rfl,rfl⟩:=h x hd
   exact⟨by simp only[InR];omega,fin (by simp[Rp.bump])⟩
 ·cases h
abbrev Qo: (I32×Bool)→D:=tG (Y:=I32) (Z:=Bool)
abbrev vK:Spc:=LX (a1 B) Qo tN
theorem vj (h1:S ak=fK) (h2:S dS=D9):nL ew eu S (a1 B) Qo (fun s z=> ∃r,tN s z=some r) (fun s z s' y=> tN s z=some (s',y)):=by
 rintro b s sp ⟨r,hr⟩
 obtain⟨c,hc,h⟩:=Option.bind_eq_some_iff.1 hr
 split at h
 ·cases h
 ·rename_i hn
  have n1:0≤c:=by omega
  have n2:c≠92:=fun e=> hn (.inr e)
  simp[ew,eu,h1,h2,iE,CY,hc,n1,n2, -Bool.forall_bool, -Bool.exists_bool]
  exact wB s.bump (⟨c⟩,true) (.same _) (by simp) (by simp[tN,hc,hn])
abbrev Im:Spc:=LX a0 Qo Gx
theorem zz (h1:S ak=fK) (h2:S bt=s_crune) (h3:S bi=vK):nL f7 fO S a0 Qo (fun s z=> ∃r,Gx s z=some r) (fun s z s' y=> Gx s z=some (s',y)):=by
 rintro b s ⟨⟩ ⟨r,hr⟩
 obtain⟨c,hc,h⟩:=Option.bind_eq_some_iff.1 hr
 split at h
 ·cases h
 ·rename_i hn
  have n1: ¬c < 0:=fun e=> hn (.inl e)
  have n2:P6 Kr c=false:=by
   cases e:P6 Kr c with
   | false=> rfl
   | true=> exact absurd (.inr e) hn
  have hsz:=sT hc
  have h128:c < 128:=by
   rcases hsz.2 with⟨_,rfl⟩ | ⟨_,_,_,x,_,hlt,rfl⟩ <;> omega
  have n3:P6 ⟨#[92,91,93,94,45]⟩ c=false:=n2
  have h4:tN s ⟨#[92,91,93,94,45]⟩=some r:=h
  simp[f7,fO,h1,h2,h3,iE,hc,n1,n3,h4,h128, -Bool.forall_bool, -Bool.exists_bool]
  obtain⟨s',⟨c'⟩,t'⟩:=r
  intro n0
  refine⟨fun _=> ⟨n0,wB s' (⟨c'⟩,t') (.same _) (by simp) (by simp[Gx,hc,hn,h])⟩,fun _=> wB s' (⟨c'⟩,t') (.same _) (by simp) (by simp[Gx,hc,hn,h])⟩
theorem E7 {H:aa} {op mn mx:Int} {d3 d4:D} (rs:List Rng) (ks:List Rx) (h3:FrzTo H d3 (enc rs)) (h4:FrzTo H d4 (enc ks)):FrzTo H (.agg [.v (.int .i64 op), .v (.int .i64 mn), .v (.int .i64 mx),d3,d4]) (enc (Rx.mk op mn mx rs ks)):=by
 rw[N2]
 refine .agg rfl fun k c c' hc hc'=> ?_
 match k with
 | 0=> cases hc;cases hc';exact .same _
 | 1=> cases hc;cases hc';exact .same _
 | 2=> cases hc;cases hc';exact .same _
 | 3=> cases hc;cases hc';exact h3
 | 4=> cases hc;cases hc';exact h4
 | k+5=> simp at hc
abbrev Il:Spc:=cv (a2 I32 I32) (fun _=> True) (enc (X:=Rx)) fun x y=> y=MD x.1.val x.2.val
theorem Fy:aN qC pS S (a2 I32 I32) (fun _=> True) (enc (X:=Rx)) fun x y=> y=MD x.1.val x.2.val:=by
 rintro⟨x,y⟩ -
 simp[qC,pS,MD]
 exact fun b=> dE (Y:=Rx) ⟨1,0,0, [⟨x,y⟩], []⟩ (E7 [⟨x,y⟩] [] (.same _) (.nil _)) rfl
end Go.Gv

namespace Go.Gv
open Cod (enc dec)
variable {S S0:Nat→Spc}
abbrev u1: (Rx×Bool)→D:=tG (Y:=Rx) (Z:=Bool)
abbrev In:Spc:=LX a0 u1 Qw
abbrev Ea:Spc:=LX a0 u1 Kx
theorem Vs {b:Nat} {post:Rp→(Rx×Bool)→Prop} {x:Rx} {v:Bool} {H:aa} (s:Rp) (h0:H 0=some (.box b (mc s))) (hq:post s (x,v)):wS u1 b post (.tup [enc x, .v (.bool v)]) H:=wB s (x,v) (.same _) h0 hq
theorem uY {b:Nat} {post:Rp→(Rx×Bool)→Prop} {x:Rx} {v:Bool} {H:aa} (s:Rp) (h0:H 0=some (.box b (mc s))) (hq:post s (x,v)):wS u1 b post (.tup [.agg [.v (.int .i64 x.op), .v (.int .i64 x.mn), .v (.int .i64 x.mx), .list 2 (x.rs.map enc), .list 5 (x.kids.map enc)], .v (.bool v)]) H:=by
 have e: (D.agg [.v (.int .i64 x.op), .v (.int .i64 x.mn), .v (.int .i64 x.mx), .list 2 (x.rs.map enc), .list 5 (x.kids.map enc)])=enc x:=by simp
 rw[e]
 exact Vs s h0 hq
set_option maxHeartbeats 1000000 in
theorem DQ (h1:S ak=fK) (h2:S jL=Il) (h3:S dF=In) (h4:S bt=s_crune) (h5:S bi=vK):nL dJ dB S a0 u1 (fun s z=> ∃r,Kx s z=some r) (fun s z s' y=> Kx s z=some (s',y)):=by
 rintro b s ⟨⟩ ⟨r,hr⟩
 have hr0:=hr
 obtain⟨c,hc,h⟩:=Option.bind_eq_some_iff.1 hr
 have hsz:=sT hc
 have h128:c < 128:=by
  rcases hsz.2 with⟨_,rfl⟩ | ⟨_,_,_,x,_,hlt,rfl⟩ <;> omega
 split at h
 ·cases h
 rename_i e40
 split at h
 ·rename_i e46
  subst e46
  have hp:InR .i64 (s.pos+1):=by
   rcases hsz.2 with⟨_,e⟩ | ⟨_,_,_,x,_,hlt,e⟩
   ·cases e
   ·simp only[InR];omega
  cases h
  simp[dJ,dB,h1,h2,iE,hc,hp, -Bool.forall_bool, -Bool.exists_bool]
  exact fun _=> uY s.bump (by simp[Rp.bump]) hr0
 rename_i e46
 split at h
 ·rename_i e91
  subst e91
  obtain⟨s',x',t'⟩:=r
  simp[dJ,dB,h1,h3,iE,hc,h, -Bool.forall_bool, -Bool.exists_bool]
  exact fun _=> uY s' (by simp) hr0
 rename_i e91
 split at h
 ·cases h
 ·rename_i hn
  obtain⟨q,hq,rfl⟩:=Option.map_eq_some_iff.1 h
  obtain⟨s',⟨c'⟩,t'⟩:=q
  have hq':=hq
  obtain⟨c2,hc2,h'⟩:=Option.bind_eq_some_iff.1 hq'
  rw[hc] at hc2
  obtain rfl:=Option.some.inj hc2
  split at h'
  ·cases h'
  rename_i hn2
  have n0:0≤c:=by omega
  have n92:c≠92:=fun e=> hn2 (.inr e)
  have nin:P6 ⟨#[92,46,91,93,40,41,123,125,124,42,43,63]⟩ c=false:=by
   cases e:P6 ⟨#[92,46,91,93,40,41,123,125,124,42,43,63]⟩ c with
   | false=> rfl
   | true=> exact absurd ⟨n92,e⟩ hn
  have hq2:tN s ⟨#[92,46,91,93,40,41,123,125,124,42,43,63]⟩=some (s',⟨c'⟩,t'):=hq
  simp[dJ,dB,h1,h2,h4,h5,iE,hc,e40,e46,e91,n0,n92,h128,nin,hq2, -Bool.forall_bool, -Bool.exists_bool]
  exact fun _=> uY s' (by simp) hr0
abbrev Ik:Spc:=LX a0 u1 MQ
theorem Ku {p:Rp} {c:Int} (h:BM p=some c):c < 128∧ -1≤c∧(0≤c→InR .i64 (p.pos+1)):=by
 obtain⟨h1,h2⟩:=sT h
 rcases h2 with⟨_,rfl⟩ | ⟨_,_,_,x,_,hlt,rfl⟩
 ·exact⟨by omega,by omega,fun h=> absurd h (by omega)⟩
 ·exact⟨by omega,by omega,fun _=> by simp only[InR];omega⟩
theorem K2 {c:Int} {m:Int×Int} (h:Cl c=some m):c=42∧m=(0, -1)∨c=43∧m=(1, -1)∨c=63∧m=(0,1):=by
 unfold Cl at h
 split at h
 ·exact .inl ⟨by assumption,(Option.some.inj h).symm⟩
 split at h
 ·exact .inr (.inl ⟨by assumption,(Option.some.inj h).symm⟩)
 split at h
 ·exact .inr (.inr ⟨by assumption,(Option.some.inj h).symm⟩)
 cases h
theorem C6 {c:Int} (h:Cl c=none):c≠42∧c≠43∧c≠63:=by
 unfold Cl at h
 refine⟨fun e=> ?_,fun e=> ?_,fun e=> ?_⟩ <;> (subst e;simp at h)
def pR (o:Option (Int×Int)) (x:Rx):List D:=match o with
 | none=> [.v (.int .i64 x.op), .v (.int .i64 x.mn), .v (.int .i64 x.mx), .list 2 (x.rs.map enc), .list 5 (x.kids.map enc)]
 | some m=> [.v (.int .i64 4), .v (.int .i64 m.1), .v (.int .i64 m.2), .v (.slice none 0 0), .list 5 [enc x]]
theorem Vr {b:Nat} {post:Rp→(Rx×Bool)→Prop} {m:Int×Int} {e:Rx} {H:aa} (s:Rp) (h0:H 0=some (.box b (mc s))) (hq:post s (⟨4,m.1,m.2, [], [e]⟩,true)):wS u1 b post (.tup [.agg (pR (some m) e), .v (.bool true)]) H:=by
 refine wB s (⟨4,m.1,m.2, [], [e]⟩,true) (.tup rfl fun k c c' hc hc'=> ?_) h0 hq
 match k with
 | 0=> cases hc;cases hc';exact E7 [] [e] (.nil _) (.same _)
 | 1=> cases hc;cases hc';exact .same _
 | k+2=> simp at hc
set_option maxHeartbeats 2000000 in
theorem zx (h1:S ak=fK) (h2:S dT=Ea):nL f1 fN S a0 u1 (fun s z=> ∃r,MQ s z=some r) (fun s z s' y=> MQ s z=some (s',y)):=by
 rintro b s ⟨⟩ ⟨r,hr⟩
 have hr0:=hr
 obtain⟨⟨s1,e,ok⟩,ha,h⟩:=Option.bind_eq_some_iff.1 hr
 simp only at h
 split at h
 rotate_left
 ·cases h
 rename_i hok
 subst hok
 obtain⟨c,hc,h⟩:=Option.bind_eq_some_iff.1 h
 split at h
 ·cases h
 rename_i e123
 have hcc:=Ku hc
 simp[f1,fN,h2,ha, -Bool.forall_bool, -Bool.exists_bool]
 intro b2 b4
 refine bq (X:=Option (Int×Int)) [0,2,4,5] [2] (fun o=> ∀m,o=some m→Cl c=some m) (fun _=> []) (fun o=> [(0, .box b (mc (match o with | none=> s1 | some _=> s1.bump))),(4, .box b4 (pR o e))]) (fun o=> match o with | none=> 1 | some _=> 0) none (fun m h=> by cases h) (by simp) (by simp[pR]) ?_
 rintro(_ | m) hP
 ·cases hm:Cl c with
  | none=>
    rw[hm] at h
    cases h
    obtain⟨n1,n2,n3⟩:=C6 hm
    simp[pR,h1,iE,hc,n1,n2,n3,e123, -Bool.forall_bool, -Bool.exists_bool]
    exact uY s1 (by simp) hr0
  | some m=>
    rcases K2 hm with⟨rfl,rfl⟩ | ⟨rfl,rfl⟩ | ⟨rfl,rfl⟩
    all_goals
     have hin:=hcc.2.2 (by omega)
     simp[pR,h1,iE,hc,hin, -Bool.forall_bool, -Bool.exists_bool]
     first
      | exact⟨some (0, -1),by simp,⟨.inl ⟨rfl,rfl,rfl,rfl⟩, .inl rfl⟩,rfl⟩
      | exact⟨some (1, -1),by simp,⟨.inl ⟨rfl,rfl,rfl,rfl⟩, .inl rfl⟩,rfl⟩
      | exact⟨some (0,1),by simp,⟨.inl ⟨rfl,rfl,rfl,rfl⟩, .inl rfl⟩,rfl⟩
 ·have hm:=hP m rfl
  rw[hm] at h
  simp only at h
  obtain⟨d,hd,h⟩:=Option.bind_eq_some_iff.1 h
  split at h
  ·cases h
  rename_i hn
  cases h
  have hd':d≠123∧Cl d=none:=⟨fun e=> hn (.inl e),by
   cases q:Cl d with
   | none=> rfl
   | some q'=> exact absurd (.inr (by rw[q];rfl)) hn⟩
  obtain⟨n1,n2,n3⟩:=C6 hd'.2
  have n4:=hd'.1
  simp[pR,h1,iE,hd,n1,n2,n3,n4, -Bool.forall_bool, -Bool.exists_bool]
  simpa [pR, -Bool.forall_bool, -Bool.exists_bool] using Vr (e:=e) (m:=m) s1.bump (by simp) hr0
end Go.Gv
