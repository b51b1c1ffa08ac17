/- C3 -/
import Derived.Shelf.SortG.Plain
import Derived.Shelf.SortG.SortNone
import Derived.Test.YtnffegdacbdhmaaGreatDoorGd25
set_option linter.all false
set_option maxRecDepth 100000
namespace Go.Gv
open Go.Proofs
def my:CC:=oX [oB 2 (.box aC true (oT 0)),oB 3 (.box aC true (oT 1)),oB 4 (.mv (oN 0))] [2,3] [] (.seq (.regd [oE 5 0 2,oC 6 1 5,oE 7 0 3,oC 8 1 7,oZ 9 eP [oT 6,oT 8],oE 10 1 2,oC 11 1 10,oE 12 1 3,oC 13 1 12] [oZ 14 eP [oT 11,oT 13],oB 15 (.bslice bb 1 [oT 9,oT 14]),oZ 16 pv [oT 15],oA 4 16])
 (.keep [4] [] (.ret)))
def lW:List ak:=[.tmp 4]
def pK:CC:=oX [oB 4 (.mv (.const on))] [0,1] [] (oX [oB 5 (.mv (.const on))] [0,1,5] [19] (.seq (oX [oA 8 0,oB 9 (.len (oT 8)),oB 10 (.mv (oN 0))] [1,5,8,9,10] [19] (fF 0 10 9 11 1 (oX [oB 12 (.iaddr 1 (oT 8) (oT 10)),oC 13 1 12,oA 7 13] [1,5,7,8,9,10] [19] (.reg [oA 14 5,oA 15 7,oA 16 1,oB 17 (.arith .add (oT 15) (oT 16)),oB 18 (.bslice bb 1 [oT 17]),
 oB 19 (.append none bb 1 8 (oT 14) (oT 18)),oA 5 19])) 20)) (.keep [5] [19] (oX [oA 21 5,oA 4 21] [4] [19] (.ret)))))
def oo:List ak:=[.tmp 4]
def pJ:CC:=oX [oB 2 (.box aK true (oT 0)),oB 4 (.mv (.const on))] [1,2] [] (.seq (oX [oE 9 10 2,oC 10 1 9,oB 11 (.eql false false [.int] (oT 10) (oN 0))] [1,2,11] [] (.ite (oT 11) (oX [oB 4 (.mv (.const on))] [4] [35] (.ret)) (.skip))) (.keep [1,2] [] (oX [oE 13 12 2,oC 14 1 13,oB 15 (.iaddr 13 (oT 14) (oN 0)),oD 16 13 15,oZ 17 gE [oT 16],oA 12 17,
 oB 18 (.ext (oT 12) 0),oB 19 (.ext (oT 12) 1),oA 5 18,oA 6 19] [1,2,5,6] [] (.seq (oX [oA 20 5,oA 21 6,oB 22 (.eql true false [.int] (oT 20) (oT 21))] [1,2,5,22] [] (.ite (oT 22) (oX [oA 23 1,oA 4 23] [4] [35] (.ret)) (.skip))) (.keep [1,2,5] [] (oX [oB 7 (.mv (.const on))] [1,2,5,7] [35] (.seq (oX [oE 24 10 2,oC 25 1 24,
 oB 26 (.mv (oN 0))] [1,5,7,25,26] [35] (fF 0 26 25 27 1 (oX [oA 28 26,oA 8 28] [1,5,7,8,25,26] [35] (.reg [oA 29 7,oA 30 1,oA 31 8,oA 32 5,oB 33 (.arith .mul (oT 31) (oT 32)),oZ 34 dU [oT 30,oT 33],oB 35 (.append none bb 1 8 (oT 29) (oT 34)),oA 7 35])) 36)) (.keep [7] [35] (oX [oA 37 7,oZ 38 oW [oT 37]] [7] [35] (oX [oA 39 7,
 oZ 40 gd [oT 39],oA 4 40] [4] [35] (.ret)))))))))))
def om:List ak:=[.tmp 4]
def bv:CC:=oX [oB 4 (.box aK true (oT 1))] [0,2,4] [0,47] (oX [oE 14 0 4,oC 15 1 14] [0,2,4,15] [0,47] (.block 0 (oX [oB 28 (.eql false false [.int] (oT 15) (oN 1)),oA 27 28] [0,2,4,15,27] [0,47] (.ite (oT 27) (.seq (oX [oA 29 2,oB 30 (.len (oT 29)),oB 31 (.mv (oN 0))] [0,29,30,31] [0,47] (fF 3 31 30 32 4 (oX [oB 33 (.iaddr 1 (oT 29) (oT 31)),
 oC 34 1 33,oA 7 34] [0,7,29,30,31] [0,47] (.regd [oA 35 0,oA 36 0,oG 37 36,oE 38 1 37,oC 39 1 38,oA 40 0,oG 41 40,oE 42 0 41,oC 43 1 42,oA 44 7,oB 45 (.build [oi,oi] [(0,1,oT 43),(1,1,oT 44)]),oB 46 (.bslice aC 2 [oT 45]),oB 47 (.append (some 47) aC 2 16 (oT 39) (oT 46))] [oG 48 35,oE 49 1 48,.op none none (.store (some 0) 1 (oT 49) (oT 47))])) 50))
 (.keep [0] [0,47] (.reg [oA 51 0,oG 52 51,oE 53 0 52,oC 54 1 53,oB 55 (.arith .add (oT 54) (oN 1)),oG 56 51,oE 57 0 56,oF 1 57 55]))) (oX [oB 59 (.eql false false [.int] (oT 15) (oN 4)),oA 58 59] [0,2,4,15,58] [0,47] (.ite (oT 58) (oX [oE 60 12 4,oC 61 1 60,oB 62 (.len (oT 61)),oB 63 (.mv (oN 0))] [0,2,61,62,63] [0,47] (fF 5 63 62 64 6 (oX [oB 65 (.iaddr 13 (oT 61) (oT 63)),
 oD 66 13 65,oB 9 (.alloc aK [oi,oi,oe,oe,oe,oe,ob,on,oe,oe,oi,oi,on]),oF 13 9 66] [0,2,9,61,62,63] [0,9,47] (oX [oA 67 0,oD 68 13 9,oA 69 2,oZ 70 aM [oT 67,oT 68,oT 69]] [0,2,9,61,62,63] [0,9,47] (oX [oD 72 13 9,oZ 73 gE [oT 72],oA 71 73,oB 74 (.ext (oT 71) 0),oB 75 (.ext (oT 71) 1),oA 10 74,oA 11 75] [0,2,10,11,61,62,63] [0,47] (.seq (oX [
 oA 76 10,oA 77 11,oB 78 (.eql true false [.int] (oT 76) (oT 77))] [0,2,10,61,62,63,78] [0,47] (.ite (oT 78) (.reg [oB 2 (.mv (.const on))]) (.skip))) (.keep [0,2,10,61,62,63] [0,47] (.reg [oA 79 2,oA 80 10,oZ 81 dU [oT 79,oT 80],oA 2 81])))))) 82)) (oX [oB 84 (.eql false false [.int] (oT 15) (oN 6)),oA 83 84] [0,2,4,83] [0,47] (.ite (oT 83) (.regd [oA 85 0,oE 86 12 4,
 oC 87 1 86,oB 88 (.iaddr 13 (oT 87) (oN 0)),oD 89 13 88,oD 90 13 4,oA 91 2,oZ 92 ib [oT 90,oT 91]] [oZ 93 aM [oT 85,oT 89,oT 92]]) (oX [oE 16 12 4,oC 17 1 16,oB 18 (.len (oT 17)),oB 19 (.mv (oN 0))] [0,17,18,19] [0,47] (fF 1 19 18 20 2 (oX [oB 21 (.iaddr 13 (oT 17) (oT 19)),oD 22 13 21,
 oB 13 (.alloc aK [oi,oi,oe,oe,oe,oe,ob,on,oe,oe,oi,oi,on]),oF 13 13 22] [0,13,17,18,19] [0,13,47] (.reg [oA 23 0,oD 24 13 13,oZ 25 aM [oT 23,oT 24,.const on]])) 26))))))))))
def br:List ak:=[]
def pM:CC:=oX [oB 1 (.box aK true (oT 0)),oB 2 (.mv (.const on))] [1] [] (.seq (oX [oD 5 13 1,oZ 6 tJ [oT 5],oA 3 6] [1,3] [] (oX [oA 7 3,oB 8 (.cmp .lss (oT 7) (oN 1)),oA 9 8,oI 10 9 (.mv (oT 3)),oI 11 9 (.cmp .gtr (oT 10) (oN 256)),oB 12 (.pick (oT 9) (.const (.bool true)) (oT 11))] [1,12] [] (.ite (oT 12) (oX [
 oB 2 (.mv (.const on))] [2] [] (.ret)) (.skip)))) (.keep [1] [] (Ke 5 (.reg [oB 13 (.build [oi,on] []),oB 14 (.box DZ false (oT 13)),oA 4 14]) (.keep [1,4] [14,47] (oX [oA 15 4,oD 16 13 1,oB 17 (.bslice bb 1 [oN 0]),oZ 18 aM [oT 15,oT 16,oT 17]] [4] [14,47] (oX [oA 19 4,oG 20 19,oE 21 1 20,oC 22 1 21,
 oZ 23 gC [oT 22,.func fA]] [4] [14,47] (oX [oA 24 4,oG 25 24,oE 26 1 25,oC 27 1 26,oZ 28 eM [oT 27],oA 2 28] [2] [47] (.ret))))))))
def ot:List ak:=[.tmp 2]
def jM:CC:=oX [oB 2 (.mv (.const on))] [0] [0] (.seq (oX [oA 6 0,oB 7 (.len (oT 6)),oB 8 (.cmp .lss (oT 7) (oN 2))] [0,8] [0] (.ite (oT 8) (oX [oA 9 0,oA 2 9] [2] [0] (.ret)) (.skip))) (.keep [0] [0] (.seq (oX [oB 3 (.mv (oN 1))] [0,3] [0] (.block 0 (.loop 1 (.seq (oX [oA 10 3,oA 11 0,oB 12 (.len (oT 11)),
 oB 13 (.cmp .lss (oT 10) (oT 12))] [0,3,13] [0] (.ite (oT 13) (.skip) (.exit 0))) (.keep [0,3] [0] (.seq (.block 1 (.seq (.regd [oA 16 0,oA 17 3,oB 18 (.iaddr 1 (oT 16) (oT 17)),oC 19 1 18,oA 20 0,oA 21 3,oB 22 (.arith .sub (oT 21) (oN 1)),oB 23 (.iaddr 1 (oT 20) (oT 22)),oC 24 1 23] [oB 25 (.eql false false [.int] (oT 19) (oT 24))]) (.keep [0,3,25] [0] (.ite (oT 25) (oX [oA 26 0,
 oA 27 3,oB 28 (.slice 1 (oT 26) (some (oT 27)) none),oA 4 28] [0,3,4] [0] (Ke 11 (oX [oB 5 (.mv (oN 1))] [0,3,4,5] [0] (.block 2 (.loop 2 (.seq (oX [oA 29 5,oA 30 4,oB 31 (.len (oT 30)),oB 32 (.cmp .lss (oT 29) (oT 31))] [0,3,4,5,32] [0] (.ite (oT 32) (.skip) (.exit 2))) (.keep [0,3,4,5] [0] (.seq (.block 3 (.seq (.regd [oA 35 4,oA 36 5,oB 37 (.iaddr 1 (oT 35) (oT 36)),oC 38 1 37,
 oA 39 4,oA 40 5,oB 41 (.arith .sub (oT 40) (oN 1)),oB 42 (.iaddr 1 (oT 39) (oT 41)),oC 43 1 42] [oB 44 (.eql true false [.int] (oT 38) (oT 43))]) (.keep [0,3,4,5,44] [0] (.ite (oT 44) (oX [oA 45 0,oA 46 3,oA 47 4,oA 48 5,oB 49 (.iaddr 1 (oT 47) (oT 48)),oC 50 1 49,oB 51 (.iaddr 1 (oT 45) (oT 46)),oF 1 51 50] [0,3,4,5] [0] (.reg [oA 52 3,oB 53 (.arith .add (oT 52) (oN 1)),
 oA 3 53])) (.skip))))) (.keep [0,3,4,5] [0] (.reg [oA 33 5,oB 34 (.arith .add (oT 33) (oN 1)),oA 5 34])))))))) (.keep [0,3] [0] (oX [oA 54 0,oA 55 3,oB 56 (.slice 1 (oT 54) (some (oT 55)) none),.op none none (.clear 1 false [oi] (oT 56))] [0,3] [0] (oX [oA 57 0,oA 58 3,oB 59 (.slice 1 (oT 57) none (some (oT 58))),.frz 59 0,oA 2 59] [2] [0] (.ret)))))) (.skip)))))
 (.keep [0,3] [0] (.reg [oA 14 3,oB 15 (.arith .add (oT 14) (oN 1)),oA 3 15])))))))) (.keep [0] [0] (oX [oA 60 0,oA 2 60] [2] [0] (.ret))))))
def jy:List ak:=[.tmp 2]
def gH:CC:=oX [oB 2 (.mv (.const on))] [0] [0] (.seq (oX [oA 6 0,oB 7 (.len (oT 6)),oB 8 (.cmp .lss (oT 7) (oN 2))] [0,8] [0] (.ite (oT 8) (oX [oA 9 0,oA 2 9] [2] [0] (.ret)) (.skip))) (.keep [0] [0] (.seq (oX [oB 3 (.mv (oN 1))] [0,3] [0] (.block 0 (.loop 1 (.seq (oX [oA 10 3,oA 11 0,oB 12 (.len (oT 11)),
 oB 13 (.cmp .lss (oT 10) (oT 12))] [0,3,13] [0] (.ite (oT 13) (.skip) (.exit 0))) (.keep [0,3] [0] (.seq (.block 1 (.seq (.regd [oA 16 0,oA 17 3,oB 18 (.iaddr 2 (oT 16) (oT 17)),oD 19 2 18,oA 20 0,oA 21 3,oB 22 (.arith .sub (oT 21) (oN 1)),oB 23 (.iaddr 2 (oT 20) (oT 22)),oD 24 2 23] [oB 25 (.eql false true [.int,.int] (oT 19) (oT 24))]) (.keep [0,3,25] [0] (.ite (oT 25) (oX [oA 26 0,
 oA 27 3,oB 28 (.slice 2 (oT 26) (some (oT 27)) none),oA 4 28] [0,3,4] [0] (Ke 11 (oX [oB 5 (.mv (oN 1))] [0,3,4,5] [0] (.block 2 (.loop 2 (.seq (oX [oA 29 5,oA 30 4,oB 31 (.len (oT 30)),oB 32 (.cmp .lss (oT 29) (oT 31))] [0,3,4,5,32] [0] (.ite (oT 32) (.skip) (.exit 2))) (.keep [0,3,4,5] [0] (.seq (.block 3 (.seq (.regd [oA 35 4,oA 36 5,oB 37 (.iaddr 2 (oT 35) (oT 36)),oD 38 2 37,
 oA 39 4,oA 40 5,oB 41 (.arith .sub (oT 40) (oN 1)),oB 42 (.iaddr 2 (oT 39) (oT 41)),oD 43 2 42] [oB 44 (.eql true true [.int,.int] (oT 38) (oT 43))]) (.keep [0,3,4,5,44] [0] (.ite (oT 44) (oX [oA 45 0,oA 46 3,oA 47 4,oA 48 5,oB 49 (.iaddr 2 (oT 47) (oT 48)),oD 50 2 49,oB 51 (.iaddr 2 (oT 45) (oT 46)),oF 2 51 50] [0,3,4,5] [0] (.reg [oA 52 3,oB 53 (.arith .add (oT 52) (oN 1)),
 oA 3 53])) (.skip))))) (.keep [0,3,4,5] [0] (.reg [oA 33 5,oB 34 (.arith .add (oT 33) (oN 1)),oA 5 34])))))))) (.keep [0,3] [0] (oX [oA 54 0,oA 55 3,oB 56 (.slice 2 (oT 54) (some (oT 55)) none),.op none none (.clear 2 true [oi,oi] (oT 56))] [0,3] [0] (oX [oA 57 0,oA 58 3,oB 59 (.slice 2 (oT 57) none (some (oT 58))),.frz 59 0,oA 2 59] [2] [0] (.ret)))))) (.skip)))))
 (.keep [0,3] [0] (.reg [oA 14 3,oB 15 (.arith .add (oT 14) (oN 1)),oA 3 15])))))))) (.keep [0] [0] (oX [oA 60 0,oA 2 60] [2] [0] (.ret))))))
def gA:List ak:=[.tmp 2]
def jd:CC:=oX [oB 4 (.box aK true (oT 0)),oB 8 (.mv (.const on))] [1,2,3,4] [] (.seq (oX [oE 16 0 4,oC 17 1 16] [1,2,3,4,17] [] (.block 0 (oX [oB 19 (.eql false false [.int] (oT 17) (oN 1)),oA 18 19] [1,2,3,4,17,18] [] (.ite (oT 18) (oX [oA 20 3,oA 21 2,oA 22 1,oB 23 (.build [oi,oi] [(0,1,oT 21),(1,1,oT 22)]),oZ 24 tG [oT 20,oT 23],
 oA 8 24] [8] [] (.ret)) (oX [oB 26 (.eql false false [.int] (oT 17) (oN 4)),oA 25 26] [1,2,3,4,17,25] [] (.ite (oT 25) (oX [oE 27 12 4,oC 28 1 27,oB 29 (.len (oT 28)),oB 30 (.mv (oN 0))] [1,2,3,28,29,30] [] (fF 1 30 29 31 2 (oX [oB 32 (.iaddr 13 (oT 28) (oT 30)),oD 33 13 32,oB 10 (.alloc aK [oi,oi,oe,oe,oe,oe,ob,on,oe,oe,oi,oi,on]),
 oF 13 10 33] [1,2,3,10,28,29,30] [10] (oX [oD 34 13 10,oA 35 1,oA 36 2,oA 37 3,oZ 38 iy [oT 34,oT 35,oT 36,oT 37],oA 3 38] [1,2,3,10,28,29,30] [10] (oX [oD 40 13 10,oZ 41 rM [oT 40],oA 39 41,oB 42 (.ext (oT 39) 0),oB 43 (.ext (oT 39) 1),oA 11 42,oA 12 43] [1,2,3,10,11,12,28,29,30] [10] (.seq (oX [oA 44 11,oA 45 12,
 oB 46 (.eql true false [.int] (oT 44) (oT 45))] [1,2,3,10,11,28,29,30,46] [10] (.ite (oT 46) (oX [oA 47 3,oA 8 47] [8] [] (.ret)) (.skip))) (.keep [1,2,3,10,11,28,29,30] [10] (.reg [oA 48 1,oA 49 11,oB 50 (.arith .add (oT 48) (oT 49)),oA 51 2,oD 52 13 10,oZ 53 tH [oT 52],oB 54 (.len (oT 53)),oB 55 (.arith .add (oT 51) (oT 54)),oA 1 50,oA 2 55])))))) 56)) (oX [
 oB 58 (.eql false false [.int] (oT 17) (oN 6)),oA 57 58] [1,2,3,4,57] [] (.ite (oT 57) (oX [oE 60 12 4,oC 61 1 60,oB 62 (.iaddr 13 (oT 61) (oN 0)),oD 63 13 62,oZ 64 rM [oT 63],oA 59 64,oB 65 (.ext (oT 59) 0),oB 66 (.ext (oT 59) 1),oA 13 65,oA 14 66] [1,2,3,4,13,14] [] (oX [oB 15 (.mv (oN 0))] [1,2,3,4,13,14,15] [] (.block 3 (.loop 1 (.seq (oX [oA 67 15,oE 68 10 4,
 oC 69 1 68,oB 70 (.cmp .lss (oT 67) (oT 69)),oA 71 70,oH 72 71 (.mv (oT 15)),oH 73 71 (.eql false false [.int] (oT 72) (oN 0)),oH 74 71 (.mv (oT 73)),oI 75 74 (.mv (oT 13)),oI 76 74 (.mv (oT 14)),oI 77 74 (.eql false false [.int] (oT 75) (oT 76)),oH 78 71 (.pick (oT 74) (.const (.bool true)) (oT 77)),
 oB 79 (.pick (oT 71) (oT 78) (.const ob))] [1,2,3,4,13,14,15,79] [] (.ite (oT 79) (.skip) (.exit 3))) (.keep [1,2,3,4,13,14,15] [] (.seq (.block 4 (.reg [oE 82 12 4,oC 83 1 82,oB 84 (.iaddr 13 (oT 83) (oN 0)),oD 85 13 84,oA 86 1,oA 87 15,oA 88 13,oB 89 (.arith .mul (oT 87) (oT 88)),oB 90 (.arith .add (oT 86) (oT 89)),oA 91 2,oA 92 3,oZ 93 iy [oT 85,oT 90,oT 91,oT 92],
 oA 3 93])) (.keep [1,2,3,4,13,14,15] [] (.reg [oA 80 15,oB 81 (.arith .add (oT 80) (oN 1)),oA 15 81]))))))))) (.skip))))))))) (.keep [3] [] (oX [oA 94 3,oA 8 94] [8] [] (.ret))))
def iJ:List ak:=[.tmp 8]
def zP:CC:=oX [oB 1 (.box aK true (oT 0)),oB 2 (.mv (.const on))] [1] [] (.seq (oX [oD 3 13 1,oZ 4 dE [oT 3],oB 5 (.not (oT 4)),oA 6 5,oI 7 6 (.load true 13 (oT 1)),oI 8 6 (.call zD [oT 7]),oI 9 6 (.cmp .gtr (oT 8) (oN 256)),oB 10 (.pick (oT 6) (.const (.bool true)) (oT 9))] [1,10] [] (.ite (oT 10) (oX [oB 2 (.mv (.const on))] [2] [] (.ret))
 (.skip))) (.keep [1] [] (oX [oD 11 13 1,oZ 12 iy [oT 11,oN 0,oN 0,.const on],oA 2 12] [2] [] (.ret))))
def yG:List ak:=[.tmp 2]
def ok_estimate_compare:FO fA [2,3] my lW 17:=fo
def Gg:FO dU [] pK oo 22:=fo
def Gf:FO ib [2] pJ om 41:=fo
def wO:FO aM [4,1047047,2049000,1047047] bv br 94:=fo
def Gh:FO lN [1] pM ot 29:=fo
def AG:FO gd [] jM jy 61:=fo
def wM:FO eM [] gH gA 61:=fo
def RZ:FO iy [4] jd iJ 95:=fo
def R1:FO BO [1] zP yG 13:=fo
open Cod (enc dec)
variable {S S0:Nat->Spc}
abbrev FN:Spc:=aL (a2 (List Span) Span) (λx=>SS x.1/\x.1.length<=1000000) enc λx y=>IsNorm (x.1++ [x.2]) y/\y.length<=x.1.length+1
theorem QL(h1:S zC=L0):am wY ww S (a2 (List Span) Span) (λx=>SS x.1/\x.1.length<=1000000) enc λx y=>IsNorm (x.1++ [x.2]) y/\y.length<=x.1.length+1:=by
 rintro⟨l,s⟩ ⟨hl,hlen⟩;simp at hl hlen;simp[wY,ww];intro _;refine bj (X:=Nat) [0,3] [] (λk=>k<=l.length/\(∀x∈l.drop k,AP s x)/\(k=0\/ ∃y,l[k -1]? =some y/\ ¬AP s y)) (λk=>[(5,enc (k:Int))]) (λ_=>[]) ?_ ?_
 ·simp;refine ay (X:=Nat) [0,3] [] (λk=>k<=l.length/\∀x∈l.drop k,AP s x) (λk=>[(5,enc (k:Int))]) (λ_=>[]) (λk=>k) l.length (by simp) ?_;rintro k ⟨hk,hP⟩;rcases qA4 k with rfl|hk0
  ·simp;exact⟨0,by simpa using hP,by simp⟩
  ·obtain⟨y,hy⟩:=aQ (l:=l) (k:=k -1) (by omega);have e1:(k:Int) -1=((k -1:Nat):Int):=by omega
   have e2:l.drop (k -1)=y::l.drop k:=by
    have:=bB hy;rwa [Nat.sub_add_cancel hk0]at this
   have hst:¬AP s y->∃x,(x<=l.length/\(∀x_1∈List.drop x l,AP s x_1)/\(x=0\/ ∃y,l[x -1]? =some y/\ ¬AP s y))/\(k:Int)=x:=λh=>⟨k,⟨hk,hP, .inr ⟨y,hy,h⟩⟩,rfl⟩
   have hgo:AP s y->∃y,(y<=l.length/\∀x∈List.drop y l,AP s x)/\(k:Int) -1=y/\y<k:=λh=>⟨k -1,⟨by omega,by rw[e2];simpa using⟨h,hP⟩⟩,e1,by omega⟩
   simp[h1,hk0,hy,InR];refine⟨⟨by omega,by omega⟩,by omega,by omega,λh=>⟨⟨by omega,by omega⟩,hgo h⟩,hst⟩
 ·rintro k ⟨hk,h1,h2⟩;simp;have hN:=VI hl hk h1 h2;refine bj (X:=Unit) [0,3,5] [] (λ_=>∀y,0<k->l[k -1]? =some y->y≠s) (λ_=>[]) (λ_=>[]) ?_ ?_
  ·simp;rcases qA4 k with rfl|hk0
   ·simp
   ·obtain⟨y,hy⟩:=aQ (l:=l) (k:=k -1) (by omega);simp[hk0,hy,InR];refine⟨⟨⟨by omega,by omega⟩,by omega,by omega,λe1 e2=>ba l (.same _) ⟨hN.1 y hk0 hy (Span.ext' e1 e2),by simp⟩,?_⟩,by omega⟩;rintro h rfl;exact h rfl rfl
  ·intro _ hne;have hN2:=hN.2 hne;simp;refine⟨hk,by omega,by omega,by omega,by omega,hk,by omega,by omega,λv=>ba (l.take k++s::l.drop k) (fG aC (by simp)) ⟨hN2,by simp;omega⟩⟩
def XD(n:Nat)(x:Pat×Int×Int×List Span):Prop:=PPat n x.1/\0<=x.2.1/\x.2.1+200000*da x.1<=1000000000000000/\0<=x.2.2.1/\x.2.2.1+da x.1<=100000000/\SS x.2.2.2/\x.2.2.2.length+jL x.1<=100000
def XA(x:Pat×Int×Int×List Span)(y:List Span):Prop:=SS y/\(∀s,s∈y↔s∈x.2.2.2\/SrcE x.1 x.2.1 x.2.2.1 s)/\y.length<=x.2.2.2.length+jL x.1
abbrev Jl(n:Nat):Spc:=aL (a4 Pat Int Int (List Span)) (XD n) enc XA
theorem TF(n:Nat)(h1:S tG=FN)(h2:S iy=Jl n)(h3:S rM=Cz)(h4:S tH=FR):am jd iJ S (a4 Pat Int Int (List Span)) (XD (n+1)) enc XA:=by
 rintro⟨p,d,leaf,out⟩ ⟨hp,hd0,hd1,hl0,hl1,hss,hlen⟩;simp only at hp hd0 hd1 hl0 hl1 hss hlen;have hk:∀k∈p.kids,PPat n k:=λk=>hp.kid
 have hs:∀k∈p.kids,eh (aU k):=λk h=>yu (v:=aJ) k (hk k h).2
 have hn:=(df hp.2).2.2;unfold lJ at hn;rw[decide_eq_true_eq]at hn;rcases qv (df hp.2).1 with⟨ho,hkk⟩|⟨ho,hkk⟩|⟨ho,k0,ks,hkk⟩|⟨ho,k0,hkk⟩
 ·simp[jd,iJ,h1,ho,hss];rw[kq,if_pos hkk]at hlen;refine⟨by omega,λy hy hy2=>ba y (by simp) ⟨hy.1,λs=>?_,by rw[kq,if_pos hkk];exact hy2⟩⟩;rw[hy.2 s];simp[qd2 ho]
 ·have e:p.op≠1/\p.op≠4/\p.op≠6:=by omega
  simp[jd,iJ,h1,e];exact ba out (by simp) ⟨hss,λs=>⟨.inl,λh=>h.elim id λh=>absurd h (qd3 e _ _ _)⟩,by simp⟩
 ·by_cases h4':p.op=4
  ·simp[jd,iJ,h4'];intro _;rw[cw]at hd1 hl1;rw[kq,if_neg (by rw[hkk];simp),if_neg (by omega)]at hlen;refine ah (X:=Int×Int×List Span) [28] [] p.kids.length (λk x=>(0<=x.1/\x.1+200000*bi (p.kids.drop k)<=1000000000000000)/\(0<=x.2.1/\x.2.1+bi (p.kids.drop k)<=100000000)/\SS x.2.2/\x.2.2.length+lg (p.kids.drop k)<=out.length+lg p.kids/\∀s,(s∈x.2.2\/qX (p.kids.drop k) x.1 x.2.1 s) ↔ (s∈out\/qX p.kids d leaf s)) (λx=>[(1,enc x.1),(2,enc x.2.1),(3,enc x.2.2)]) (λ_=>[]) (d,leaf,out) ⟨by simp;omega,by simp;omega,hss,by simp,by simp⟩ ?_ ?_
   ·rintro k ⟨d',lf,o⟩ hkl ⟨⟨b0,b1⟩,⟨b2,b3⟩,b4,b5,b6⟩;simp only at b0 b1 b2 b3 b4 b5 b6;obtain⟨x,hx⟩:=aQ hkl;have hx1:=aP hx;obtain⟨_,hgx⟩:=qzV.1 hx;rw[bB hx,bi]at b1 b3;rw[bB hx,lg]at b5;have q1:=hk x hx1;have q2:=hs x hx1;have q3:XD n (x,d',lf,o):=⟨q1,b0,by show d'+200000* (da x:Int)<=_;omega,b2,by show lf+ (da x:Int)<=_;omega,b4,by show o.length+jL x<=_;omega⟩
    have q4:=qx x;have q5:1<=da x:=by rw[cw];omega
    have q6:(aq x).length<=100000000:=by omega
    simp[h2,h3,h4,hkl,hx,hgx,q1.2,q3,q6,mj];clear h1 h2 h3 h4;rintro y ⟨c1,c2,c3⟩;simp only at c2 c3;unfold eh at q2;have hb6:∀s,(s∈y\/((aU x).1=(aU x).2/\qX (p.kids.drop (k+1)) (d'+ (aU x).1) (lf+ (aq x).length) s)) ↔ (s∈out\/qX p.kids d leaf s):=by
     intro s;rw[<-b6 s,bB hx,qX,c2 s,or_assoc]
    refine⟨λhne=>ba y (by simp) ⟨c1,λs=>?_,?_⟩,λhe=>⟨by simp only[InR];omega,λ_=>⟨by simp only[InR];omega,_,_,_,⟨⟨by omega,by omega⟩,⟨by omega,by omega⟩,c1,by omega,λs=>?_⟩,rfl,rfl,rfl⟩⟩⟩
    ·rw[qd1 h4'];show s∈y↔s∈out\/qX p.kids d leaf s;rw[<-hb6 s];exact⟨.inl,λh=>h.elim id λh=>absurd h.1 hne⟩
    ·show y.length<=out.length+jL p;rw[kq,if_neg (by rw[hkk];simp),if_neg (by omega)];omega
    ·rw[<-hb6 s];simp[he]
   ·rintro⟨d',lf,o⟩ ⟨⟨b0,b1⟩,⟨b2,b3⟩,b4,b5,b6⟩;simp only at b4 b5 b6;rw[qAX]at b5 b6;simp;refine ba o (by simp) ⟨b4,λs=>?_,?_⟩
    ·rw[qd1 h4'];show s∈o↔s∈out\/qX p.kids d leaf s;rw[<-b6 s,qX,or_false]
    ·show o.length<=out.length+jL p;rw[kq,if_neg (by rw[hkk];simp),if_neg (by omega)];rw[lg]at b5;omega
  ·have e:p.op≠1/\p.op≠4/\p.op≠6:=by omega
   simp[jd,iJ,h1,e];exact ba out (by simp) ⟨hss,λs=>⟨.inl,λh=>h.elim id λh=>absurd h (qd3 e _ _ _)⟩,by simp⟩
 ·have q1:=hk k0 (by rw[hkk];simp);have q2:=hs k0 (by rw[hkk];simp);have hn:=hn ho;simp[jd,iJ,ho,hkk,h3,q1.2,mj];have hsz:jL p=(max 1 p.mn).toNat*jL k0:=by rw[kq,hkk,if_neg (by simp),if_pos ho,lg,lg,qA5]
  have hpn:da p=da k0+1:=by rw[cw,hkk,bi,bi]
  rw[hpn]at hd1 hl1;rw[hsz]at hlen;have hc1:=Nz k0;refine ay (X:=Nat×List Span) [1,2,4,13,14] [] (λx=>(x.1:Int)<=p.mn/\SS x.2/\x.2.length<=out.length+x.1*jL k0/\(∀s,s∈x.2↔s∈out\/ ∃i:Int,0<=i/\i<x.1/\(i=0\/(aU k0).1=(aU k0).2)/\SrcE k0 (d+i* (aU k0).1) leaf s)) (λx=>[(3,enc x.2),(15,enc (x.1:Int))]) (λ_=>[]) (λx=>p.mn.toNat -x.1) (0,out) ?_ ?_
  ·refine⟨by simp;omega,hss,by simp,λs=>⟨.inl,λh=>h.elim id ?_⟩⟩;rintro⟨i,h0,h1,_⟩;simp only at h1;omega
  rintro⟨j,o⟩ ⟨b0,b1,b2,b3⟩;simp only at b0 b1 b2 b3;simp[h2,ho,hkk];clear h1 h2 h3 h4;have hfin:(∀i:Int,0<=i->i<p.mn->(i=0\/(aU k0).1=(aU k0).2)->i<j)->Fin enc (XA (p,d,leaf,out)) (D.list 2 (List.map enc o)) λx=>none:=λhi=>by
   refine ba o (by simp) ⟨b1,λs=>?_,?_⟩
   ·show s∈o↔s∈out\/SrcE p d leaf s;rw[b3 s,qiD ho hkk];refine or_congr_right (exists_congr λi=>⟨λ⟨a1,a2,a3,a4⟩=>⟨a1,by omega,a3,a4⟩,λ⟨a1,a2,a3,a4⟩=>⟨a1,hi i a1 a2 a3,a3,a4⟩⟩)
   ·show o.length<=out.length+jL p;rw[hsz];have:=qAy (jL k0) (show j<=(max 1 p.mn).toNat by omega);omega
  have hgo:(j:Int)<p.mn->(j=0\/(aU k0).1=(aU k0).2)->InR IntKind.i64 (↑j* (aU k0).fst)/\InR IntKind.i64 (d+ ↑j* (aU k0).fst)/\XD n (k0,d+ ↑j* (aU k0).fst,leaf,o)/\
   ∀ (y:List Span),XA (k0,d+ ↑j* (aU k0).fst,leaf,o) y->InR IntKind.i64 (↑j+1)/\∃(a:Nat) (b:List Span),(↑a<=p.mn/\SS b/\b.length<=out.length+a*jL k0/\∀(s:Span),s∈b↔s∈out\/ ∃i:Int,0<=i/\i< ↑a/\(i=0\/(aU k0).fst=(aU k0).snd)/\SrcE k0 (d+i* (aU k0).fst) leaf s)/\
    (y=b/\(↑j+1:Int)= ↑a)/\p.mn.toNat -a<p.mn.toNat -j:=λhj hw=>by
   unfold eh at q2;have hm:=oP (show(0:Int)<=j by omega) (show(j:Int)<=16 by omega) q2.1 q2.2.1;have hm2:=qAy (jL k0) (show j+1<=(max 1 p.mn).toNat by omega);rw[qAI]at hm2;refine⟨by simp only[InR];omega,by simp only[InR];omega,⟨q1,by show 0<=d+ ↑j* (aU k0).1;omega,by show d+ ↑j* (aU k0).1+200000* (da k0:Int)<=_;omega,hl0,by show leaf+ (da k0:Int)<=_;omega,b1,by show o.length+jL k0<=_;omega⟩,?_⟩;rintro y ⟨c1,c2,c3⟩;simp only at c2 c3;refine⟨by simp only[InR];omega,j+1,y,⟨by omega,c1,by rw[qAI];omega,λs=>?_⟩,⟨rfl,by omega⟩,by omega⟩;rw[c2 s,b3 s,or_assoc];refine or_congr_right ⟨λh=>?_,λh=>?_⟩
   ·rcases h with⟨i,a1,a2,a3,a4⟩|h
    ·exact⟨i,a1,by omega,a3,a4⟩
    ·exact⟨j,by omega,by omega,hw.imp (λh=>by omega) id,h⟩
   ·obtain⟨i,a1,a2,a3,a4⟩:=h;by_cases e:i<j
    ·exact .inl ⟨i,a1,e,a3,a4⟩
    ·have:i=j:=by omega
     subst this;exact .inr a4
  exact⟨λhj=>⟨λhj0=>⟨λhw=>hgo hj (.inr hw),λhw=>hfin λi i0 i1 i2=>by rcases i2 with i2|i2;omega;exact absurd i2 hw⟩,λhj0=>hgo hj (.inl hj0)⟩,λhj=>hfin λi i0 i1 i2=>by omega⟩
abbrev FP:Spc:=aL (a4 Pat Int Int (List Span)) (λx=>∃n,XD n x) enc XA
def pS(p:Pat):Prop:=da p<=1000000/\jL p<=100000
def gw(p:Pat)(y:List Span):Prop:=if fJ aJ p=true/\fj p<=256 then SrcsOf p y else y=[]
abbrev xS:Spc:=qpW (Y:=Span) a0 (λ_ l=>l.length<=100000) (λ_ l r=>r=vR l) aC 2
theorem xy:Tl (Y:=Span) gH gA S a0 (λ_ l=>l.length<=100000) (λ_ l r=>r=vR l) aC 2:=by
 rintro v l ⟨⟩ hl;simp[gH,gA];refineλ_=>⟨λh=>?_,λh2=>?_⟩
 ·exact dF l (by simp) (Nw (by omega)).symm
 ·refine ay (X:=Nat) [0] [0] (λk=>1<=k/\k<=l.length/\vR (l.take k)=l.take k) (λk=>[(3,enc (k:Int))]) (λ_=>[]) (λk=>l.length -k) 1 ?_ ?_
  ·exact⟨by omega,by omega,qgW (by omega)⟩
  ·rintro k ⟨hk1,hk2,hP⟩;by_cases hkl:k<l.length
   ·obtain⟨x,hx⟩:=aQ hkl;obtain⟨y,hy⟩:=aQ (l:=l) (k:=k -1) (by omega);have e1:((k:Int) -1).toNat=k -1:=by omega
    have e2:((k:Int)<l.length):=by omega
    have e3:¬l.length<=k:=by omega
    simp[hx,hy,InR,e1,e3];intro _ _;have hstep:=Qt hk1 hx hy;refine⟨hkl,by omega,by omega,by omega,by omega,λq1 q2=>⟨hk2,?_⟩,λhne=>⟨by omega,k+1,⟨by omega,by omega,?_⟩,by omega,by omega⟩⟩
    ·-- from here on elements are moved
     have hxy:x=y:=Span.ext' q1 q2;rw[if_pos hxy]at hstep;refine bj (X:=Nat×List Span) [0] [] (λz=>z.2.length=l.length/\z.1<=l.length/\z.2.take z.1=vR l) (λz=>[(3,enc (z.1:Int))]) (λz=>[(0, .row v aC 2 (z.2.map enc))]) ?_ ?_
     ·simp;refine ay (X:=Nat×Nat×List Span) [0,4] [] (λz=>z.2.2.length=l.length/\1<=z.2.1/\k+z.2.1<=l.length/\z.1<k+z.2.1/\z.2.2.take z.1=vR (l.take (k+z.2.1))/\z.2.2.drop (k+z.2.1 -1)=l.drop (k+z.2.1 -1)) (λz=>[(3,enc (z.1:Int)),(5,enc (z.2.1:Int))]) (λz=>[(0, .row v aC 2 (z.2.2.map enc))]) (λz=>l.length -z.2.1) (k,1,l) ?_ ?_
      ·simp;refine⟨by omega,?_⟩;rw[hstep,hP]
      ·rintro⟨i,j,cur⟩ ⟨c1,c2,c3,c4,c5,c6⟩;simp at c1 c2 c3 c4 c5 c6;by_cases hj:j<l.length -k
       ·obtain⟨a,ha⟩:=aQ (l:=l) (k:=k+j) (by omega);obtain⟨b,hb⟩:=aQ (l:=l) (k:=k+j -1) (by omega);have ha':cur[k+j]? =some a:=(Lb c6 (by omega)).trans ha;have hb':cur[k+ (j -1)]? =some b:=by
         rw[show k+ (j -1)=k+j -1 by omega];exact(Lb c6 (qz2 _)).trans hb
        obtain⟨u,hu⟩:=aQ (l:=cur) (k:=i) (by omega);have hs:=Qt (j:=k+j) (by omega) ha hb;have hj':¬l.length -k<=j:=by omega
        simp[ha',hb',hu,InR,hj'];intro _ _;refine⟨by omega,by omega,by omega,by omega,by omega,by omega,λhne=>⟨by omega,by omega,by omega,by omega,by omega,i+1,j+1,cur.set i a,⟨by simp;omega,by omega,by omega,by omega,?_,?_⟩,⟨by omega, .inl ?_⟩,by omega⟩,λq3 q4=>⟨by omega,i,j+1,cur,⟨c1,by omega,by omega,by omega,?_,?_⟩,⟨by omega, .inl rfl⟩,by omega⟩⟩
        ·rw[(re (m:=k+j) (l:=l) (by omega) c4 (tV c6 (by omega))).1,c5,show k+ (j+1)=k+j+1 by omega,hs,if_neg];rintro rfl;rcases hne with h|h<;>exact h rfl
        ·rw[show k+ (j+1) -1=k+j by omega];exact(re (m:=k+j) (l:=l) (by omega) c4 (tV c6 (by omega))).2
        ·exact qd7 cur i a
        ·rw[c5,show k+ (j+1)=k+j+1 by omega,hs,if_pos (Span.ext' q3 q4)]
        ·exact tV c6 (by omega)
       ·have hj':j=l.length -k:=by omega
        subst hj';simp;intro _;refine⟨i,cur,⟨c1,by omega,?_⟩,rfl, .inl rfl⟩;rw[c5,show k+ (l.length -k)=l.length by omega,qAb]
     ·rintro⟨i,cur⟩ ⟨c1,c2,c3⟩;simp at c1 c2 c3;simp;refine⟨by omega,by omega,λv=>dF (vR l) ?_ rfl⟩;have e:(vR l).map enc=(cur.map enc).take i:=by rw[<-c3,List.map_take]
      rw[e];simp[List.take_append,c1,c2]
    ·rw[if_neg (λe=>by subst e;exact hne rfl rfl)]at hstep;rw[hstep,hP,au hx]
   ·have e3:k=l.length:=by omega
    subst e3;simp;rw[qAb]at hP;exactλ_=>dF l (by simp) hP.symm
section
variable {α:Type}[DecidableEq α]
def qos(l:List α)(x:α):List α:=if l.getLast? =some x then l else l++ [x]
def uZ(l:List α):List α:=l.foldl qos []
def CM(l:List α)(x:α):uZ (l++ [x])=qos (uZ l) x:=by simp[uZ]
def Qv(l:List α):(uZ l).getLast? =l.getLast?:=by
 refine tT (P:=λl=>(uZ l).getLast? =l.getLast?) rfl (λl x ih=>?_) l;rw[CM,qos];split
 ·rename_i h;rw[h];simp
 ·simp
def qgZ(l:List α):(uZ l).length<=l.length:=by
 refine tT (P:=λl=>(uZ l).length<=l.length) (qz2 _) (λl x ih=>?_) l;rw[CM,qos];split<;>simp<;>omega
def qgY(l:List α):∀x,x∈uZ l↔x∈l:=by
 refine tT (P:=λl=>∀x,x∈uZ l↔x∈l) (λx=>qAY) (λl y ih x=>?_) l;rw[CM,qos];split
 ·rename_i h;rw[Qv]at h;have hy:y∈l:=List.mem_of_getLast? h;simp[ih x];rintro rfl;exact hy
 ·simp[ih x]
def Nx{l:List α}(h:l.length< 2):uZ l=l:=by
 match l,h with
 | [],_=>rfl
 | [x],_=>rfl
 |x::y::l,h=>exact absurd h (by simp only[qAD];omega)
def qgX{l:List α}(h:1<=l.length):uZ (l.take 1)=l.take 1:=Nx (by simp;omega)
def Qu{l:List α}{j:Nat}{x y:α}(hj:1<=j)(hx:l[j]? =some x)(hy:l[j -1]? =some y):uZ (l.take (j+1))=if x=y then uZ (l.take j)else uZ (l.take j) ++ [x]:=by
 rw[au hx,CM,qos,Qv];have:(l.take j).getLast? =some y:=by
  have e:=au hy;rw[Nat.sub_add_cancel hj]at e;rw[e];simp
 rw[this];by_cases h:x=y
 ·subst h;simp
 ·have:¬y=x:=λe=>h e.symm
  simp[h,this]
end
abbrev Dm:Spc:=qpW (Y:=Int) a0 (λ_ l=>l.length<=100000) (λ_ l r=>r=uZ l) bb 1
theorem AW:Tl (Y:=Int) jM jy S a0 (λ_ l=>l.length<=100000) (λ_ l r=>r=uZ l) bb 1:=by
 rintro v l ⟨⟩ hl;simp[jM,jy];refineλ_=>⟨λh=>?_,λh2=>?_⟩
 ·exact dF l (by simp) (Nx (by omega)).symm
 ·refine ay (X:=Nat) [0] [0] (λk=>1<=k/\k<=l.length/\uZ (l.take k)=l.take k) (λk=>[(3,enc (k:Int))]) (λ_=>[]) (λk=>l.length -k) 1 ?_ ?_
  ·exact⟨by omega,by omega,qgX (by omega)⟩
  ·rintro k ⟨hk1,hk2,hP⟩;by_cases hkl:k<l.length
   ·obtain⟨x,hx⟩:=aQ hkl;obtain⟨y,hy⟩:=aQ (l:=l) (k:=k -1) (by omega);have e1:((k:Int) -1).toNat=k -1:=by omega
    have e2:((k:Int)<l.length):=by omega
    have e3:¬l.length<=k:=by omega
    simp[hx,hy,InR,e1,e3];intro _ _;have hstep:=Qu hk1 hx hy;refine⟨hkl,by omega,by omega,by omega,by omega,λq1=>⟨hk2,?_⟩,λhne=>⟨by omega,k+1,⟨by omega,by omega,?_⟩,by omega,by omega⟩⟩
    ·-- from here on elements are moved
     have hxy:x=y:=q1;rw[if_pos hxy]at hstep;refine bj (X:=Nat×List Int) [0] [] (λz=>z.2.length=l.length/\z.1<=l.length/\z.2.take z.1=uZ l) (λz=>[(3,enc (z.1:Int))]) (λz=>[(0, .row v bb 1 (z.2.map enc))]) ?_ ?_
     ·simp;refine ay (X:=Nat×Nat×List Int) [0,4] [] (λz=>z.2.2.length=l.length/\1<=z.2.1/\k+z.2.1<=l.length/\z.1<k+z.2.1/\z.2.2.take z.1=uZ (l.take (k+z.2.1))/\z.2.2.drop (k+z.2.1 -1)=l.drop (k+z.2.1 -1)) (λz=>[(3,enc (z.1:Int)),(5,enc (z.2.1:Int))]) (λz=>[(0, .row v bb 1 (z.2.2.map enc))]) (λz=>l.length -z.2.1) (k,1,l) ?_ ?_
      ·simp;refine⟨by omega,?_⟩;rw[hstep,hP]
      ·rintro⟨i,j,cur⟩ ⟨c1,c2,c3,c4,c5,c6⟩;simp at c1 c2 c3 c4 c5 c6;by_cases hj:j<l.length -k
       ·obtain⟨a,ha⟩:=aQ (l:=l) (k:=k+j) (by omega);obtain⟨b,hb⟩:=aQ (l:=l) (k:=k+j -1) (by omega);have ha':cur[k+j]? =some a:=(Lb c6 (by omega)).trans ha;have hb':cur[k+ (j -1)]? =some b:=by
         rw[show k+ (j -1)=k+j -1 by omega];exact(Lb c6 (qz2 _)).trans hb
        obtain⟨u,hu⟩:=aQ (l:=cur) (k:=i) (by omega);have hs:=Qu (j:=k+j) (by omega) ha hb;have hj':¬l.length -k<=j:=by omega
        simp[ha',hb',hu,InR,hj'];intro _ _;refine⟨by omega,by omega,by omega,by omega,by omega,by omega,λhne=>⟨by omega,by omega,by omega,by omega,by omega,i+1,j+1,cur.set i a,⟨by simp;omega,by omega,by omega,by omega,?_,?_⟩,⟨by omega, .inl ?_⟩,by omega⟩,λq3=>⟨by omega,i,j+1,cur,⟨c1,by omega,by omega,by omega,?_,?_⟩,⟨by omega, .inl rfl⟩,by omega⟩⟩
        ·rw[(re (m:=k+j) (l:=l) (by omega) c4 (tV c6 (by omega))).1,c5,show k+ (j+1)=k+j+1 by omega,hs,if_neg];rintro rfl;exact hne rfl
        ·rw[show k+ (j+1) -1=k+j by omega];exact(re (m:=k+j) (l:=l) (by omega) c4 (tV c6 (by omega))).2
        ·exact(qCe ..).symm
        ·rw[c5,show k+ (j+1)=k+j+1 by omega,hs,if_pos (q3)]
        ·exact tV c6 (by omega)
       ·have hj':j=l.length -k:=by omega
        subst hj';simp;intro _;refine⟨i,cur,⟨c1,by omega,?_⟩,rfl, .inl rfl⟩;rw[c5,show k+ (l.length -k)=l.length by omega,qAb]
     ·rintro⟨i,cur⟩ ⟨c1,c2,c3⟩;simp at c1 c2 c3;simp;refine⟨by omega,by omega,λv=>dF (uZ l) ?_ rfl⟩;have e:(uZ l).map enc=(cur.map enc).take i:=by rw[<-c3,List.map_take]
      rw[e];simp[List.take_append,c1,c2]
    ·rw[if_neg (λe=>by subst e;exact hne rfl)]at hstep;rw[hstep,hP,au hx]
   ·have e3:k=l.length:=by omega
    subst e3;simp;rw[qAb]at hP;exactλ_=>dF l (by simp) hP.symm
def Ts(x:List Int×Int):Prop:=x.1.length<=100000/\0<=x.2/\x.2<=1000000/\∀a∈x.1,0<=a/\a<=1000000000000000
abbrev lF:Spc:=aL (a2 (List Int) Int) Ts (enc (X:=List Int)) (λx y=>y=x.1.map (· +x.2))
theorem HD:am pK oo S (a2 (List Int) Int) Ts (enc (X:=List Int)) (λx y=>y=x.1.map (· +x.2)):=by
 rintro⟨l,n⟩ ⟨hl,hn0,hn1,ha⟩;simp only at hl hn0 hn1 ha;simp[pK,oo];intro _;refine ah (X:=Value×List Int) [1,8] [] l.length (λk x=>x.2=(l.take k).map (· +n)) (λx=>[(5, .own 19 x.1)]) (λx=>[(19, .row x.1 bb 1 (x.2.map enc))]) (.slice none 0 0, []) (by simp) ?_ ?_ (hh:=by simp[isNilRow])
 ·rintro k ⟨v,m⟩ hkl hm;simp only at hm;obtain⟨x,hx⟩:=aQ hkl;have hx1:=ha x (aP hx);obtain⟨_,hgx⟩:=qzV.1 hx;have hml:m.length=k:=by rw[hm];simp;omega
  simp[hkl,hx,hgx];refine⟨by simp only[InR];omega,by omega,by omega,λv=> .inl ?_⟩;rw[qA6,hm];simp[hx]
 ·rintro⟨v,m⟩ hm;simp only at hm;rw[qAb]at hm;simp;exact ba m (fG bb (by simp)) hm
abbrev s_Sort_int:Spc:=qoh (Y:=Int) a0 (λ_ l=>l.length<=100000) (λ_ l r=>r.length=l.length/\∀x,x∈r↔x∈l) bb 1
def Tq(x:Pat×List Int):Prop:=x.1.op=6/\fJ aJ x.1=true/\x.2.length*jL x.1<=100000/\∀a∈x.2,0<=a/\a<=1000000000000000
def qbi(x:Pat×List Int)(y:List Int):Prop:=y.length<=x.2.length* (max 1 x.1.mn).toNat/\∀k0,x.1.kids=[k0]->∀z,z∈y↔ ∃a∈x.2,∃i:Int,0<=i/\i<x.1.mn/\(i=0\/(aU k0).1=(aU k0).2)/\z=a+i* (aU k0).1
abbrev qc:Spc:=aL (a2 Pat (List Int)) Tq (enc (X:=List Int)) qbi
theorem HC(h1:S gE=Cz)(h2:S dU=lF)(h3:S oW=s_Sort_int)(h4:S gd=Dm):am pJ om S (a2 Pat (List Int)) Tq (enc (X:=List Int)) qbi:=by
 rintro⟨p,l⟩ ⟨ho,hp,hl,ha⟩;simp only at ho hp hl ha;rcases qv (df hp).1 with⟨ho',_⟩|⟨ho',_⟩|⟨ho',_⟩|⟨_,k0,hkk⟩
 ·omega
 ·omega
 ·omega
 have q1:=kP hp (show k0∈p.kids by rw[hkk];simp);have q2:eh (aU k0):=yu k0 q1;have hn:=(df hp).2.2;unfold lJ at hn;rw[decide_eq_true_eq]at hn;have hn:=hn ho;have hsz:jL p=(max 1 p.mn).toNat*jL k0:=by rw[kq,hkk,if_neg (by simp),if_pos ho,lg,lg,qA5]
 have hc1:=Nz k0;have hlm:l.length* (max 1 p.mn).toNat<=100000:=by
  have:=Nat.mul_le_mul_left (l.length* (max 1 p.mn).toNat) hc1;rw[hsz,<-Nat.mul_assoc]at hl;omega
 have hl1:l.length<=100000:=by
  have:=Nat.mul_le_mul_left l.length (show 1<=(max 1 p.mn).toNat by omega);omega
 simp[pJ,om,h1,hkk,q1,mj];refine⟨λhe=>ba [] (by simp) ⟨by simp,λk hk z=>?_⟩,λhne=>⟨λhw=>ba l (by simp) ⟨?_,λk hk z=>?_⟩,λhw=>?_⟩⟩
 ·simp only[qAL,false_iff];rintro⟨a,_,i,h0,h1,_⟩;have h1:i<p.mn:=h1;omega
 ·exact qBR _ (by omega)
 ·rw[hkk]at hk;cases hk;constructor
  ·intro h;exact⟨z,h,0,qBf _,by show 0<p.mn;omega, .inl rfl,by simp⟩
  ·rintro⟨a,ha1,i,h0,h1,h2,rfl⟩;rcases h2 with rfl|h2
   ·simpa using ha1
   ·exact absurd h2 hw
 ·refine ah (X:=Value×List Int) [1,5] [] p.mn.toNat (λk x=>x.2.length=l.length*k/\∀z,z∈x.2↔ ∃a∈l,∃i:Int,0<=i/\i<k/\z=a+i* (aU k0).1) (λx=>[(7, .own 35 x.1)]) (λx=>[(35, .row x.1 bb 1 (x.2.map enc))]) (.slice none 0 0, []) (by simp;intro z a _ i h0 h1;omega) ?_ ?_ (hn:=by simp;omega) (hh:=by simp[isNilRow])
  ·rintro k ⟨v,m⟩ hkl ⟨hm,hm2⟩;simp only at hm hm2;unfold eh at q2;have hmr:=oP (show(0:Int)<=k by omega) (show(k:Int)<=16 by omega) q2.1 q2.2.1;have q3:Ts (l,(k:Int) * (aU k0).1):=⟨hl1,hmr.1,by show(k:Int) * (aU k0).1<=_;omega,ha⟩
   simp[h2,q3];clear h1 h2 h3 h4;have hb:m.length+l.length<=100000:=by
    have:=Nat.mul_le_mul_left l.length (show k+1<=(max 1 p.mn).toNat by omega);rw[Nat.mul_succ]at this;omega
   refine⟨by simp only[InR];omega,by omega,by omega,λv=>⟨v,m++l.map (· + (k:Int) * (aU k0).1),⟨by rw[qAm,qAs,Nat.mul_succ,hm],λz=>?_⟩,rfl, .inl ⟨rfl,by simp⟩⟩⟩;rw[qz5,hm2 z,qz1];constructor
   ·rintro(⟨a,ha1,i,h0,h1,h2⟩|⟨a,ha1,h2⟩)
    ·exact⟨a,ha1,i,h0,by omega,h2⟩
    ·exact⟨a,ha1,k,by omega,by omega,h2.symm⟩
   ·rintro⟨a,ha1,i,h0,h1,h2⟩;by_cases e:i<k
    ·exact .inl ⟨a,ha1,i,h0,e,h2⟩
    ·have:i=k:=by omega
     subst this;exact .inr ⟨a,ha1,h2.symm⟩
  ·rintro⟨v,m⟩ ⟨hm,hm2⟩;simp only at hm hm2;have hm1:m.length<=100000:=by
    have:l.length*p.mn.toNat<=l.length* (max 1 p.mn).toNat:=Nat.mul_le_mul_left _ (by omega);omega
   simp[h3,h4,hm1];clear h1 h2 h3 h4;intro r hr1 hr2;refine⟨by omega,λv'=>ba (uZ r) (fG bb (by simp)) ⟨?_,λk hk z=>?_⟩⟩
   ·show(uZ r).length<=l.length* (max 1 p.mn).toNat;have:=qgZ r;have:l.length*p.mn.toNat<=l.length* (max 1 p.mn).toNat:=Nat.mul_le_mul_left _ (by omega);omega
   ·rw[hkk]at hk;cases hk;rw[qgY,hr2 z,hm2 z];refine exists_congr λa=>and_congr_right λ_=>exists_congr λi=>⟨λ⟨h0,h1,h2⟩=>⟨h0,by show i<p.mn;omega, .inr hw,h2⟩,λ⟨h0,h1,_,h2⟩=>⟨h0,?_,h2⟩⟩
    have h1:i<p.mn:=h1;omega
def qjk(ks:List Pat):Nat:=(ks.flatMap aq).length
def Sp:qjk []=0:=rfl
def MT(k:Pat)(ks:List Pat):qjk (k::ks)=(aq k).length+qjk ks:=by simp[qjk]
def YZ{p:Pat}(h:p.op≠1):(aq p).length=qjk p.kids:=by rw[bc,if_neg h];rfl
structure qkw where
 leaf:Int
 v:Value
 out:List Span
def fndB:Pk qkw:=⟨[47],λx=>[.v (.int .i64 x.leaf), .own 47 x.v],λx=>[(47, .row x.v aC 2 (x.out.map enc))],λ_=>rfl⟩
@[simp] theorem qtf(x:qkw):fndB.ce x=[.v (.int .i64 x.leaf), .own 47 x.v]:=i' rfl
@[simp] theorem qte(x:qkw):fndB.hp x=[(47, .row x.v aC 2 (x.out.map enc))]:=i' rfl
def Hg(n:Nat)(x:qkw)(z:Pat×List Int):Prop:=PPat n z.1/\0<=x.leaf/\x.leaf+da z.1<=100000000/\x.out.length+z.2.length*jL z.1<=100000/\∀a∈z.2,0<=a/\a+200000*da z.1<=1000000000000000
def CO(x:qkw)(z:Pat×List Int)(x':qkw)(_:Unit):Prop:=x'.leaf=x.leaf+ (aq z.1).length/\x'.out.length<=x.out.length+z.2.length*jL z.1/\∀s,s∈x'.out↔s∈x.out\/ ∃a∈z.2,SrcE z.1 a x.leaf s
abbrev K1(n:Nat):Spc:=qqY fndB (a2 Pat (List Int)) SQ (Hg n) CO
def HJ{n:Nat}{p:Pat}{l:List Int}{leaf:Int}{v:Value}{out:List Span}{d b:Nat}{P L:D}{H:ab}{K:D->ab->Prop}(hP:dec P=some p)(hL:dec L=some l)
 (h0:H 0=some (.box b [.v (.int .i64 leaf), .own 47 v])) (h47:H 47=some (.row v aC 2 (out.map enc))) (hpre:Hg n ⟨leaf,v,out⟩ (p,l))
 (hK:∀leaf' v' out',CO ⟨leaf,v,out⟩ (p,l) ⟨leaf',v',out'⟩ ()->K (.tup []) (ai (ai H 47 (some (.row v' aC 2 (out'.map enc)))) 0 (some (.box b [.v (.int .i64 leaf'), .own 47 v'])))):(K1 n).pt d [.bptr 0 b 0,P,L] H K:=by
 refine⟨0,b,⟨leaf,v,out⟩,(p,l), [P,L],rfl,?_,h0,?_,by simp[fndB],hpre,λx' y hq=>?_⟩
 ·rw[qhs,hP,hL];rfl
 ·intro q hq;simp at hq;subst hq;exact h47
 ·exact hK x'.leaf x'.v x'.out hq
def qjL{b:Nat}{leaf:Int}{v:Value}{out:List Span}{q:qkw->Unit->Prop}{H:ab}(h0:H 0=some (.box b [.v (.int .i64 leaf), .own 47 v]))(h47:H 47=some (.row v aC 2 (out.map enc)))(hq:q ⟨leaf,v,out⟩ ()):QE fndB SQ b q (.tup []) H:=
 ⟨⟨leaf,v,out⟩,(), .same _,h0,λp hp=>by simp at hp;subst hp;exact h47,hq⟩
theorem HB(n:Nat)(h1:S gE=Cz)(h2:S dU=lF)(h3:S ib=qc)(h4:S aM=K1 n):qhv bv br S fndB (a2 Pat (List Int)) SQ (Hg (n+1)) CO:=by
 rintro b ⟨leaf,v,out⟩ ⟨p,l⟩ ⟨hp,hl0,hl1,hlen,ha⟩;simp only at hp hl0 hl1 hlen ha;have hk:∀k∈p.kids,PPat n k:=λk=>hp.kid
 have hs:∀k∈p.kids,eh (aU k):=λk h=>yu (v:=aJ) k (hk k h).2
 have hn:=(df hp.2).2.2;unfold lJ at hn;rw[decide_eq_true_eq]at hn;have none4:p.op≠1/\p.op≠4/\p.op≠6-> ↑p.kids.length<=(9223372036854775807:Int)->vc S bv (vN br λr H'=>QE fndB SQ b (CO ⟨leaf,v,out⟩ (p,l)) r H') (dC (.bptr 0 b 0::(a2 Pat (List Int)).view (p,l))) (ai (gK (fndB.hp ⟨leaf,v,out⟩) cY) 0 (some (.box b (fndB.ce ⟨leaf,v,out⟩)))):=by
  intro e hkl;simp[bv,br,e];intro _;rw[cw]at hl1;have hcnt:out.length<=100000:=by omega
  refine ah (X:=qkw) [0,17] [] p.kids.length (λk x=>0<=x.leaf/\x.leaf+bi (p.kids.drop k)<=100000000/\x.out.length<=out.length/\x.leaf+qjk (p.kids.drop k)=leaf+qjk p.kids/\∀s,s∈x.out↔s∈out) (λx=>[]) (λx=>[(0, .box b [.v (.int .i64 x.leaf), .own 47 x.v]),(47, .row x.v aC 2 (x.out.map enc))]) ⟨leaf,v,out⟩ ⟨hl0,by simp;omega,qz2 _,by simp,by simp⟩ ?_ ?_
  ·rintro k ⟨leaf',v',out'⟩ hkl ⟨b0,b1,b2,b3,b4⟩;simp only at b0 b1 b2 b3 b4;obtain⟨x,hx⟩:=aQ hkl;have hx1:=aP hx;obtain⟨_,hgx⟩:=qzV.1 hx;rw[bB hx,bi]at b1;rw[bB hx,MT]at b3;have q1:=hk x hx1;simp[hkl,hx,hgx];intro b1';rw[h4];refine HJ (p:=x) (l:=[]) (leaf:=leaf') (v:=v') (out:=out') ?_ ?_ ?_ ?_ ⟨q1,b0,by show leaf'+ (da x:Int)<=_;omega,by simp;omega,by simp⟩ ?_
   ·simp
   ·simp
   ·simp
   ·simp
   rintro leaf2 v2 out2 ⟨c1,c2,c3⟩;simp only at c1 c2 c3;have q4:=qx x;simp;refine⟨⟨leaf2,v2,out2⟩,⟨by show 0<=leaf2;omega,by show leaf2+_<=_;omega,?_,by show leaf2+_=_;omega,λs=>?_⟩, .inl ⟨rfl,rfl⟩, .inl ⟨rfl,rfl⟩⟩
   ·show out2.length<=out.length;simp at c2;omega
   ·show s∈out2↔s∈out;rw[c3 s,b4 s];simp
  ·rintro⟨leaf',v',out'⟩ ⟨b0,b1,b2,b3,b4⟩;simp only at b0 b1 b2 b3 b4;simp;refine qjL (leaf:=leaf') (v:=v') (out:=out') (by simp) (by simp) ⟨?_,?_,λs=>?_⟩
   ·rw[qAX]at b3;rw[Sp]at b3;show leaf'=leaf+ ((aq p).length:Int);rw[YZ e.1];omega
   ·show out'.length<=out.length+_;omega
   ·rw[b4 s];exact⟨.inl,λh=>h.elim id λ⟨a,_,h⟩=>absurd h (qd3 e _ _ _)⟩
 have hkl: ↑p.kids.length<=(9223372036854775807:Int):=by
  have:∀ks:List Pat,ks.length<=bi ks:=by
   intro ks
   induction ks with
   |nil=>simp
   | cons k ks ih=>
     rw[bi,qAD];have:1<=da k:=by rw[cw];omega
     omega
  have:=this p.kids;rw[cw]at hl1;omega
 rcases qv (df hp.2).1 with⟨ho,hkk⟩|⟨ho,hkk⟩|⟨ho,k0,ks,hkk⟩|⟨ho,k0,hkk⟩
 ·rw[kq,if_pos hkk,Nat.mul_one]at hlen;simp[bv,br,ho];intro _;refine ah (X:=Value×List Span) [0,29] [] l.length (λk x=>x.2=out++ (l.take k).map λa=>⟨leaf,a⟩) (λx=>[]) (λx=>[(0, .box b [.v (.int .i64 leaf), .own 47 x.1]),(47, .row x.1 aC 2 (x.2.map enc))]) (v,out) (by simp) ?_ ?_
  ·rintro k ⟨v,m⟩ hkl hm;simp only at hm;obtain⟨x,hx⟩:=aQ hkl;obtain⟨_,hgx⟩:=qzV.1 hx;have hml:m.length=out.length+k:=by rw[hm];simp;omega
   simp[hkl,hx,hgx];refine⟨by omega,by omega,λv=> .inl (.inl ?_)⟩;rw[qA6,hm];simp[hx]
  ·rintro⟨v',m⟩ hm;simp only at hm;rw[qAb]at hm;simp;have:1<=da p:=by rw[cw];omega
   refine⟨by simp only[InR];omega,qjL (leaf:=leaf+1) (v:=v') (out:=m) (by simp) (by simp) ⟨?_,?_,λs=>?_⟩⟩
   ·rw[bc,if_pos ho];rfl
   ·show m.length<=out.length+l.length*jL p;rw[hm,kq,if_pos hkk];simp
   ·show s∈m↔s∈out\/ ∃a∈l,SrcE p a leaf s;rw[hm,qz5,qz1];refine or_congr_right (exists_congr λa=>and_congr_right λ_=>?_);rw[qd2 ho];exact eq_comm
 ·exact none4 (by omega) hkl
 ·by_cases h4':p.op=4
  ·rw[cw]at hl1;have ha':∀a∈l,0<=a/\a+200000*bi p.kids<=1000000000000000:=λa h=>by have:=ha a h;rw[cw]at this;omega
   rw[kq,if_neg (by rw[hkk];simp),if_neg (by omega)]at hlen;simp[bv,br,h4'];intro _;refine Ue (X:=qkw×List Int) [0,61] [] p.kids.length (λk x=>(0<=x.1.leaf/\x.1.leaf+bi (p.kids.drop k)<=100000000)/\x.1.out.length+x.2.length*lg (p.kids.drop k)<=out.length+l.length*lg p.kids/\(∀a∈x.2,0<=a/\a+200000*bi (p.kids.drop k)<=1000000000000000)/\x.1.leaf+qjk (p.kids.drop k)=leaf+qjk p.kids/\∀s,(s∈x.1.out\/ ∃a∈x.2,qX (p.kids.drop k) a x.1.leaf s) ↔ (s∈out\/ ∃a∈l,qX p.kids a leaf s))
    (λx=>[(2,enc x.2)]) (λx=>[(0, .box b [.v (.int .i64 x.1.leaf), .own 47 x.1.v]),(47, .row x.1.v aC 2 (x.1.out.map enc))]) (⟨leaf,v,out⟩,l) (by simp) (by simp) (by omega) (by simp) (by simp) ⟨⟨hl0,by simp;omega⟩,by simp,by simpa using ha',by simp,by simp⟩ (by simp) (by simp) ?_ ?_
   ·rintro k ⟨⟨leaf',v',out'⟩,l'⟩ hkl ⟨⟨b0,b1⟩,b2,b3,b4,b5⟩;simp only at b0 b1 b2 b3 b4 b5;obtain⟨x,hx⟩:=aQ hkl;have hx1:=aP hx;obtain⟨_,hgx⟩:=qzV.1 hx;rw[bB hx,bi]at b1 b3;rw[bB hx,lg,Nat.mul_add]at b2;rw[bB hx,MT]at b4;have q1:=hk x hx1;have q2:=hs x hx1;simp[hkl,hx,hgx];intro b1';rw[h4];refine HJ (p:=x) (l:=l') (leaf:=leaf') (v:=v') (out:=out') ?_ ?_ ?_ ?_ ⟨q1,b0,by show leaf'+ (da x:Int)<=_;omega,by show out'.length+l'.length*jL x<=_;omega,λa h=>by have:=b3 a h;show 0<=a/\a+200000* (da x:Int)<=_;omega⟩ ?_
    ·simp
    ·simp
    ·simp
    ·simp
    rintro leaf2 v2 out2 ⟨c1,c2,c3⟩;simp only at c1 c2 c3;have q4:=qx x;simp[h1,h2,q1.2,mj];unfold eh at q2;have hlx:l'.length<=100000:=by
     have:=Nat.mul_le_mul_left l'.length (Nz x);omega
    have hb:∀s,(s∈out2\/ ∃a∈l',(aU x).1=(aU x).2/\qX (p.kids.drop (k+1)) (a+ (aU x).1) leaf2 s) ↔ (s∈out\/ ∃a∈l,qX p.kids a leaf s):=by
     intro s;rw[<-b5 s,c3 s,bB hx,or_assoc,c1];refine or_congr_right ⟨?_,?_⟩
     ·rintro(⟨a,ha1,h⟩|⟨a,ha1,h⟩)
      ·exact⟨a,ha1,by rw[qX];exact .inl h⟩
      ·exact⟨a,ha1,by rw[qX];exact .inr h⟩
     ·rintro⟨a,ha1,h⟩;rw[qX]at h;rcases h with h|h
      ·exact .inl ⟨a,ha1,h⟩
      ·exact .inr ⟨a,ha1,h⟩
    refine⟨λhne=>⟨⟨by simp,q2.1,by show(aU x).1<=_;omega,by simp⟩,⟨leaf2,v2,out2⟩, [],⟨⟨by show 0<=leaf2;omega,by show leaf2+_<=_;omega⟩,?_,by simp,by show leaf2+_=_;omega,λs=>?_⟩,rfl, .inl ⟨rfl,rfl⟩, .inl ⟨rfl,rfl⟩⟩,λhe=>⟨⟨hlx,q2.1,by show(aU x).1<=_;omega,λa h=>by have:=b3 a h;omega⟩,⟨leaf2,v2,out2⟩,l'.map (· + (aU x).1),⟨⟨by show 0<=leaf2;omega,by show leaf2+_<=_;omega⟩,?_,λa h=>?_,by show leaf2+_=_;omega,λs=>?_⟩,rfl, .inl ⟨rfl,rfl⟩, .inl ⟨rfl,rfl⟩⟩⟩
    ·simp;show out2.length<=_;omega
    ·rw[<-hb s];refine or_congr_right ⟨λ⟨a,h,_⟩=>by simp at h,λ⟨a,_,h,_⟩=>absurd h hne⟩
    ·rw[qAs];show out2.length+_<=_;omega
    ·obtain⟨a0,h0,rfl⟩:=qz1.1 h;have:=b3 a0 h0;have h3:1<=da x:=by rw[cw];omega
     show 0<=a0+ (aU x).1/\a0+ (aU x).1+_<=_;omega
    ·rw[<-hb s];refine or_congr_right ⟨?_,?_⟩
     ·rintro⟨a,h,h'⟩;obtain⟨a0,h0,rfl⟩:=qz1.1 h;exact⟨a0,h0,he,h'⟩
     ·rintro⟨a,h,_,h'⟩;exact⟨a+ (aU x).1,qz1.2 ⟨a,h,rfl⟩,h'⟩
   ·rintro⟨⟨leaf',v',out'⟩,l'⟩ ⟨⟨b0,b1⟩,b2,b3,b4,b5⟩;simp only at b0 b1 b2 b3 b4 b5;rw[qAX]at b2 b4 b5;rw[Sp]at b4;rw[lg,Nat.mul_zero]at b2;simp;refine qjL (leaf:=leaf') (v:=v') (out:=out') (by simp) (by simp) ⟨?_,?_,λs=>?_⟩
    ·show leaf'=leaf+ ((aq p).length:Int);rw[YZ (by omega)];omega
    ·show out'.length<=out.length+l.length*jL p;rw[kq,if_neg (by rw[hkk];simp),if_neg (by omega)];omega
    ·show s∈out'↔s∈out\/ ∃a∈l,SrcE p a leaf s;have:(∃a∈l,SrcE p a leaf s) ↔ ∃a∈l,qX p.kids a leaf s:=exists_congr λa=>and_congr_right λ_=>qd1 h4' _ _ _
     rw[this,<-b5 s];exact⟨.inl,λh=>h.elim id λ⟨a,_,h⟩=>by rw[qX]at h;exact h.elim⟩
  ·exact none4 (by omega) hkl
 ·have q1:=hk k0 (by rw[hkk];simp);have q2:=hs k0 (by rw[hkk];simp);have hn:=hn ho;have e6:(⟨6,p.cond,p.lab,p.reg,p.mn,p.mx,p.kids⟩:Pat)=p:=by rw[<-ho];exact qjR p
  have hsz:jL p=(max 1 p.mn).toNat*jL k0:=by rw[kq,hkk,if_neg (by simp),if_pos ho,lg,lg,qA5]
  have hpn:da p=da k0+1:=by rw[cw,hkk,bi,bi]
  have ht:Tq (p,l):=⟨ho,hp.2,by show l.length*jL p<=_;omega,λa h=>by have:=ha a h;omega⟩
  simp[bv,br,ho,h3,e6,ht];refine⟨by rw[hkk];simp,λa haa=>?_⟩;rw[hkk]at haa;cases haa;rintro y ⟨c1,c2⟩;simp only at c1 c2;have c2:=c2 k0 hkk;rw[h4];refine HJ (p:=k0) (l:=y) (leaf:=leaf) (v:=v) (out:=out) ?_ ?_ ?_ ?_ ⟨q1,hl0,by show leaf+ (da k0:Int)<=_;omega,?_,λz hz=>?_⟩ ?_
  ·simp
  ·simp
  ·simp
  ·simp
  ·show out.length+y.length*jL k0<=100000;rw[hsz,<-Nat.mul_assoc]at hlen;have:=qAy (jL k0) c1;omega
  ·obtain⟨a,ha1,i,h0,h1,h2,rfl⟩:=(c2 z).1 hz;have h1:i<p.mn:=h1;have:=ha a ha1;unfold eh at q2;have hm:=oP h0 (show i<=16 by omega) q2.1 q2.2.1;show 0<=a+i* (aU k0).1/\a+i* (aU k0).1+200000* (da k0:Int)<=_;omega
  ·rintro leaf2 v2 out2 ⟨d1,d2,d3⟩;simp only at d1 d2 d3;refine qjL (leaf:=leaf2) (v:=v2) (out:=out2) (by simp) (by simp) ⟨?_,?_,λs=>?_⟩
   ·show leaf2=leaf+ ((aq p).length:Int);rw[YZ (by omega),hkk,MT,Sp];omega
   ·show out2.length<=out.length+l.length*jL p;rw[hsz,<-Nat.mul_assoc];have:=qAy (jL k0) c1;omega
   ·show s∈out2↔s∈out\/ ∃a∈l,SrcE p a leaf s;rw[d3 s];refine or_congr_right ⟨?_,?_⟩
    ·rintro⟨z,hz,hsz⟩;obtain⟨a,ha1,i,h0,h1,h2,rfl⟩:=(c2 z).1 hz;exact⟨a,ha1,(qiD ho hkk _ _ _).2 ⟨i,h0,h1,h2,hsz⟩⟩
    ·rintro⟨a,ha1,h⟩;obtain⟨i,h0,h1,h2,h3⟩:=(qiD ho hkk _ _ _).1 h;exact⟨_,(c2 _).2 ⟨a,ha1,i,h0,h1,h2,rfl⟩,h3⟩
end Go.Gv
namespace Go.Gv
open Cod (enc dec)
variable {S:Nat->Spc}
def qjx(p:Int)(t:Ai):Bool:=decide (t.b<=p/\p<t.e)
abbrev Ao:Spc:=aL (a2 Corpus Int) (λ_=>True) enc λx y=>y=kB x.1.texts (qjx x.2)
def J1:am qU qq S (a2 Corpus Int) (λ_=>True) enc λx y=>y=kB x.1.texts (qjx x.2):=by
 rintro⟨c,p⟩ -;simp[qU,qq];intro hlen;refine ah (X:=Unit) [1,8] [] c.texts.length (λk _=>∀y∈c.texts.take k,qjx p y=false) (λ_=>[]) (λ_=>[]) () (by simp) ?_ ?_
 ·intro k _ hk hP;obtain⟨t,ht⟩:=aQ hk;obtain⟨_,hgt⟩:=qzV.1 ht;simp[ht,hk,hgt];refine⟨λh1=>⟨λh2=>?_,λh2=>?_⟩,λh1=>?_⟩
  ·exact(tF ht (by simp[qjx];omega) hP).symm
  all_goals
   rw[au ht];intro y hy;rcases qz5.1 hy with hy|hy
   ·exact hP y hy
   ·simp at hy;subst hy;simp[qjx];omega
 ·intro _ hP;simp at hP;simp;exact(lK hP).symm
def rQ(a b:Span):Int:=if NA a.b b.b≠0 then NA a.b b.b else NA a.e b.e
def Xa(a b:Span):0<=rQ a b↔ ¬AP a b:=by
 unfold rQ NA AP
 repeat' split
 all_goals omega
end Go.Gv
namespace Go.Gv
open Cod (enc dec)
variable {S S0:Nat->Spc}
abbrev mY:Spc:=aL (a2 Span Span) (λ_=>True) (enc (X:=Int)) λx y=>y=rQ x.1 x.2
def DQ(h1:S eP=nT)(h2:S pv=yD):am my lW S (a2 Span Span) (λ_=>True) (enc (X:=Int)) λx y=>y=rQ x.1 x.2:=by
 rintro⟨a,b⟩ -;simp[my,lW,h1,h2,rQ];by_cases h:NA a.b b.b=0
 ·by_cases h':NA a.e b.e=0
  ·simp[h,h']
  ·simp[h,h']
 ·simp[h]
def qbn(x:D×Unit)(l:List Span):Prop:=x.1= .clo fA []/\l.length<=100000
abbrev s_SortFunc_Source:Spc:=qoh (aD a0) qbn ZD aC 2
abbrev s_visitA:Spc:=qqY fndB (a2 Pat (List Int)) SQ (λx z=>∃n,Hg n x z) CO
theorem X5{n:Nat}{p:Pat}{l:List Int}{leaf:Int}{v:Value}{out:List Span}{id d b:Nat}{P L:D}{H:ab}{K:D->ab->Prop}(hid:id≠47)(hP:dec P=some p)(hL:dec L=some l)
 (h0:H id=some (.box b [.v (.int .i64 leaf), .own 47 v])) (h47:H 47=some (.row v aC 2 (out.map enc))) (hpre:Hg n ⟨leaf,v,out⟩ (p,l))
 (hK:∀leaf' v' out',CO ⟨leaf,v,out⟩ (p,l) ⟨leaf',v',out'⟩ ()->K (.tup []) (ai (ai H 47 (some (.row v' aC 2 (out'.map enc)))) id (some (.box b [.v (.int .i64 leaf'), .own 47 v'])))):s_visitA.pt d [.bptr id b 0,P,L] H K:=by
 refine⟨id,b,⟨leaf,v,out⟩,(p,l), [P,L],rfl,?_,h0,?_,by simpa [fndB]using hid,⟨n,hpre⟩,λx' y hq=>?_⟩
 ·rw[qhs,hP,hL];rfl
 ·intro q hq;simp at hq;subst hq;exact h47
 ·exact hK x'.leaf x'.v x'.out hq
def LU:∀(ks:List Pat) (n:Int),(1<=n\/ks≠ []/\0<=n)->(∀k∈ks,1<=fj k)->1<=eo ks n
 | [],n,h,_=>by rw[eo];rcases h with h|h;exact h;exact absurd rfl h.1
 | k::ks,n,h,hk=>by
   rw[eo];have:=hk k (by simp);exact LU ks _ (.inl (by rcases h with h|h<;>omega)) λx hx=>hk x (by simp[hx])
def qbT{v:B->Bool}(p:Pat):fJ v p=true->1<=fj p:=by
 induction p using fZ with|_ p ih=>?_
 intro h;have hn:=(df h).2.2;unfold lJ at hn;rw[decide_eq_true_eq]at hn;rw[nR,Bb];by_cases h0:p.kids=[]
 ·rw[if_pos h0];omega
 ·rw[if_neg h0];have:=LU p.kids 0 (.inr ⟨h0,qBf _⟩) λk hk=>ih k hk (kP h hk)
  generalize eo p.kids 0=n at this;split
  ·rename_i h6;have hn:=hn h6;split
   ·have:=Int.mul_le_mul this (show(1:Int)<=p.mn+1 by omega) (by omega) (by omega);omega
   ·split
    ·exact this
    ·have:=Int.mul_le_mul this (show(1:Int)<=p.mx by omega) (by omega) (by omega);omega
  ·exact this
abbrev FS:Spc:=D7
abbrev qd:Spc:=aL (a1 Pat) pS (enc (X:=List Span)) gw
theorem HF(h1:S tJ=FS)(h2:S aM=s_visitA)(h3:S gC=s_SortFunc_Source)(h4:S eM=xS):
 am pM ot S (a1 Pat) pS (enc (X:=List Span)) gw:=by
 rintro p ⟨hp1,hp2⟩;simp[pM,ot,h1, -Bool.forall_bool];have hno:¬(fJ aJ p=true/\fj p<=256)->Fin enc (gw p) (D.v (Value.slice none 0 0)) λx=>none:=λh=>ba [] (by simp) (by unfold gw;rw[if_neg h])
 rcases hb:fJ aJ p
 ·simp;exact hno (by rw[hb];simp)
 have hpos:=qbT p hb;simp;refine⟨λ_=>⟨λh=>hno (by omega),λhle=>?_⟩,λh=>by omega⟩;have hq:∀y,SrcsOf p y->gw p y:=λy hy=>by unfold gw;rw[if_pos ⟨hb,hle⟩];exact hy
 clear hno;refine iB (X:=Nat) [1] [] [] [] (λ_=>True) (λb=>[(4, .bptr 14 b 0)]) (λb=>[(14, .box b [.v (.int .i64 0), .own 47 (.slice none 0 0)]),(47, .row (.slice none 0 0) aC 2 [])]) [14,47] (λ_=>rfl) (by decide) ?_ ?_
 ·simp;refineλb=>⟨b, .same _, .inl ?_,by simp[isNilRow]⟩
  simp;exact .nilown 47
 ·rintro b -;simp[h2];refine X5 (n:=db p) (p:=p) (l:=[0]) (leaf:=0) (v:= .slice none 0 0) (out:=[]) (by decide) ?_ ?_ ?_ ?_ ⟨⟨qz2 _,hb⟩,qBf _,by show(0:Int) + (da p:Int)<=_;omega,by simp;omega,λa h=>by simp at h;subst h;show 0<=(0:Int)/\(0:Int) +200000* (da p:Int)<=_;omega⟩ ?_
  ·simp
  ·simp
  ·simp
  ·simp
  rintro leaf v out ⟨c1,c2,c3⟩;simp only at c1 c2 c3;simp at c2;simp[h3,h4];have hP:qbn (.clo fA [],()) out:=⟨rfl,by omega⟩
  refine⟨hP,λr hr=>⟨by have:=hr.1;omega,λv'=>ba (vR r) (fG aC (by simp)) (hq _ ⟨qj5 hr.2.2,λs=>?_⟩)⟩⟩;rw[WZ,hr.2.1 s,c3 s];simp
end Go.Gv
namespace Go.Gv
open Cod (enc dec)
open Go.Proofs Go.Sort Go.Shelf Go.Lib Go.RowKit
variable {dq:Prop}
section
variable {P:Program}{ρ:Ren}
theorem Ur{fsort:Nat}(L:SlLaysN.n53 P ρ)(hf:ρ.f 53=fsort)(ef:ee P fsort):Tri dq P fsort s_Sort_int.pt:=by
 subst hf;have hev:∀x:Int,enc x=D.v (.int .i64 x):=λ_=>rfl
 intro O tp w vs ds H d K hO' htl hsat hlen hargs hA;obtain⟨id,v,l,ds',x,rfl,hd,hid,hl5,hK⟩:=hA;have hds:ds'=[]:=by
  match ds',hd with
  | [],h=>rfl
  |a::r,h=>cases h
 subst hds
 match vs,hlen,hargs with
 | [v0],_,hargs=>
 have e0:v0=v:=by
  have:=hargs 0 v0 _ rfl rfl;cases this;rfl
 subst e0;refine⟨ef,?_⟩;obtain⟨xs,⟨hxl,hx⟩,hkn,hcells⟩:=hsat.ok id _ hid;rcases hx with⟨rfl,h0⟩|⟨gb,cap,cur,rfl,_,hgb,hcap,hcapm,hsz,htake⟩
 ·have hl0:l=[]:=by simpa using h0
  subst hl0;refine(AnyG.slices_Sort_int_none L none 0 w).mono ?_;rintro e w' ⟨rfl,rfl⟩;have hH:ai H id (some (.row (.slice none 0 0) bb 1 (([]:List Int).map enc)))=H:=by
   funext i;simp only[ai];by_cases hi:i=id
   ·subst hi;simp[hid]
   ·simp[hi]
  refine⟨_,_,_,tp,rfl,hK [] (by simp),λb h=>h,λb h=> .inl h,htl.1, .refl _ _ _,λb h=> .inl (by rwa [hH]at h),by rw[hH];exact hsat, .tup [] [] rfl (λk x c h=>by simp at h)⟩
 ·have hll:(l.map (enc (X:=Int))).length=l.length:=by simp
  rw[hll]at hcap hxl htake ⊢;have hval:∀(j:Nat) (y v':Value),xs[j]? =some y->(be (l.map enc))[j]? =some (.v v')->y=v':=λj y v' h1 h2=>((hcells j y _ h1 h2).2).inv_v
  have hflg:∀l:List Int,be (l.map enc)=(l.map (Value.int .i64)).map D.v:=λl=>by
   unfold be;rw[List.flatMap_map,List.map_map]
   induction l with
   |nil=>rfl
   |cons a l ih=>rw[qAw,qAo,ih];rfl
  have hxs:xs=l.map (Value.int .i64):=by
   apply qAO;intro j;by_cases hj:j<l.length
   ·have e1:xs[j]? =some xs[j]:=qzX (by omega);have e2:(l.map (Value.int .i64))[j]? =some (.int .i64 l[j]):=by simp[hj]
    rw[e1,e2];congr 1;refine hval j _ _ e1 ?_;rw[hflg,qz7,e2];rfl
   ·rw[qAt (by omega),qAt (by simp;omega)]
  have hcur:∀j,j<l.length->cur[j]? =(l.map (Value.int .i64))[j]?:=λj hj=>by
   rw[<-hxs,<-htake,qAf,if_pos (by omega),qAn]
  have hgs:gb<w.heap.size:=(qz3.1 hgb).1;have hH:Holds (Value.int .i64) w gb 0 l.toArray:=by
   intro j hj;have hj':j<l.length:=by simpa using hj
   refine⟨?_,GE hgb⟩;rw[ND hgb,qAG,hcur j hj',getElem!_pos _ j hj];simp[hj']
  have hcall:=AnyG.slices_Sort_int L gb 0 cap l w hH hgs (by omega);refine hcall.mono ?_;rintro e w' ⟨rfl,n,os,hw'⟩;have hmem:∀x,x∈l.mergeSort (λx y=>decide (x<=y)) ↔x∈l:=λx=>List.mem_mergeSort
  have hlen':(l.mergeSort λx y=>decide (x<=y)).length=l.length:=by simp
  generalize hl':(l.mergeSort λx y=>decide (x<=y))=l' at hw' hmem hlen';have hwo:∀b,b<w.heap.size->b≠gb->w'.heap[b]? =w.heap[b]?:=λb hb hne=>by
   rw[hw'];exact PS (w:=Sort.ahead w n) hb hne
  have hthis:w'.heap[gb]? =some (.cells (putCells (Value.int .i64) 0 l'.toArray cur) bb (0,0)):=by
   rw[hw'];exact Vq (w:=Sort.ahead w n) hgb
  have hws:w.heap.size<=w'.heap.size:=by
   rw[hw'];simp[grow,putRow,mapBlock,Sort.ahead]
  have hos:w'.os=w.os/\w'.tape=w.tape/\w'.output=w.output/\w.drawn<=w'.drawn:=by
   rw[hw'];exact⟨rfl,rfl,rfl,Nat.le_add_right _ _⟩
  clear hw' hcall;have hbo:(Res.row (.slice (some ⟨gb,0,none⟩) l.length cap) bb 1 (l.map (enc (X:=Int)))).blk=some gb:=rfl;have hid':H id=some (.row (.slice (some ⟨gb,0,none⟩) l.length cap) bb 1 (l.map enc)):=by rw[hid,hll]
  have hown:bL H gb:=⟨id,_,hid',hbo⟩
  have htp:∀b,tp b->b≠gb:=λb hb e=>(hsat.out id _ gb hid' hbo).2 (e ▸hb)
  have htapes:∀b,tp b->TapeStep w w' b:=λb hb=> .same (hwo b (htl.1 b hb) (htp b hb))
  have hK':=hK l' ⟨hlen',hmem⟩;rw[hll]at hK';generalize hH2:ai H id (some (.row (.slice (some ⟨gb,0,none⟩) l.length cap) bb 1 (l'.map enc)))=H2 at hK';have hown2:∀b,bL H2 b->bL H b:=λb ⟨i,r,h1,h2⟩=>by
   rw[<-hH2]at h1;simp only[ai]at h1;split at h1
   ·cases h1;cases h2;exact hown
   ·exact⟨i,r,h1,h2⟩
  have hmove:∀y c,R tp (bh O tp H w) w y c->R tp (bh O tp H2 w') w' y c:=λy c hr=>hr.mono (λ_ h=>h) (λb hb=>⟨⟨qAj hb.1 hws,hb.2.1,hb.2.2.1,λh=>hb.2.2.2 (hown2 b h)⟩,hwo b hb.1 (λe=>hb.2.2.2 (e ▸hown))⟩) htapes
  have hget:∀i r,H2 i=some r->(i=id/\r= .row (.slice (some ⟨gb,0,none⟩) l.length cap) bb 1 (l'.map enc))\/(i≠id/\H i=some r):=λi r h=>by
   rw[<-hH2]at h;simp only[ai]at h;split at h
   ·rename_i e;cases h;exact .inl ⟨e,rfl⟩
   ·rename_i e;exact .inr ⟨e,h⟩
  refine⟨_,_,H2,tp,rfl,hK',λb h=>h,λb h=> .inl h,λb hb=>qAj (htl.1 b hb) hws,⟨hos.1,hos.2.1,hos.2.2.1,hws,λb hb ho ht=>hwo b hb (λe=>ho (e ▸hown)),htapes,λ_=>hos.2.2.2⟩,λb h=> .inl (hown2 b h),⟨?_,?_,?_⟩, .tup [] [] rfl (λk x c h=>by simp at h)⟩
  ·intro i j r s b h1 h2 h3 h4;rcases hget i r h1 with⟨rfl,rfl⟩|⟨n1,k1⟩
   ·rcases hget j s h2 with⟨rfl,rfl⟩|⟨n2,k2⟩
    ·rfl
    ·exact hsat.dis _ j _ s b hid' k2 h3 h4
   ·rcases hget j s h2 with⟨rfl,rfl⟩|⟨n2,k2⟩
    ·exact hsat.dis i _ r _ b k1 hid' h3 h4
    ·exact hsat.dis i j r s b k1 k2 h3 h4
  ·intro i r b h1 h2;rcases hget i r h1 with⟨rfl,rfl⟩|⟨n1,k1⟩
   ·exact hsat.out _ _ b hid' h2
   ·exact hsat.out i r b k1 h2
  ·intro i r h1;rcases hget i r h1 with⟨rfl,rfl⟩|⟨n1,k1⟩
   ·have hps:(putCells (Value.int .i64) 0 l'.toArray cur).size=cur.size:=by simp[putCells]
    refine⟨l'.map (Value.int .i64),⟨by simp, .inr ⟨gb,cap,_,by simp[hlen'],qAr _,hthis,by simp;omega,hcapm,by rw[hps,hsz],?_⟩⟩,λd hd=>?_,λj y c h1 h2=>?_⟩
    ·simp only[qAs,hlen'];apply qAO;intro j;rw[qAf];by_cases hj:j<l.length
     ·have hjc:j<cur.size:=by omega
      have hjf:j<l'.toArray.size:=by simp[hlen'];exact hj
      have hjl:j<l'.length:=by omega
      rw[if_pos (by omega),qAn];simp only[putCells,Array.getElem?_mapIdx,qAS hjc,qBh,qAr,qAG,hjf,and_self,if_true,Nat.sub_zero];rw[getElem!_pos _ j hjf];simp[hjl]
     ·rw[if_neg (by omega),qAt (by simp;omega)]
    ·obtain⟨z,_,rfl⟩:=qz1.1 hd;exact⟨Cod.kn z,Cod.wid z⟩
    ·rw[hflg,qz7,h1]at h2;cases h2;obtain⟨z,_,rfl⟩:=qz1.1 (qzY h1);exact⟨rfl, .v _ rfl (λs h=>by cases h)⟩
   ·have hne:∀b,r.blk=some b->b≠gb:=λb hb e=>n1 (hsat.dis i id r _ gb k1 hid' (e ▸hb) hbo)
    exact(hsat.ok i r k1).conv hmove (λb hb=>hwo b ((hsat.ok i r k1).lt hb) (hne b hb))
end
end Go.Gv
