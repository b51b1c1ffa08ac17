/- A part of the framework and of the walks: C15 W113 ShI I5 W114. -/
import Derived.Shelf.LaysM
import Derived.Shelf.Strconv.Itoa3
import Derived.Test.YtaiffcbkmgfklaaGreatDoorProg
import Derived.Test.YtaiffcbkmgfklaaGreatDoorGs17
import Derived.Test.YtaiffcbkmgfklaaGreatDoorGs42
import Derived.Test.YtaiffcbkmgfklaaGreatDoorGs40
import Derived.Test.YtaiffcbkmgfklaaGreatDoorGs29
set_option linter.unusedSimpArgs false
set_option linter.unusedVariables false
set_option maxRecDepth 100000

namespace Go.Gv
open Go.Proofs
-- internal_strconv_FormatInt: [region 9 op 2, region 12 op 2, region 13 op 2]
-- query_writer_glob range i=78 n=77 c=79 i2=111 id=1: live [2:w, 3:g, 76:] changed [] res [0, 4, 6]
def cG:CC:=oX [oB 2 (.box mI true (oT 0)),oB 3 (.box au true (oT 1))] [2,3] [0,900,4,6] (oX [oE 7 0 3,oC 8 1 7] [2,3,8] [0,900,4,6] (.block 0 (oX [oB 13 (.eql false false [.int] (oT 8) (oN 2)),oA 12 13] [2,3,8,12] [0,900,4,6] (.ite (oT 12) (.seq (.regd [oC 14 1 2,oG 15 14,oE 16 0 15,oE 17 1 3,oC 18 1 17,oB 19 (.scat (oT 18) (oS ⟨#[46]⟩)),
 oE 20 3 3,oC 21 1 20,oB 22 (.scat (oT 19) (oT 21)),oB 23 (.scat (oT 22) (oS ⟨#[61]⟩))] [oZ 24 aa [oT 16,oT 23]]) (.keep [2,3] [0,900,4,6] (.reg [oC 25 1 2,oE 26 5 3,oC 27 1 26,oE 28 6 3,oC 29 1 28,oZ 30 bQ [oT 25,oT 27,oT 29]]))) (oX [oB 32 (.eql false false [.int] (oT 8) (oN 3)),oA 31 32] [2,3,8,31] [0,900,4,6] (.ite (oT 31) (.regd [
 oC 33 1 2,oG 34 33,oE 35 0 34,oE 36 1 3,oC 37 1 36,oB 38 (.scat (oT 37) (oS ⟨#[46]⟩)),oE 39 3 3,oC 40 1 39,oB 41 (.scat (oT 38) (oT 40)),oB 42 (.scat (oT 41) (oS ⟨#[61]⟩)),oE 43 2 3,oC 44 1 43,oB 45 (.scat (oT 42) (oT 44)),oB 46 (.scat (oT 45) (oS ⟨#[46]⟩)),oE 47 4 3,oC 48 1 47,oB 49 (.scat (oT 46) (oT 48))] [oZ 50 aa [oT 35,oT 49]]) (oX [
 oB 52 (.eql false false [.int] (oT 8) (oN 11)),oA 51 52] [2,3,8,51] [0,900,4,6] (.ite (oT 51) (oX [oE 53 10 3,oC 54 1 53,oB 55 (.iaddr 11 (oT 54) (oN 0)),oD 56 11 55,oB 4 (.alloc au [oi,oe,oe,oe,oe,oe,ob,oi,oi,on,on]),oF 11 4 56,.frz 4 0] [2,4] [0,900,4,6] (oX [oC 57 1 2,oG 58 57,oE 59 0 58,oZ 60 aa [oT 59,oS ⟨#[33]⟩]] [2,4] [0,900,4,6] (.reg [
 oC 61 1 2,oE 62 0 4,oC 63 1 62,oB 64 (.eql false false [.int] (oT 63) (oN 13)),oA 65 64,oI 66 65 (.faddr 0 (oT 4)),oI 67 65 (.load false 1 (oT 66)),oI 68 65 (.eql false false [.int] (oT 67) (oN 12)),oB 69 (.pick (oT 65) (.const (.bool true)) (oT 68)),oB 70 (.clo dF [oT 2,oT 4]),oZ 71 aH [oT 61,oT 69,oT 70]]))) (.seq (oX [
 oB 73 (.eql false false [.int] (oT 8) (oN 12)),oA 72 73] [2,3,8,72] [0,900,4,6] (.ite (oT 72) (.skip) (.reg [oB 74 (.eql false false [.int] (oT 8) (oN 13)),oA 72 74]))) (.keep [2,3,72] [0,900,4,6] (.ite (oT 72) (oX [oE 75 10 3,oC 76 1 75,oB 77 (.len (oT 76)),oB 78 (.mv (oN 0))] [2,3,76,77,78] [0,900,4,6] (bn 1 78 77 79 2 (oX [oA 80 78,oB 81 (.iaddr 11 (oT 76) (oT 78)),oD 82 11 81,
 oB 6 (.alloc au [oi,oe,oe,oe,oe,oe,ob,oi,oi,on,on]),oA 5 80,oF 11 6 82,.frz 6 0] [2,3,5,6,76,77,78] [0,900,4,6] (.seq (oX [oA 83 5,oB 84 (.cmp .gtr (oT 83) (oN 0))] [2,3,6,76,77,78,84] [0,900,4,6] (.ite (oT 84) (.regd [oC 85 1 2,oG 86 85,oE 87 0 86,oB 88 (.bslice az 1 [oS ⟨#[32,38,32]⟩,oS ⟨#[32,124,32]⟩]),oE 89 0 3,oC 90 1 89,oB 91 (.arith .sub (oT 90) (oN 12)),
 oB 92 (.iaddr 1 (oT 88) (oT 91)),oC 93 1 92] [oZ 94 aa [oT 87,oT 93]]) (.skip))) (.keep [2,3,6,76,77,78] [0,900,4,6] (.reg [oC 95 1 2,oE 96 0 6,oC 97 1 96,oB 98 (.eql false false [.int] (oT 97) (oN 13)),oA 99 98,oI 100 99 (.faddr 0 (oT 6)),oI 101 99 (.load false 1 (oT 100)),oI 102 99 (.eql false false [.int] (oT 101) (oN 12)),oI 103 99 (.mv (oT 102)),
 oH 104 103 (.faddr 0 (oT 3)),oH 105 103 (.load false 1 (oT 104)),oH 106 103 (.eql false false [.int] (oT 105) (oN 12)),oI 107 99 (.pick (oT 103) (oT 106) (.const ob)),oB 108 (.pick (oT 99) (.const (.bool true)) (oT 107)),oB 109 (.clo dE [oT 2,oT 6]),oZ 110 aH [oT 95,oT 108,oT 109]])))) 111)) (.reg [oC 9 1 2,oD 10 11 3,
 oZ 11 fH [oT 9,oT 10]]))))))))))))
def cD:List aK:= []
def wv:List Nat:= [3,2]
theorem vW:aS Tryz.prog bM wv cG cD 112:=aA ay (by kernel_rfl)
def iV:CC:= .reg [oC 2 1 0,oD 3 11 1,oZ 4 bM [oT 2,oT 3]]
def iI:List aK:= []
def ub:List Nat:= []
theorem tR:aS Tryz.prog dF ub iV iI 5:=aA ay (by kernel_rfl)
def iU:CC:= .reg [oC 2 1 0,oD 3 11 1,oZ 4 bM [oT 2,oT 3]]
def iH:List aK:= []
def ua:List Nat:= []
theorem tQ:aS Tryz.prog dE ua iU iH 5:=aA ay (by kernel_rfl)
-- query_writer_call range i=10 n=9 c=11 i2=28 id=0: live [0:w, 3:g, 8:] changed [] res [0]
-- query_writer_call range i=77 n=76 c=78 i2=88 id=3: live [0:w, 75:] changed [] res [0]
def aO:CC:=oX [oB 3 (.box au true (oT 1))] [0,3] [0,900] (.seq (oX [oB 8 (.bslice az 1 [oS ⟨#[98,111,117,110,100]⟩,oS ⟨#[100,105,115,116,97,110,99,101]⟩,oS ⟨#[115,97,109,101]⟩,oS ⟨#[104,101,97,100]⟩,oS ⟨#[97,110,99,101,115,116,111,114]⟩,oS ⟨#[112,97,116,104]⟩,oS ⟨#[110,111,100,101]⟩,oS ⟨#[100,101,112,116,104]⟩]),oB 9 (.len (oT 8)),
 oB 10 (.mv (oN 0))] [0,3,8,9,10] [0,900] (bn 0 10 9 11 1 (oX [oB 12 (.iaddr 1 (oT 8) (oT 10)),oC 13 1 12,oA 5 13] [0,3,5,8,9,10] [0,900] (.seq (.regd [oA 14 5,oZ 15 bt [oT 14],oE 16 0 3,oC 17 1 16] [oB 18 (.eql false false [.int] (oT 15) (oT 17))]) (.keep [0,3,5,8,9,10,18] [0,900] (.ite (oT 18) (.regd [oA 19 0,oG 20 19,oE 21 0 20,oA 22 5,
 oB 23 (.scat (oT 22) (oS ⟨#[40]⟩)),oE 24 1 3,oC 25 1 24,oB 26 (.scat (oT 23) (oT 25))] [oZ 27 aa [oT 21,oT 26]]) (.skip))))) 28)) (.keep [0,3] [0,900] (.seq (oX [oE 29 0 3,oC 30 1 29,oB 31 (.eql true false [.int] (oT 30) (oN 1)),oA 32 31,oH 33 32 (.faddr 0 (oT 3)),oH 34 32 (.load false 1 (oT 33)),oH 35 32 (.eql true false [.int] (oT 34) (oN 10)),
 oB 36 (.pick (oT 32) (oT 35) (.const ob))] [0,3,36] [0,900] (.ite (oT 36) (.regd [oA 37 0,oG 38 37,oE 39 0 38,oE 40 2 3,oC 41 1 40,oB 42 (.scat (oS ⟨#[44]⟩) (oT 41))] [oZ 43 aa [oT 39,oT 42]]) (.skip))) (.keep [0,3] [0,900] (.seq (oX [oE 44 0 3,oC 45 1 44] [0,3,45] [0,900] (.block 2 (.seq (oX [oB 47 (.eql false false [.int] (oT 45) (oN 4)),
 oA 46 47] [0,3,45,46] [0,900] (.ite (oT 46) (.skip) (.reg [oB 48 (.eql false false [.int] (oT 45) (oN 10)),oA 46 48]))) (.keep [0,3,45,46] [0,900] (.ite (oT 46) (.regd [oA 49 0,oG 50 49,oE 51 0 50,oE 52 7 3,oC 53 1 52,oZ 54 bp [oT 53],oB 55 (.scat (oS ⟨#[44]⟩) (oT 54)),oB 56 (.scat (oT 55) (oS ⟨#[44]⟩)),oE 57 8 3,oC 58 1 57,oZ 59 bp [oT 58],
 oB 60 (.scat (oT 56) (oT 59))] [oZ 61 aa [oT 51,oT 60]]) (.seq (oX [oB 63 (.eql false false [.int] (oT 45) (oN 5)),oA 62 63] [0,3,45,62] [0,900] (.ite (oT 62) (.skip) (.reg [oB 64 (.eql false false [.int] (oT 45) (oN 9)),oA 62 64]))) (.keep [0,3,45,62] [0,900] (.ite (oT 62) (.regd [oA 65 0,oG 66 65,oE 67 0 66,oE 68 3 3,oC 69 1 68,
 oB 70 (.scat (oS ⟨#[44]⟩) (oT 69))] [oZ 71 aa [oT 67,oT 70]]) (oX [oB 73 (.eql false false [.int] (oT 45) (oN 8)),oA 72 73] [0,3,72] [0,900] (.ite (oT 72) (oX [oE 74 9 3,oC 75 1 74,oB 76 (.len (oT 75)),oB 77 (.mv (oN 0))] [0,75,76,77] [0,900] (bn 3 77 76 78 4 (oX [oB 79 (.iaddr 1 (oT 75) (oT 77)),oC 80 1 79,oA 7 80] [0,7,75,76,77] [0,900] (oX [oA 81 0,
 oG 82 81,oE 83 0 82,oZ 84 aa [oT 83,oS ⟨#[44]⟩]] [0,7,75,76,77] [0,900] (.reg [oA 85 0,oA 86 7,oZ 87 aP [oT 85,oT 86]]))) 88)) (.skip))))))))))) (.keep [0] [0,900] (.reg [oA 89 0,oG 90 89,oE 91 0 90,oZ 92 aa [oT 91,oS ⟨#[41]⟩]])))))))
def aN:List aK:= []
def wx:List Nat:= [3]
theorem vX:aS Tryz.prog fH wx aO aN 93:=aA ay (by kernel_rfl)
-- query_measure range i=19 n=18 c=20 i2=37 id=0: live [1:nodes, 2:deep, 8:deepest, 17:] changed [1, 8] res []
def nU:CC:=oX [oB 3 (.box au true (oT 0)),oB 6 (.mv (oN 0)),oB 7 (.mv (oN 0))] [1,2,3] [] (oX [oA 13 1,oB 14 (.arith .add (oT 13) (oN 1)),oA 1 14] [1,2,3] [] (oX [oA 15 2,oA 8 15] [1,2,3,8] [] (.seq (oX [oE 16 10 3,oC 17 1 16,oB 18 (.len (oT 17)),oB 19 (.mv (oN 0))] [1,2,8,17,18,19] [] (bn 0 19 18 20 1 (oX [oB 21 (.iaddr 11 (oT 17) (oT 19)),
 oD 22 11 21,oB 10 (.alloc au [oi,oe,oe,oe,oe,oe,ob,oi,oi,on,on]),oF 11 10 22] [1,2,8,10,17,18,19] [10] (.seq (oX [oA 23 1,oB 24 (.cmp .gtr (oT 23) (oN 60))] [1,2,8,10,17,18,19,24] [10] (.ite (oT 24) (.exit 0) (.skip))) (.keep [1,2,8,10,17,18,19] [10] (oX [oD 26 11 10,oA 27 1,oA 28 2,oB 29 (.arith .add (oT 28) (oN 1)),oZ 30 dT [oT 26,oT 27,oT 29],oA 25 30,
 oB 31 (.ext (oT 25) 0),oB 32 (.ext (oT 25) 1),oA 11 31,oA 12 32] [2,8,11,12,17,18,19] [] (.reg [oA 33 11,oA 34 8,oA 35 12,oB 36 (.mm true [oT 34,oT 35]),oA 1 33,oA 8 36]))))) 37)) (.keep [1,8] [] (oX [oA 38 1,oA 39 8,oA 6 38,oA 7 39] [6,7] [] (.ret))))))
def nD:List aK:= [.tmp 6, .tmp 7]
def BZ:List Nat:= [3]
theorem BF:aS Tryz.prog dT BZ nU nD 40:=aA ay (by kernel_rfl)
def cU:CC:=oX [oB 1 (.box au true (oT 0)),oB 2 (.mv (.const ob))] [1] [] (oX [oB 3 (.mv (oN 0)),oB 4 (.mv (oN 0))] [1,3,4] [] (oX [oE 6 0 1,oC 7 1 6,oE 8 1 1,oC 9 1 8,oE 10 2 1,oC 11 1 10,oB 12 (.build [oi,oe,oe,oe,oe,oe,ob,oi,oi,on,on] [(0,1,oT 7),(1,1,oT 9),(2,1,oT 11)]),oB 5 (.alloc au [oi,oe,oe,oe,oe,oe,ob,oi,oi,on,on]),
 oF 11 5 12] [1,3,4,5] [5] (.seq (oX [oE 13 0 1,oC 14 1 13] [1,3,4,5,14] [5] (.block 0 (oX [oB 16 (.eql false false [.int] (oT 14) (oN 1)),oA 15 16] [1,3,4,5,14,15] [5] (.ite (oT 15) (.reg [oE 17 2 5,.op none none (.store none 1 (oT 17) (oS ⟨#[]⟩))]) (oX [oB 19 (.eql false false [.int] (oT 14) (oN 2)),oA 18 19] [1,3,4,5,14,18] [5] (.ite (oT 18) (.regd [oE 20 3 1,oC 21 1 20,oE 22 5 1,
 oC 23 1 22,oE 24 6 1,oC 25 1 24,oE 26 2 5,.op none none (.store (some 5) 1 (oT 26) (oS ⟨#[]⟩)),oE 27 3 5,.op none none (.store (some 5) 1 (oT 27) (oT 21)),oE 28 5 5,.op none none (.store (some 5) 1 (oT 28) (oT 23))] [oE 29 6 5,.op none none (.store (some 5) 1 (oT 29) (oT 25))]) (oX [oB 31 (.eql false false [.int] (oT 14) (oN 3)),oA 30 31] [1,3,4,5,14,30] [5] (.ite (oT 30) (.regd [
 oE 32 3 1,oC 33 1 32,oE 34 4 1,oC 35 1 34,oE 36 3 5,.op none none (.store (some 5) 1 (oT 36) (oT 33))] [oE 37 4 5,.op none none (.store (some 5) 1 (oT 37) (oT 35))]) (oX [oB 39 (.eql false false [.int] (oT 14) (oN 4)),oA 38 39] [1,3,4,5,14,38] [5] (.ite (oT 38) (.regd [oE 40 7 1,oC 41 1 40,oE 42 8 1,oC 43 1 42,oE 44 7 5,.op none none (.store (some 5) 1 (oT 44) (oT 41))] [
 oE 45 8 5,.op none none (.store (some 5) 1 (oT 45) (oT 43))]) (.seq (oX [oB 47 (.eql false false [.int] (oT 14) (oN 5)),oA 46 47] [1,3,4,5,14,46] [5] (.ite (oT 46) (.skip) (.reg [oB 48 (.eql false false [.int] (oT 14) (oN 9)),oA 46 48]))) (.keep [1,3,4,5,14,46] [5] (.ite (oT 46) (.reg [oE 49 3 1,oC 50 1 49,oE 51 3 5,oF 1 51 50]) (.seq (oX [oB 53 (.eql false false [.int] (oT 14) (oN 6)),
 oA 52 53] [1,3,4,5,14,52] [5] (.ite (oT 52) (.skip) (.reg [oB 54 (.eql false false [.int] (oT 14) (oN 7)),oA 52 54]))) (.keep [1,3,4,5,14,52] [5] (.ite (oT 52) (.skip) (oX [oB 56 (.eql false false [.int] (oT 14) (oN 8)),oA 55 56] [1,3,4,5,14,55] [5] (.ite (oT 55) (.reg [oE 57 9 1,oC 58 1 57,oE 59 9 5,oF 1 59 58]) (oX [oB 61 (.eql false false [.int] (oT 14) (oN 10)),
 oA 60 61] [1,3,4,5,14,60] [5] (.ite (oT 60) (.regd [oE 62 7 1,oC 63 1 62,oE 64 8 1,oC 65 1 64,oE 66 2 5,.op none none (.store (some 5) 1 (oT 66) (oS ⟨#[]⟩)),oE 67 7 5,.op none none (.store (some 5) 1 (oT 67) (oT 63))] [oE 68 8 5,.op none none (.store (some 5) 1 (oT 68) (oT 65))]) (oX [oB 70 (.eql false false [.int] (oT 14) (oN 11)),oA 69 70] [1,5,14,69] [5] (.ite (oT 69) (oX [
 oE 71 1 5,.op none none (.store none 1 (oT 71) (oS ⟨#[]⟩)),oE 72 2 5,.op none none (.store none 1 (oT 72) (oS ⟨#[]⟩))] [1,5] [5] (.reg [oB 3 (.mv (oN 1)),oB 4 (.mv (oN 1))])) (.seq (oX [oB 74 (.eql false false [.int] (oT 14) (oN 12)),oA 73 74] [1,5,14,73] [5] (.ite (oT 73) (.skip) (.reg [oB 75 (.eql false false [.int] (oT 14) (oN 13)),oA 73 75]))) (.keep [1,5,73] [5] (.ite (oT 73) (oX [
 oE 76 1 5,.op none none (.store none 1 (oT 76) (oS ⟨#[]⟩)),oE 77 2 5,.op none none (.store none 1 (oT 77) (oS ⟨#[]⟩))] [1,5] [5] (.reg [oB 3 (.mv (oN 2)),oB 4 (.mv (oN 60))])) (oX [oB 2 (.mv (.const ob))] [2] [] (.ret))))))))))))))))))))))))))) (.keep [1,3,4,5] [5] (oX [oE 78 1 1,oC 79 1 78,oE 80 1 5,oC 81 1 80,oB 82 (.eql false false [.str] (oT 79) (oT 81)),oA 83 82,
 oH 84 83 (.faddr 2 (oT 1)),oH 85 83 (.load false 1 (oT 84)),oH 86 83 (.faddr 2 (oT 5)),oH 87 83 (.load false 1 (oT 86)),oH 88 83 (.eql false false [.str] (oT 85) (oT 87)),oB 89 (.pick (oT 83) (oT 88) (.const ob)),oA 90 89,oH 91 90 (.faddr 3 (oT 1)),oH 92 90 (.load false 1 (oT 91)),oH 93 90 (.faddr 3 (oT 5)),oH 94 90 (.load false 1 (oT 93)),
 oH 95 90 (.eql false false [.str] (oT 92) (oT 94)),oB 96 (.pick (oT 90) (oT 95) (.const ob)),oA 97 96,oH 98 97 (.faddr 4 (oT 1)),oH 99 97 (.load false 1 (oT 98)),oH 100 97 (.faddr 4 (oT 5)),oH 101 97 (.load false 1 (oT 100)),oH 102 97 (.eql false false [.str] (oT 99) (oT 101)),oB 103 (.pick (oT 97) (oT 102) (.const ob)),oA 104 103,oH 105 104 (.faddr 5 (oT 1)),
 oH 106 104 (.load false 1 (oT 105)),oH 107 104 (.faddr 5 (oT 5)),oH 108 104 (.load false 1 (oT 107)),oH 109 104 (.eql false false [.str] (oT 106) (oT 108)),oB 110 (.pick (oT 104) (oT 109) (.const ob)),oA 111 110,oH 112 111 (.faddr 6 (oT 1)),oH 113 111 (.load false 1 (oT 112)),oH 114 111 (.faddr 6 (oT 5)),oH 115 111 (.load false 1 (oT 114)),
 oH 116 111 (.eql false false [.bool] (oT 113) (oT 115)),oB 117 (.pick (oT 111) (oT 116) (.const ob)),oA 118 117,oH 119 118 (.faddr 7 (oT 1)),oH 120 118 (.load false 1 (oT 119)),oH 121 118 (.faddr 7 (oT 5)),oH 122 118 (.load false 1 (oT 121)),oH 123 118 (.eql false false [.int] (oT 120) (oT 122)),oB 124 (.pick (oT 118) (oT 123) (.const ob)),oA 125 124,oH 126 125 (.faddr 8 (oT 1)),
 oH 127 125 (.load false 1 (oT 126)),oH 128 125 (.faddr 8 (oT 5)),oH 129 125 (.load false 1 (oT 128)),oH 130 125 (.eql false false [.int] (oT 127) (oT 129)),oB 131 (.pick (oT 125) (oT 130) (.const ob)),oA 132 131,oH 133 132 (.faddr 9 (oT 1)),oH 134 132 (.load false 1 (oT 133)),oH 135 132 (.len (oT 134)),oH 136 132 (.faddr 9 (oT 5)),oH 137 132 (.load false 1 (oT 136)),
 oH 138 132 (.len (oT 137)),oH 139 132 (.eql false false [.int] (oT 135) (oT 138)),oB 140 (.pick (oT 132) (oT 139) (.const ob)),oA 141 140,oH 142 141 (.faddr 10 (oT 1)),oH 143 141 (.load false 1 (oT 142)),oH 144 141 (.len (oT 143)),oH 145 141 (.mv (oT 3)),oH 146 141 (.cmp .geq (oT 144) (oT 145)),oB 147 (.pick (oT 141) (oT 146) (.const ob)),oA 148 147,oH 149 148 (.faddr 10 (oT 1)),
 oH 150 148 (.load false 1 (oT 149)),oH 151 148 (.len (oT 150)),oH 152 148 (.mv (oT 4)),oH 153 148 (.cmp .leq (oT 151) (oT 152)),oB 154 (.pick (oT 148) (oT 153) (.const ob)),oA 2 154] [2] [] (.ret))))))
def cQ:List aK:= [.tmp 2]
def Ip:List Nat:= [1,2029005,2028005,2027005,2026005,2037005,2036005,2045005,2044005,2068005,2067005,2066005]
theorem Id:aS Tryz.prog dU Ip cU cQ 155:=aA ay (by kernel_rfl)
def nW:CC:=oX [oB 2 (.box au true (oT 0)),oB 3 (.mv (.const ob))] [1,2] [] (oX [oD 4 11 2,oC 5 1 1,oZ 6 eV [oT 4,oT 5],oB 7 (.not (oT 6)),oA 3 7] [3] [] (.ret))
def nF:List aK:= [.tmp 3]
def B1:List Nat:= [2]
theorem BI:aS Tryz.prog fB B1 nW nF 8:=aA ay (by kernel_rfl)
def d7:CC:=oX [oB 4 (.mv (.const ob))] [0,1] [] (oX [oA 5 0,oA 6 1,oZ 7 dz [oT 5,oT 6],oB 8 (.cmp .geq (oT 7) (oN 0)),oA 4 8] [4] [] (.ret))
def d5:List aK:= [.tmp 4]
def mz:List Nat:= []
theorem mw:aS Tryz.prog cf mz d7 d5 9:=aA ay (by kernel_rfl)
-- slices_IndexFunc_Constraint range i=8 n=7 c=9 i2=18 id=0: live [0:s, 1:f] changed [] res []
def eO:CC:=oX [oB 4 (.mv (oN 0))] [0,1] [] (.seq (oX [oA 6 0,oB 7 (.len (oT 6)),oB 8 (.mv (oN 0))] [0,1,7,8] [] (bn 0 8 7 9 1 (oX [oA 10 8,oA 5 10] [0,1,5,7,8] [] (oX [oA 11 1,oA 12 0,oA 13 5,oB 14 (.iaddr 11 (oT 12) (oT 13)),oD 15 11 14,oB 16 (.callv (oT 11) [oT 15])] [0,1,5,7,8,16] [] (.ite (oT 16) (oX [oA 17 5,oA 4 17] [4] [] (.ret))
 (.skip)))) 18)) (.keep [] [] (oX [oB 4 (.mv (oN (-1)))] [4] [] (.ret))))
def eG:List aK:= [.tmp 4]
def nO:List Nat:= []
theorem nK:aS Tryz.prog dz nO eO eG 19:=aA ay (by kernel_rfl)
end Go.Gv

namespace Go.Gv
open Cod (enc dec)
open Go.Proofs
variable {S S0:Nat→Spc}
abbrev s_itoa:Spc:=cY (a1 Int) (fun x=> -10 < x∧x < 10) (enc (X:=B)) fun x y=> mb x=some y
abbrev EW:Spc:=cY (a2 Int Int) (fun x=> ∃u,A4 x.1 x.2=some u) (enc (X:=B)) fun x y=> A4 x.1 x.2=some y
theorem Er (h1:S bp=s_itoa):Walk dV dN S (a2 Int Int) (fun x=> ∃u,A4 x.1 x.2=some u) (enc (X:=B)) fun x y=> A4 x.1 x.2=some y:=by
 rintro⟨lo,hi⟩ ⟨u,hu⟩
 have hR:=hu
 simp only at hu hR
 have d0:mb 0=some ⟨#[48]⟩:=rfl
 have d1:mb 1=some ⟨#[49]⟩:=rfl
 have d2:mb 2=some ⟨#[50]⟩:=rfl
 have d3:mb 3=some ⟨#[51]⟩:=rfl
 unfold A4 at hu
 split at hu
 ·rename_i e
  obtain⟨rfl,rfl⟩:=e
  simp[dV,dN, -Bool.forall_bool, -Bool.exists_bool]
  rfl
 split at hu
 ·rename_i e
  obtain⟨rfl,rfl⟩:=e
  simp[dV,dN, -Bool.forall_bool, -Bool.exists_bool]
  rfl
 split at hu
 ·rename_i e
  obtain⟨rfl,rfl⟩:=e
  simp[dV,dN, -Bool.forall_bool, -Bool.exists_bool]
  rfl
 split at hu
 ·rename_i e
  obtain⟨rfl,rfl⟩:=e
  simp[dV,dN,h1,d2,ab, -Bool.forall_bool, -Bool.exists_bool]
  rfl
 split at hu
 ·rename_i e
  obtain⟨rfl,rfl⟩:=e
  simp[dV,dN,h1,d0,d2,ab, -Bool.forall_bool, -Bool.exists_bool]
  rfl
 split at hu
 ·rename_i e
  obtain⟨rfl,rfl⟩:=e
  simp[dV,dN,h1,d1,d3,ab, -Bool.forall_bool, -Bool.exists_bool]
  rfl
 split at hu
 ·rename_i e
  obtain⟨rfl,rfl⟩:=e
  simp[dV,dN,h1,d0,ab, -Bool.forall_bool, -Bool.exists_bool]
  rfl
 cases hu
abbrev JR (T:Cond→Option B):Spc:=QD 108 5 (a1 Pat) (.tup []) (LN T)
theorem CX (T:Cond→Option B) (h1:S be=qh T) (h2:S aa=s_wstr):nj a6 aZ S 108 5 (a1 Pat) (.tup []) (LN T):=by
 rintro b u v s ⟨op,⟨cop,cname,carg,cval,clab,cfold,ckids⟩,lab,reg,mn,mx,kids⟩ t ht hl
 obtain⟨q,hq,ht⟩:=Option.map_eq_some_iff.1 ht
 simp only at hq ht
 have hL:=jf
 have hop:cop=1∨cop=2∧cname=E0∨ ¬cop=1∧ ¬ (cop=2∧cname=E0):=by
  by_cases e1:cop=1
  ·exact .inl e1
  ·by_cases e2:cop=2∧cname=E0
   ·exact .inr (.inl e2)
   ·exact .inr (.inr ⟨e1,e2⟩)
 unfold bL at ht
 rcases hop with rfl | ⟨rfl,rfl⟩ | ⟨e1,e2⟩
 ·rw[if_pos (show jy _ from .inl rfl)] at ht
  by_cases hn:lab=E0
  ·rw[if_pos hn] at ht
   subst ht
   have hn':lab=⟨#[]⟩:=hn
   subst hn'
   simp[a6,aZ,E0,h1,h2,hl,hq,ag,ab, -Bool.forall_bool, -Bool.exists_bool]
   repeat' first | apply And.intro | intro _
   all_goals first | omega | (rename_i u' v';exact eI u' v' (by simp) (by simp[ByteArray.append_assoc]))
  ·rw[if_neg hn] at ht
   subst ht
   have hn': ¬lab=⟨#[]⟩:=hn
   simp only[ag,ab] at hl
   simp at hl
   simp[a6,aZ,E0,h1,h2,hn',hq,ag,ab, -Bool.forall_bool, -Bool.exists_bool]
   repeat' first | apply And.intro | intro _
   all_goals first | omega | (rename_i u' v';exact eI u' v' (by simp) (by simp[ByteArray.append_assoc]))
 ·rw[if_pos (show jy _ from .inr ⟨rfl,rfl⟩)] at ht
  have hq:T ⟨2,⟨#[]⟩,carg,cval,clab,cfold,ckids⟩=some q:=hq
  by_cases hn:lab=E0
  ·rw[if_pos hn] at ht
   subst ht
   have hn':lab=⟨#[]⟩:=hn
   subst hn'
   simp[a6,aZ,E0,h1,h2,hl,hq,ag,ab, -Bool.forall_bool, -Bool.exists_bool]
   repeat' first | apply And.intro | intro _
   all_goals first | omega | (rename_i u' v';exact eI u' v' (by simp) (by simp[ByteArray.append_assoc]))
  ·rw[if_neg hn] at ht
   subst ht
   have hn': ¬lab=⟨#[]⟩:=hn
   simp only[ag,ab] at hl
   simp at hl
   simp[a6,aZ,E0,h1,h2,hn',hq,ag,ab, -Bool.forall_bool, -Bool.exists_bool]
   repeat' first | apply And.intro | intro _
   all_goals first | omega | (rename_i u' v';exact eI u' v' (by simp) (by simp[ByteArray.append_assoc]))
 ·rw[if_neg (show ¬jy _ from fun h=> h.elim e1 e2)] at ht
  have e2':cop=2→ ¬cname=⟨#[]⟩:=fun h h'=> e2 ⟨h,h'⟩
  by_cases hn:lab=E0
  ·rw[if_pos hn] at ht
   subst ht
   have hn':lab=⟨#[]⟩:=hn
   subst hn'
   simp only[ag,ab] at hl
   simp at hl
   simp[a6,aZ,e1,h1,h2,hq,ag,ab, -Bool.forall_bool, -Bool.exists_bool]
   exact⟨fun h2=> ⟨fun h=> absurd h (e2' h2),fun _=> ⟨by omega,by omega,fun u1 v1=> ⟨by omega,fun u2 v2=> eI u2 v2 (by simp) (by simp[ByteArray.append_assoc])⟩⟩⟩,fun _=> ⟨by omega,by omega,fun u1 v1=> ⟨by omega,fun u2 v2=> eI u2 v2 (by simp) (by simp[ByteArray.append_assoc])⟩⟩⟩
  ·rw[if_neg hn] at ht
   subst ht
   have hn': ¬lab=⟨#[]⟩:=hn
   simp only[ag,ab] at hl
   simp at hl
   simp[a6,aZ,e1,h1,h2,hn',hq,ag,ab, -Bool.forall_bool, -Bool.exists_bool]
   exact⟨by omega,by omega,fun h2=> ⟨fun h=> absurd h (e2' h2),fun _=> ⟨by omega,by omega,fun u1 v1=> ⟨by omega,fun u2 v2=> eI u2 v2 (by simp) (by simp[ByteArray.append_assoc])⟩⟩⟩,fun _=> ⟨by omega,by omega,fun u1 v1=> ⟨by omega,fun u2 v2=> eI u2 v2 (by simp) (by simp[ByteArray.append_assoc])⟩⟩⟩
end Go.Gv

namespace Go.Proofs
open Go.Shelf
def Tryz.laysM171_ren:Go.Shelf.Ren:=⟨fun|171=>147|243=>173|246=>188|283=>196|284=>197|285=>198|286=>199|129=>214|317=>213|318=>215|319=>216|320=>217|337=>227|338=>228|n=>n,fun|3=>3|9=>9|2=>2|4=>4|171=>177|0=>0|53=>178|37=>50|5=>5|173=>181|212=>195|51=>196|20=>20|213=>197|46=>199|232=>210|233=>211|n=>n,fun|17=>1|18=>4|19=>5|n=>n⟩
theorem Tryz.laysM171:Go.Proofs.LaysM.n171 Tryz.prog Tryz.laysM171_ren:= {
 mixed:=by kernel_rfl
 f129:=by kernel_rfl
 f171:=by kernel_rfl
 f243:=by kernel_rfl
 f246:=by kernel_rfl
 f283:=by kernel_rfl
 f284:=by kernel_rfl
 f285:=by kernel_rfl
 f286:=by kernel_rfl
 f317:=by kernel_rfl
 f318:=by kernel_rfl
 f319:=by kernel_rfl
 f320:=by kernel_rfl
 f337:=by kernel_rfl
 f338:=by kernel_rfl
 t0:=Tryz.underlying0
 a0:=Tryz.isAgg0
 z0:=Tryz.sizeOf0
 v0:=Tryz.zeroValue0
 t2:=Tryz.underlying2
 a2:=Tryz.isAgg2
 z2:=Tryz.sizeOf2
 v2:=Tryz.zeroValue2
 t3:=Tryz.underlying3
 a3:=Tryz.isAgg3
 z3:=Tryz.sizeOf3
 v3:=Tryz.zeroValue3
 t4:=Tryz.underlying4
 a4:=Tryz.isAgg4
 z4:=Tryz.sizeOf4
 v4:=Tryz.zeroValue4
 t5:=Tryz.underlying5
 a5:=Tryz.isAgg5
 z5:=Tryz.sizeOf5
 v5:=Tryz.zeroValue5
 t9:=Tryz.underlying9
 a9:=Tryz.isAgg9
 z9:=Tryz.sizeOf9
 v9:=Tryz.zeroValue9
 t20:=Tryz.underlying20
 a20:=Tryz.isAgg20
 z20:=Tryz.sizeOf20
 v20:=Tryz.zeroValue20
 t37:=Tryz.underlying50
 a37:=Tryz.isAgg50
 z37:=Tryz.sizeOf50
 v37:=Tryz.zeroValue50
 t46:=Tryz.underlying199
 a46:=Tryz.isAgg199
 z46:=Tryz.sizeOf199
 v46:=Tryz.zeroValue199
 t51:=Tryz.underlying196
 a51:=Tryz.isAgg196
 z51:=Tryz.sizeOf196
 v51:=Tryz.zeroValue196
 t53:=Tryz.underlying178
 a53:=Tryz.isAgg178
 z53:=Tryz.sizeOf178
 v53:=Tryz.zeroValue178
 t171:=Tryz.underlying177
 a171:=Tryz.isAgg177
 z171:=Tryz.sizeOf177
 v171:=Tryz.zeroValue177
 t173:=Tryz.underlying181
 a173:=Tryz.isAgg181
 z173:=Tryz.sizeOf181
 v173:=Tryz.zeroValue181
 t212:=Tryz.underlying195
 a212:=Tryz.isAgg195
 z212:=Tryz.sizeOf195
 v212:=Tryz.zeroValue195
 t213:=Tryz.underlying197
 a213:=Tryz.isAgg197
 z213:=Tryz.sizeOf197
 t232:=Tryz.underlying210
 a232:=Tryz.isAgg210
 z232:=Tryz.sizeOf210
 v232:=Tryz.zeroValue210
 t233:=Tryz.underlying211
 a233:=Tryz.isAgg211
 z233:=Tryz.sizeOf211
 v233:=Tryz.zeroValue211
 g17:=by kernel_rfl
 g18:=by kernel_rfl
 g19:=by kernel_rfl
 i0:=by kernel_rfl
 i2:=by kernel_rfl
 i3:=by kernel_rfl
 i4:=by kernel_rfl
 i5:=by kernel_rfl
 i9:=by kernel_rfl
 i20:=by kernel_rfl
 i37:=by kernel_rfl
 i46:=by kernel_rfl
 i51:=by kernel_rfl
 i53:=by kernel_rfl
 i171:=by kernel_rfl
 i173:=by kernel_rfl
 i212:=by kernel_rfl
 i232:=by kernel_rfl
 i233:=by kernel_rfl
 m17:=by kernel_rfl
 m18:=by kernel_rfl
 m19:=by kernel_rfl }
end Go.Proofs

namespace Go.Gv
open Go.Proofs Go.RowKit Go.Lib
open Cod (enc dec)
theorem Yj {u:Nat} (h:u < 10):Lib.decDigits u= [UInt8.ofNat (48+u)]:=by
 rw[Lib.decDigits,dif_pos h]
theorem Mt {n:Int} (h: -10 < n∧n < 10):mb n=some ⟨(Lib.itoa n).toArray⟩:=by
 unfold mb Lib.itoa
 by_cases h0:0≤n
 ·rw[if_pos ⟨h0,h.2⟩,if_neg (by omega),Yj (by omega)]
  rw[show(48+n).toNat=48+n.toNat by omega]
 ·rw[if_neg (by omega),if_pos ⟨h.1,by omega⟩,if_pos (by omega),Yj (by omega)]
  rw[show(48+ -n).toNat=48+n.natAbs by omega]
  rfl
theorem vr:Tri Tryz.prog bp s_itoa.pt:=by
 refine EN (oa Tryz.func147 (by kernel_rfl) rfl) ?_
 intro tp I w vs x hp hG hI hl hr
 match vs,hl with
 | [v],_=>
   obtain rfl:=LG (hr 0 v (.v (.int .i64 x)) rfl (by simp))
   have htab : Lib.TabIs Tryz.prog w "internal/strconv.uint64pow10" .u64 Lib.pow10Tab := by
    obtain⟨el,z,hz⟩:=hG (1,(Lib.pow10Tab.map fun z=> Value.int .u64 z).toArray) (by simp[vC])
    have hn : Tryz.prog.globalNamed "internal/strconv.uint64pow10" = some 1 := by kernel_rfl
    unfold Lib.TabIs World.var?
    rw[hn]
    simp only[Option.bind_some,hz]
   have h9: (-9223372036854775808:Int)≤x:=by have:=hp.1;omega
   have h10:x≤(9223372036854775807:Int):=by have:=hp.2;omega
   refine(Any.strconv_Itoa Tryz.laysM171 x h9 h10 w htab).mono ?_
   rintro e w' ⟨rfl,k,os,rfl⟩
   have hmx: (⟨(Lib.itoa x).toArray⟩:ByteArray).size≤2:=by
    have:=Mt hp
    unfold mb at this
    split at this
    ·rw[←Option.some.inj this];exact Nat.le_of_ble_eq_true rfl
    ·split at this
     ·rw[←Option.some.inj this];exact Nat.le_refl 2
     ·cases this
   refine⟨_,⟨(Lib.itoa x).toArray⟩,rfl,Mt hp,fun tp' I'=> .str _ (by simp only[maxLen];omega),⟨rfl,rfl,rfl,?_,fun b hb=> ?_⟩,Nat.le_add_right _ _⟩
   ·show w.heap.size≤(w.heap++os).size
    simp
   ·show(w.heap++os)[b]?=w.heap[b]?
    exact Array.getElem?_append_left hb
end Go.Gv

namespace Go.Gv
open Cod (enc dec)
open Go.Proofs
variable {S S0:Nat→Spc}
def Yz (T:Pat→Option B) (g:Nat):List D→Option B:=if g=cR∨g=bh then rH T else fun _=> none
theorem yv (T:Pat→Option B) (h1:S aU=qf T):CW gE gA S 108 5 (Hm (rH T)) (.tup []):=by
 intro i b u v s ds t hi hg hl
 have hi': ¬900=i:=fun e=> hi e.symm
 unfold Hm at hg
 split at hg
 ·rename_i j b' cs
  split at hg
  ·rename_i he
   obtain⟨rfl,rfl⟩:=he
   unfold rH at hg
   split at hg
   ·rename_i h13
    obtain⟨p,hd,ht⟩:=Option.bind_eq_some_iff.1 hg
    have htk:List.take 13 cs=cs:=List.take_of_length_le (by omega)
    simp[gE,gA,h1,h13,htk,hd,ht,hi,hi',hl, -Bool.forall_bool, -Bool.exists_bool]
    exact fun u' v'=> CO u' v' (by simp) (by simp[hi'])
   ·cases hg
  ·cases hg
 ·cases hg
theorem sf {T:Pat→Option B} (h3:S aH=pL (Yz T)) {g:Nat} (hg:g=cR∨g=bh) {x:Pat} {tk:B} (hx:T x=some tk) {d b:Nat} {s0:B} {pb:Bool} {u2:Bool} {v2:Value} {H:ae} {K:D→ae→Prop}
 (g0:H 0=some (.tbox 108 b [.v (pv b u2), .own 900 v2])) (g9:H 900=some (.row v2 5 1 (bD s0))) (hl:s0.size+ (eX pb tk).size≤mi)
 (hK: ∀u3 v3,K (.tup []) (aq (aq H 900 (some (.row v3 5 1 (bD (s0++eX pb tk))))) 0 (some (.tbox 108 b [.v (pv b u3), .own 900 v3])))):
 (S aH).pt d [.bptr 0 b 0, .v (.bool pb), .clo g [.cptr [.bptr 0 b 0] 0, .cptr [D.v (Value.int IntKind.i64 x.op),D.v (Value.int IntKind.i64 x.cond.op),
   D.v (Value.string x.cond.name),D.v (Value.string x.cond.arg),D.v (Value.string x.cond.val),D.v (Value.string x.cond.lab),D.v (Value.bool x.cond.fold),D.list 7 (List.map enc x.cond.kids),
   D.v (Value.string x.lab),D.v (Value.string x.reg),D.v (Value.int IntKind.i64 x.mn),D.v (Value.int IntKind.i64 x.mx),D.list 13 (List.map enc x.kids)] 0]] H K:=by
 rw[h3]
 refine PQ _ _ _ _ _ _ _ _ _ ?_
 have hct:Yz T g [D.v (Value.int IntKind.i64 x.op),D.v (Value.int IntKind.i64 x.cond.op),
  D.v (Value.string x.cond.name),D.v (Value.string x.cond.arg),D.v (Value.string x.cond.val),D.v (Value.string x.cond.lab),D.v (Value.bool x.cond.fold),D.list 7 (List.map enc x.cond.kids),
  D.v (Value.string x.lab),D.v (Value.string x.reg),D.v (Value.int IntKind.i64 x.mn),D.v (Value.int IntKind.i64 x.mx),D.list 13 (List.map enc x.kids)]=some tk:=by
  unfold Yz
  rw[if_pos hg]
  simp[rH,hx]
 rw[hct,g0,g9]
 simp[-Bool.forall_bool, -Bool.exists_bool]
 exact⟨hl,hK⟩
theorem zs (C:Cond→Option B) (T:Pat→Option B) (h1:S cE=JR C) (h2:S aa=s_wstr) (h3:S ke=EW) (h4:S aH=pL (Yz T)):
 nj bd bc S 108 5 (a1 Pat) (.tup []) (oM C T):=by
 rintro b u v s ⟨op,cond,lab,reg,mn,mx,kids⟩ t ht hl
 have hL:=jf
 unfold oM at ht
 simp only at ht
 split at ht
 ·rename_i e
  subst e
  simp[bd,bc,h1,ht,hl, -Bool.forall_bool, -Bool.exists_bool]
  exact fun u' v'=> eI u' v' (by simp) (by simp)
 rename_i n1
 split at ht
 ·rename_i e
  subst e
  obtain rfl:=Option.some.inj ht
  simp only[ag,ab] at hl
  simp at hl
  simp[bd,bc,h2,ag,ab, -Bool.forall_bool, -Bool.exists_bool]
  refine⟨by omega,by omega,by omega,fun u' v'=> eI u' v' (by simp) (by simp)⟩
 rename_i n2
 split at ht
 ·rename_i e
  subst e
  obtain rfl:=Option.some.inj ht
  simp only[ag,ab] at hl
  simp at hl
  simp[bd,bc,h2,ag,ab, -Bool.forall_bool, -Bool.exists_bool]
  refine⟨by omega,by omega,by omega,fun u' v'=> eI u' v' (by simp) (by simp)⟩
 rename_i n3
 split at ht
 ·rename_i e
  subst e
  unfold TH at ht
  split at ht
  ·rename_i k
   obtain⟨q,hq,ht⟩:=Option.bind_eq_some_iff.1 ht
   obtain⟨w,hw,ht⟩:=Option.map_eq_some_iff.1 ht
   subst ht
   simp only[ag] at hl
   have hsf: ∃u,A4 mn mx=some u:=⟨w,hw⟩
   simp[bd,bc,n1,n2,n3, -Bool.forall_bool, -Bool.exists_bool]
   refine⟨fun h5=> ?_,fun h5=> ?_⟩
   ·have e: (decide (k.op=5) || decide (k.op=4))=decide (k.op=4):=by simp[h5]
    rw[e] at hl ⊢
    refine sf h4 (.inl rfl) hq (s0:=s) (u2:=u) (v2:=v) (by simp) (by simp) (by omega) fun u3 v3=> ?_
    simp[h2,h3,hsf,hw, -Bool.forall_bool, -Bool.exists_bool]
    exact⟨by omega,fun u' v'=> eI u' v' (by simp) (by simp[ByteArray.append_assoc])⟩
   ·have e: (decide (k.op=5) || decide (k.op=4))=true:=by simp[h5]
    rw[e] at hl ⊢
    refine sf h4 (.inl rfl) hq (s0:=s) (u2:=u) (v2:=v) (by simp) (by simp) (by omega) fun u3 v3=> ?_
    simp[h2,h3,hsf,hw, -Bool.forall_bool, -Bool.exists_bool]
    exact⟨by omega,fun u' v'=> eI u' v' (by simp) (by simp[ByteArray.append_assoc])⟩
  ·cases ht
 rename_i n6
 split at ht
 ·rename_i h78
  simp[bd,bc,n1,n2,n3,n6, -Bool.forall_bool, -Bool.exists_bool]
  intro hkl
  have hs78: (op=4∧zR op=⟨#[32]⟩)∨(op=5∧zR op=⟨#[32,124]⟩ ++ ⟨#[32]⟩):=by
   rcases h78 with rfl | rfl
   ·exact .inl ⟨rfl,rfl⟩
   ·exact .inr ⟨rfl,rfl⟩
  generalize zR op=sp at ht hs78
  refine aw (X:=Bool×Value×B×B) [2,3,10] [] kids.length (fun k x=> dn sp (lE op) T k (kids.drop k)=some x.2.2.2∧x.2.2.1++x.2.2.2=t) (fun x=> []) (fun x=> [(0, .tbox 108 b [.v (pv b x.1), .own 900 x.2.1]),(900, .row x.2.1 5 1 (bD (s++x.2.2.1)))]) (u,v,E0,t) (by simp) (by simp) (by omega) (by simp) (by simp) ?_ (by simp) (by simp[E0,aQ]) ?_ ?_
  ·exact⟨ht,by simp[E0,dr]⟩
  ·rintro k ⟨u1,v1,acc,r⟩ hk ⟨q1,q2⟩
   simp only at q1 q2
   obtain⟨x,hx⟩:=cz hk
   obtain⟨_,hgx⟩:=List.getElem?_eq_some_iff.1 hx
   obtain⟨tk,r',c1,c2,rfl⟩:=j8 hx q1
   have hl2:=hl
   rw[←q2] at hl2
   simp only[ag] at hl2
   have key: ∀ (pb:Bool) (s1:B),pb=lE op x→s1=acc++ (if k=0 then E0 else sp)→(s++s1).size+ (eX pb tk).size≤mi∧ ∃y,dn sp (lE op) T (k+1) (List.drop (k+1) kids)=some y∧(s1++eX pb tk) ++y=t:=by
    rintro pb s1 rfl rfl
    refine⟨by rw[ag,ag];omega,r',c2,?_⟩
    rw[←q2]
    simp only[ByteArray.append_assoc]
   by_cases hk0:k=0
   ·have hk1: ¬0 < k:=by omega
    have ks:=fun pb e=> key pb acc e (by rw[if_pos hk0,E0,aQ])
    simp[hk,hx,hgx,h2,hk1,ab, -Bool.forall_bool, -Bool.exists_bool]
    refine⟨fun h8=> ⟨fun h7=> ?_,fun h7=> ?_⟩,fun h8=> ?_⟩
    ·have kk:=ks (decide (op=4)) (by simp[lE,h7,h8])
     exact sf h4 (.inr rfl) c1 (s0:=s++acc) (u2:=u1) (v2:=v1) (by simp) (by simp) kk.1 fun u3 v3=> ⟨u3,v3,acc++eX (decide (op=4)) tk,kk.2, .inl (by simp), .inl (by simp[ByteArray.append_assoc])⟩
    ·have kk:=ks false (by simp[lE,h7,h8])
     exact sf h4 (.inr rfl) c1 (s0:=s++acc) (u2:=u1) (v2:=v1) (by simp) (by simp) kk.1 fun u3 v3=> ⟨u3,v3,acc++eX false tk,kk.2, .inl (by simp), .inl (by simp[ByteArray.append_assoc])⟩
    ·have kk:=ks true (by simp[lE,h8])
     exact sf h4 (.inr rfl) c1 (s0:=s++acc) (u2:=u1) (v2:=v1) (by simp) (by simp) kk.1 fun u3 v3=> ⟨u3,v3,acc++eX true tk,kk.2, .inl (by simp), .inl (by simp[ByteArray.append_assoc])⟩
   ·have hk1:0 < k:=by omega
    rw[if_neg hk0] at hl2
    have ks:=fun pb e=> key pb (acc++sp) e (by rw[if_neg hk0])
    rcases hs78 with⟨rfl,hsp⟩ | ⟨rfl,hsp⟩
    ·have hsz:sp.size=1:=by rw[hsp];rfl
     simp[hk,hx,hgx,h2,hk1,ab, -Bool.forall_bool, -Bool.exists_bool]
     refine⟨by omega,fun u2 v2=> ⟨fun h8=> ⟨fun h7=> ?_,fun h7=> ?_⟩,fun h8=> ?_⟩⟩
     ·have kk:=ks true (by simp[lE,h7,h8])
      exact sf h4 (.inr rfl) c1 (s0:=s++ (acc++sp)) (u2:=u2) (v2:=v2) (by simp) (by simp[hsp,ByteArray.append_assoc]) kk.1 fun u3 v3=> ⟨u3,v3,acc++sp++eX true tk,kk.2, .inl (by simp), .inl (by simp[ByteArray.append_assoc])⟩
     ·have kk:=ks false (by simp[lE,h7,h8])
      exact sf h4 (.inr rfl) c1 (s0:=s++ (acc++sp)) (u2:=u2) (v2:=v2) (by simp) (by simp[hsp,ByteArray.append_assoc]) kk.1 fun u3 v3=> ⟨u3,v3,acc++sp++eX false tk,kk.2, .inl (by simp), .inl (by simp[ByteArray.append_assoc])⟩
     ·have kk:=ks true (by simp[lE,h8])
      exact sf h4 (.inr rfl) c1 (s0:=s++ (acc++sp)) (u2:=u2) (v2:=v2) (by simp) (by simp[hsp,ByteArray.append_assoc]) kk.1 fun u3 v3=> ⟨u3,v3,acc++sp++eX true tk,kk.2, .inl (by simp), .inl (by simp[ByteArray.append_assoc])⟩
    ·have hsz:sp.size=3:=by rw[hsp];rfl
     simp[hk,hx,hgx,h2,hk1,ab,ag, -Bool.forall_bool, -Bool.exists_bool]
     refine⟨by omega,by omega,fun u2 v2=> ⟨fun h8=> ?_,fun h8=> ?_⟩⟩
     ·have kk:=ks false (by simp[lE,h8])
      exact sf h4 (.inr rfl) c1 (s0:=s++ (acc++sp)) (u2:=u2) (v2:=v2) (by simp) (by simp[hsp,ByteArray.append_assoc]) kk.1 fun u3 v3=> ⟨u3,v3,acc++sp++eX false tk,kk.2, .inl (by simp), .inl (by simp[ByteArray.append_assoc])⟩
     ·have kk:=ks true (by simp[lE,h8])
      exact sf h4 (.inr rfl) c1 (s0:=s++ (acc++sp)) (u2:=u2) (v2:=v2) (by simp) (by simp[hsp,ByteArray.append_assoc]) kk.1 fun u3 v3=> ⟨u3,v3,acc++sp++eX true tk,kk.2, .inl (by simp), .inl (by simp[ByteArray.append_assoc])⟩
  ·rintro⟨u1,v1,acc,r⟩ ⟨q1,q2⟩
   simp only at q1 q2
   simp
   rw[List.drop_length,dn] at q1
   obtain rfl:=Option.some.inj q1
   refine eI u1 v1 (by simp) ?_
   rw[←q2]
   simp[E0,aQ]
 ·cases ht
end Go.Gv
