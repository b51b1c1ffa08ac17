/- A part of the framework and of the walks: C2 C71 Sh24b C69 W158 C60 V56 W161 V57 W1 W10 W11 W12 W4 W5 W6 W7 W8 W13 W162 V4 V11. -/
import Derived.Shelf.SlGeneric
import Derived.Shelf.SlLaysF0
import Derived.Shelf.SlMaps.Clone
import Derived.Ground.SlsfProg
import Derived.Ground.SlmcProg
import Derived.Test.YtphdikcommfnhaaGreatDoorProg
import Derived.Test.YtphdikcommfnhaaGreatDoorGa22
import Derived.Test.YtphdikcommfnhaaGreatDoorGa32
import Derived.Test.YtphdikcommfnhaaGreatDoorGa25
import Derived.Test.YtphdikcommfnhaaGreatDoorGa29
import Derived.Test.YtphdikcommfnhaaGreatDoorGa28
import Derived.Test.YtphdikcommfnhaaGreatDoorGa19
import Derived.Test.YtphdikcommfnhaaGreatDoorGa24
import Derived.Test.YtphdikcommfnhaaGreatDoorGa21
set_option linter.unusedSimpArgs false
set_option linter.unusedVariables false
set_option maxRecDepth 100000

namespace Go.Gv
open Go.Proofs
def jF:CC:=oX [oB 2 (.mv (.const ob))] [0] [] (.seq (oX [oA 4 0,oB 5 (.slen (oT 4)),oB 6 (.cmp .lss (oT 5) (oN 1)),oA 7 6,oI 8 7 (.mv (oT 0)),oI 9 7 (.slen (oT 8)),oI 10 7 (.cmp .gtr (oT 9) (oN 32)),oB 11 (.pick (oT 7) (.const (.bool true)) (oT 10)),oA 12 11,oI 13 12 (.mv (oT 0)),oI 14 12 (.sidx (oT 13) (oN 0)),oI 15 12 (.call a8 [oT 14]),
 oI 16 12 (.not (oT 15)),oB 17 (.pick (oT 12) (.const (.bool true)) (oT 16))] [0,17] [] (.ite (oT 17) (oX [oB 2 (.mv (.const ob))] [2] [] (.ret)) (.skip))) (.keep [0] [] (.seq (oX [oA 18 0,oB 19 (.slen (oT 18)),oB 20 (.mv (oN 0))] [0,19,20] [] (aP 0 20 19 21 1 (oX [oA 22 20,oA 3 22] [0,3,19,20] [] (oX [oA 23 0,oA 24 3,oB 25 (.sidx (oT 23) (oT 24)),oZ 26 ct [oT 25],
 oB 27 (.not (oT 26))] [0,19,20,27] [] (.ite (oT 27) (oX [oB 2 (.mv (.const ob))] [2] [] (.ret)) (.skip)))) 28)) (.keep [] [] (oX [oB 2 (.mv (.const (.bool true)))] [2] [] (.ret))))))
def jt:List ar:= [.tmp 2]
def vR:List Nat:= []
theorem vI:ay Tryz.prog aW vR jF jt 29:=ak mixed (by kernel_rfl)
def m6:CC:=oX [oB 2 (.mv (.const ob))] [0] [] (oX [oA 3 0,oB 4 (.cmp .geq (oT 3) (.const (.int .u8 65))),oA 5 4,oH 6 5 (.mv (oT 0)),oH 7 5 (.cmp .leq (oT 6) (.const (.int .u8 90))),oB 8 (.pick (oT 5) (oT 7) (.const ob)),oA 9 8,oI 10 9 (.mv (oT 0)),oI 11 9 (.cmp .geq (oT 10) (.const (.int .u8 97))),oI 12 9 (.mv (oT 11)),oH 13 12 (.mv (oT 0)),
 oH 14 12 (.cmp .leq (oT 13) (.const (.int .u8 122))),oI 15 9 (.pick (oT 12) (oT 14) (.const ob)),oB 16 (.pick (oT 9) (.const (.bool true)) (oT 15)),oA 17 16,oI 18 17 (.mv (oT 0)),oI 19 17 (.eql false false [.int] (oT 18) (.const (.int .u8 95))),oB 20 (.pick (oT 17) (.const (.bool true)) (oT 19)),oA 2 20] [2] [] (.ret))
def mM:List ar:= [.tmp 2]
def Bl:List Nat:= []
theorem A1:ay Tryz.prog a8 Bl m6 mM 21:=ak mixed (by kernel_rfl)
def m5:CC:=oX [oB 2 (.mv (.const ob))] [0] [] (oX [oA 3 0,oZ 4 a8 [oT 3],oA 5 4,oI 6 5 (.mv (oT 0)),oI 7 5 (.cmp .geq (oT 6) (.const (.int .u8 48))),oI 8 5 (.mv (oT 7)),oH 9 8 (.mv (oT 0)),oH 10 8 (.cmp .leq (oT 9) (.const (.int .u8 57))),oI 11 5 (.pick (oT 8) (oT 10) (.const ob)),oB 12 (.pick (oT 5) (.const (.bool true)) (oT 11)),oA 13 12,
 oI 14 13 (.mv (oT 0)),oI 15 13 (.eql false false [.int] (oT 14) (.const (.int .u8 45))),oB 16 (.pick (oT 13) (.const (.bool true)) (oT 15)),oA 2 16] [2] [] (.ret))
def mL:List ar:= [.tmp 2]
def Bk:List Nat:= []
theorem A0:ay Tryz.prog ct Bk m5 mL 17:=ak mixed (by kernel_rfl)
def mW:CC:=oX [oB 2 (.box aq true (oT 0)),oB 3 (.box fV true (oT 1)),oB 4 (.mv (.const ob))] [2,3] [] (oX [oC 5 1 3,oB 6 (.cmp .leq (oT 5) (oN 100)),oA 7 6,oH 8 7 (.faddr 12 (oT 2)),oH 9 7 (.load false 1 (oT 8)),oH 10 7 (.clo d7 [oT 3]),oH 11 7 (.call aB [oT 9,oT 10]),oH 12 7 (.not (oT 11)),
 oB 13 (.pick (oT 7) (oT 12) (.const ob)),oA 4 13] [4] [] (.ret))
def mG:List ar:= [.tmp 4]
def kO:CC:=oX [oB 2 (.box aq true (oT 0)),oB 3 (.mv (.const ob))] [1,2] [] (oX [oD 4 13 2,oC 5 1 1,oB 6 (.arith .add (oT 5) (oN 1)),oZ 7 cR [oT 4,oT 6],oB 8 (.not (oT 7)),oA 3 8] [3] [] (.ret))
def kB:List ar:= [.tmp 3]
def re:CC:=oX [oB 1 (.box cQ true (oT 0)),oB 2 (.mv (.const ob))] [1] [] (oX [oE 3 0 1,oC 4 1 3,oB 5 (.eql false false [.int] (oT 4) (oN 0)),oA 6 5,oH 7 6 (.faddr 1 (oT 1)),oH 8 6 (.load false 1 (oT 7)),oH 9 6 (.eql false false [.str] (oT 8) (oS ⟨#[]⟩)),oB 10 (.pick (oT 6) (oT 9) (.const ob)),oA 11 10,oH 12 11 (.faddr 2 (oT 1)),oH 13 11 (.load false 1 (oT 12)),
 oH 14 11 (.eql false false [.str] (oT 13) (oS ⟨#[]⟩)),oB 15 (.pick (oT 11) (oT 14) (.const ob)),oA 16 15,oH 17 16 (.faddr 3 (oT 1)),oH 18 16 (.load false 1 (oT 17)),oH 19 16 (.eql false false [.str] (oT 18) (oS ⟨#[]⟩)),oB 20 (.pick (oT 16) (oT 19) (.const ob)),oA 21 20,oH 22 21 (.faddr 4 (oT 1)),oH 23 21 (.load false 1 (oT 22)),oH 24 21 (.eql false false [.str] (oT 23) (oS ⟨#[]⟩)),
 oB 25 (.pick (oT 21) (oT 24) (.const ob)),oA 26 25,oH 27 26 (.faddr 5 (oT 1)),oH 28 26 (.load false 1 (oT 27)),oH 29 26 (.not (oT 28)),oB 30 (.pick (oT 26) (oT 29) (.const ob)),oA 31 30,oH 32 31 (.faddr 6 (oT 1)),oH 33 31 (.load false 1 (oT 32)),oH 34 31 (.len (oT 33)),oH 35 31 (.eql false false [.int] (oT 34) (oN 0)),oB 36 (.pick (oT 31) (oT 35) (.const ob)),oA 2 36] [2] [] (.ret))
def qR:List ar:= [.tmp 2]
def ri:CC:=oX [oB 1 (.box aq true (oT 0)),oB 2 (.mv (.const ob))] [1] [] (oX [oB 3 (.mv (.const ob)),oB 4 (.mv (.const ob)),oB 5 (.mv (.const ob))] [1,3,4,5] [] (oX [oB 6 (.mv (oN 0)),oB 7 (.mv (oN 0))] [1,3,4,5,6,7] [] (.seq (oX [oE 8 0 1,oC 9 1 8] [1,3,4,5,6,7,9] [] (.block 0 (oX [oB 11 (.eql false false [.int] (oT 9) (oN 1)),
 oA 10 11] [1,3,4,5,6,7,9,10] [] (.ite (oT 10) (.reg [oB 3 (.mv (.const (.bool true)))]) (.seq (oX [oB 13 (.eql false false [.int] (oT 9) (oN 2)),oA 12 13] [1,3,4,5,6,7,9,12] [] (.ite (oT 12) (.skip) (.reg [oB 14 (.eql false false [.int] (oT 9) (oN 3)),oA 12 14]))) (.keep [1,3,4,5,6,7,9,12] [] (.ite (oT 12) (.reg [oB 4 (.mv (.const (.bool true)))]) (.seq (oX [
 oB 16 (.eql false false [.int] (oT 9) (oN 4)),oA 15 16] [1,3,4,5,9,15] [] (.ite (oT 15) (.skip) (.reg [oB 17 (.eql false false [.int] (oT 9) (oN 5)),oA 15 17]))) (.keep [1,3,4,5,9,15] [] (.ite (oT 15) (.regd [oE 18 12 1,oC 19 1 18,oB 20 (.len (oT 19)),oB 6 (.mv (oN 2))] [oA 7 20]) (oX [oB 22 (.eql false false [.int] (oT 9) (oN 6)),oA 21 22] [1,3,4,21] [] (.ite (oT 21) (oX [
 oB 5 (.mv (.const (.bool true)))] [1,3,4,5] [] (.reg [oB 6 (.mv (oN 1)),oB 7 (.mv (oN 1))])) (oX [oB 2 (.mv (.const ob))] [2] [] (.ret)))))))))))))) (.keep [1,3,4,5,6,7] [] (oX [oA 23 3,oA 24 23,oI 25 24 (.faddr 1 (oT 1)),oI 26 24 (.load true 7 (oT 25)),oI 27 24 (.call lR [oT 26]),oI 28 24 (.mv (oT 27)),oH 29 28 (.faddr 8 (oT 1)),oH 30 28 (.load false 1 (oT 29)),
 oH 31 28 (.eql false false [.str] (oT 30) (oS ⟨#[]⟩)),oI 32 24 (.pick (oT 28) (oT 31) (.const ob)),oB 33 (.pick (oT 24) (.const (.bool true)) (oT 32)),oA 34 33,oH 35 34 (.mv (oT 4)),oH 36 34 (.mv (oT 35)),oI 37 36 (.faddr 9 (oT 1)),oI 38 36 (.load false 1 (oT 37)),oI 39 36 (.eql false false [.str] (oT 38) (oS ⟨#[]⟩)),oH 40 34 (.pick (oT 36) (.const (.bool true)) (oT 39)),
 oB 41 (.pick (oT 34) (oT 40) (.const ob)),oA 42 41,oH 43 42 (.mv (oT 5)),oH 44 42 (.mv (oT 43)),oI 45 44 (.faddr 10 (oT 1)),oI 46 44 (.load false 1 (oT 45)),oI 47 44 (.eql false false [.int] (oT 46) (oN 0)),oI 48 44 (.mv (oT 47)),oH 49 48 (.faddr 11 (oT 1)),oH 50 48 (.load false 1 (oT 49)),oH 51 48 (.eql false false [.int] (oT 50) (oN 0)),oI 52 44 (.pick (oT 48) (oT 51) (.const ob)),
 oH 53 42 (.pick (oT 44) (.const (.bool true)) (oT 52)),oB 54 (.pick (oT 42) (oT 53) (.const ob)),oA 55 54,oH 56 55 (.faddr 12 (oT 1)),oH 57 55 (.load false 1 (oT 56)),oH 58 55 (.len (oT 57)),oH 59 55 (.mv (oT 6)),oH 60 55 (.cmp .geq (oT 58) (oT 59)),oB 61 (.pick (oT 55) (oT 60) (.const ob)),oA 62 61,oH 63 62 (.faddr 12 (oT 1)),oH 64 62 (.load false 1 (oT 63)),oH 65 62 (.len (oT 64)),
 oH 66 62 (.mv (oT 7)),oH 67 62 (.cmp .leq (oT 65) (oT 66)),oB 68 (.pick (oT 62) (oT 67) (.const ob)),oA 2 68] [2] [] (.ret))))))
def qU:List ar:= [.tmp 2]
def pW:CC:=oX [oB 2 (.box aq true (oT 0)),oB 3 (.box uc true (oT 1)),oB 4 (.mv (.const ob))] [2,3] [] (oX [oC 5 1 3,oD 6 13 2,oB 7 (.callv (oT 5) [oT 6]),oA 8 7,oH 9 8 (.faddr 12 (oT 2)),oH 10 8 (.load false 1 (oT 9)),oH 11 8 (.clo fe [oT 3]),oH 12 8 (.call aB [oT 10,oT 11]),oH 13 8 (.not (oT 12)),
 oB 14 (.pick (oT 8) (oT 13) (.const ob)),oA 4 14] [4] [] (.ret))
def pr:List ar:= [.tmp 4]
def mX:CC:=oX [oB 2 (.box aq true (oT 0)),oB 3 (.mv (.const ob))] [1,2] [] (oX [oD 4 13 2,oC 5 1 1,oZ 6 bw [oT 4,oT 5],oB 7 (.not (oT 6)),oA 3 7] [3] [] (.ret))
def mH:List ar:= [.tmp 3]
def pV:CC:=oX [oB 1 (.box aq true (oT 0)),oB 2 (.mv (.const ob))] [1] [] (oX [oE 4 0 1,oC 5 1 4,oB 6 (.eql false false [.int] (oT 5) (oN 2)),oA 7 6,oI 8 7 (.faddr 0 (oT 1)),oI 9 7 (.load false 1 (oT 8)),oI 10 7 (.eql false false [.int] (oT 9) (oN 3)),oB 11 (.pick (oT 7) (.const (.bool true)) (oT 10)),oA 3 11] [1,3] [] (oX [oA 12 3,oB 13 (.not (oT 12)),
 oA 14 13,oI 15 14 (.faddr 9 (oT 1)),oI 16 14 (.load false 1 (oT 15)),oI 17 14 (.call aW [oT 16]),oB 18 (.pick (oT 14) (.const (.bool true)) (oT 17)),oA 19 18,oH 20 19 (.faddr 8 (oT 1)),oH 21 19 (.load false 1 (oT 20)),oH 22 19 (.eql false false [.str] (oT 21) (oS ⟨#[]⟩)),oH 23 19 (.mv (oT 22)),oI 24 23 (.faddr 8 (oT 1)),oI 25 23 (.load false 1 (oT 24)),
 oI 26 23 (.call aW [oT 25]),oH 27 19 (.pick (oT 23) (.const (.bool true)) (oT 26)),oB 28 (.pick (oT 19) (oT 27) (.const ob)),oA 2 28] [2] [] (.ret)))
def pq:List ar:= [.tmp 2]
def nV:CC:=oX [oB 1 (.box aq true (oT 0)),oB 2 (.mv (.const ob))] [1] [] (oX [oE 3 0 1,oC 4 1 3,oB 5 (.eql true false [.int] (oT 4) (oN 6)),oA 6 5,oI 7 6 (.faddr 10 (oT 1)),oI 8 6 (.load false 1 (oT 7)),oI 9 6 (.cmp .geq (oT 8) (oN 0)),oI 10 6 (.mv (oT 9)),oH 11 10 (.faddr 10 (oT 1)),oH 12 10 (.load false 1 (oT 11)),oH 13 10 (.cmp .leq (oT 12) (oN 16)),
 oI 14 6 (.pick (oT 10) (oT 13) (.const ob)),oI 15 6 (.mv (oT 14)),oH 16 15 (.faddr 11 (oT 1)),oH 17 15 (.load false 1 (oT 16)),oH 18 15 (.eql false false [.int] (oT 17) (oN (-1))),oH 19 15 (.mv (oT 18)),oI 20 19 (.faddr 11 (oT 1)),oI 21 19 (.load false 1 (oT 20)),oI 22 19 (.faddr 10 (oT 1)),oI 23 19 (.load false 1 (oT 22)),oI 24 19 (.cmp .geq (oT 21) (oT 23)),oI 25 19 (.mv (oT 24)),
 oH 26 25 (.faddr 11 (oT 1)),oH 27 25 (.load false 1 (oT 26)),oH 28 25 (.cmp .leq (oT 27) (oN 16)),oI 29 19 (.pick (oT 25) (oT 28) (.const ob)),oH 30 15 (.pick (oT 19) (.const (.bool true)) (oT 29)),oI 31 6 (.pick (oT 15) (oT 30) (.const ob)),oB 32 (.pick (oT 6) (.const (.bool true)) (oT 31)),oA 2 32] [2] [] (.ret))
def nM:List ar:= [.tmp 2]
def pZ:CC:=oX [oB 1 (.box aq true (oT 0)),oB 2 (.mv (.const ob))] [1] [] (oX [oD 3 13 1,oZ 4 cR [oT 3,oN 1],oA 5 4,oH 6 5 (.load true 13 (oT 1)),oH 7 5 (.call bw [oT 6,.func gE]),oB 8 (.pick (oT 5) (oT 7) (.const ob)),oA 2 8] [2] [] (.ret))
def pw:List ar:= [.tmp 2]
def pU:CC:=oX [oB 1 (.box aq true (oT 0)),oB 2 (.mv (.const ob))] [1] [] (oX [oD 3 13 1,oZ 4 eF [oT 3],oA 5 4,oH 6 5 (.load true 13 (oT 1)),oH 7 5 (.call bw [oT 6,.func c8]),oB 8 (.pick (oT 5) (oT 7) (.const ob)),oA 9 8,oH 10 9 (.load true 13 (oT 1)),oH 11 9 (.call bw [oT 10,.func cO]),
 oB 12 (.pick (oT 9) (oT 11) (.const ob)),oA 2 12] [2] [] (.ret))
def pp:List ar:= [.tmp 2]
def rf:CC:=oX [oB 1 (.box aq true (oT 0)),oB 2 (.mv (oN 0))] [1] [] (oX [oB 3 (.mv (oN 0))] [1,3] [] (.seq (oX [oE 6 12 1,oC 7 1 6,oB 8 (.len (oT 7)),oB 9 (.mv (oN 0))] [1,3,7,8,9] [] (aP 0 9 8 10 1 (oX [oB 11 (.iaddr 13 (oT 7) (oT 9)),oD 12 13 11,oB 5 (.alloc aq [oi,oi,oe,oe,oe,oe,ob,on,oe,oe,oi,oi,on]),oF 13 5 12] [1,3,5,7,8,9] [5] (.reg [oA 13 3,
 oD 14 13 5,oZ 15 ew [oT 14],oB 16 (.arith .add (oT 13) (oT 15)),oB 17 (.mm false [oT 16,oN 1000]),oA 3 17])) 18)) (.keep [1,3] [] (.seq (.block 2 (oX [oE 20 12 1,oC 21 1 20,oB 22 (.len (oT 21)),oB 23 (.eql false false [.int] (oT 22) (oN 0)),oA 19 23] [1,3,19] [] (.ite (oT 19) (oX [oB 2 (.mv (oN 1))] [2] [] (.ret)) (oX [oE 25 0 1,oC 26 1 25,
 oB 27 (.eql true false [.int] (oT 26) (oN 6)),oA 28 27,oI 29 28 (.faddr 11 (oT 1)),oI 30 28 (.load false 1 (oT 29)),oI 31 28 (.eql false false [.int] (oT 30) (oN 0)),oB 32 (.pick (oT 28) (.const (.bool true)) (oT 31)),oA 24 32] [1,3,24] [] (.ite (oT 24) (oX [oA 33 3,oA 2 33] [2] [] (.ret)) (oX [oE 35 11 1,oC 36 1 35,oB 37 (.cmp .lss (oT 36) (oN 0)),
 oA 34 37] [1,3,34] [] (.ite (oT 34) (oX [oA 38 3,oE 39 10 1,oC 40 1 39,oB 41 (.arith .add (oT 40) (oN 1)),oB 42 (.arith .mul (oT 38) (oT 41)),oB 43 (.mm false [oT 42,oN 1000]),oA 2 43] [2] [] (.ret)) (.skip)))))))) (.keep [1,3] [] (oX [oA 44 3,oE 45 11 1,oC 46 1 45,oB 47 (.arith .mul (oT 44) (oT 46)),oB 48 (.mm false [oT 47,oN 1000]),oA 2 48] [2] [] (.ret)))))))
def qS:List ar:= [.tmp 2]
def dC:CC:=oX [oB 4 (.mv (.const ob))] [0,1] [] (oX [oA 5 0,oA 6 1,oZ 7 db [oT 5,oT 6],oB 8 (.cmp .geq (oT 7) (oN 0)),oA 4 8] [4] [] (.ret))
def dw:List ar:= [.tmp 4]
def ez:CC:=oX [oB 4 (.mv (oN 0))] [0,1] [] (.seq (oX [oA 6 0,oB 7 (.len (oT 6)),oB 8 (.mv (oN 0))] [0,1,7,8] [] (aP 0 8 7 9 1 (oX [oA 10 8,oA 5 10] [0,1,5,7,8] [] (oX [oA 11 1,oA 12 0,oA 13 5,oB 14 (.iaddr 13 (oT 12) (oT 13)),oD 15 13 14,oB 16 (.callv (oT 11) [oT 15])] [0,1,5,7,8,16] [] (.ite (oT 16) (oX [oA 17 5,oA 4 17] [4] [] (.ret))
 (.skip)))) 18)) (.keep [] [] (oX [oB 4 (.mv (oN (-1)))] [4] [] (.ret))))
def eq:List ar:= [.tmp 4]
end Go.Gv

namespace Go.Gv
open Go.Proofs
def GQ:List Nat:= []
theorem GH:ay Tryz.prog lV GQ rk qW 18:=ak mixed (by kernel_rfl)
def xH:List Nat:= []
theorem xc:ay Tryz.prog cg xH kT kG 20:=ak mixed (by kernel_rfl)
def Bo:List Nat:= []
theorem A4:ay Tryz.prog ff Bo m8 mO 6:=ak mixed (by kernel_rfl)
def Bn:List Nat:= [2]
theorem A3:ay Tryz.prog gX Bn m7 mN 27:=ak mixed (by kernel_rfl)
def Be:List Nat:= [3,2]
theorem AV:ay Tryz.prog cR Be mW mG 14:=ak mixed (by kernel_rfl)
def xu:List Nat:= [2]
theorem wX:ay Tryz.prog d7 xu kO kB 9:=ak mixed (by kernel_rfl)
def GK:List Nat:= [1]
theorem GB:ay Tryz.prog lR GK re qR 37:=ak mixed (by kernel_rfl)
def GN:List Nat:= [1]
theorem GE:ay Tryz.prog gE GN ri qU 69:=ak mixed (by kernel_rfl)
def E6:List Nat:= [3,2]
theorem EC:ay Tryz.prog bw E6 pW pr 15:=ak mixed (by kernel_rfl)
def Bf:List Nat:= [2]
theorem AW:ay Tryz.prog fe Bf mX mH 8:=ak mixed (by kernel_rfl)
def E5:List Nat:= [1]
theorem EB:ay Tryz.prog c8 E5 pV pq 29:=ak mixed (by kernel_rfl)
def CT:List Nat:= [1]
theorem CL:ay Tryz.prog cO CT nV nM 33:=ak mixed (by kernel_rfl)
def E9:List Nat:= [1]
theorem EF:ay Tryz.prog eF E9 pZ pw 9:=ak mixed (by kernel_rfl)
def E4:List Nat:= [1]
theorem EA:ay Tryz.prog jT E4 pU pp 13:=ak mixed (by kernel_rfl)
def GL:List Nat:= [1]
theorem GC:ay Tryz.prog ew GL rf qS 49:=ak mixed (by kernel_rfl)
def mT:List Nat:= []
theorem mQ:ay Tryz.prog aB mT dC dw 9:=ak mixed (by kernel_rfl)
def ow:List Nat:= []
theorem ot:ay Tryz.prog db ow ez eq 19:=ak mixed (by kernel_rfl)
theorem zg:ay Tryz.prog a8 zI mj lF 21:=ak mixed (by kernel_rfl)
theorem zf:ay Tryz.prog ct zH mi lE 17:=ak mixed (by kernel_rfl)
theorem uy:ay Tryz.prog aW uQ iW iE 29:=ak mixed (by kernel_rfl)
end Go.Gv

namespace Go.Proofs
open Go.Shelf
def Tryz.sortMatch_ren:Go.Shelf.Ren:=⟨fun | 6=> 83 | 15=> 136 | 14=> 135 | 28=> 194 | 29=> 195 | 20=> 186 | 21=> 187 | 22=> 188 | 23=> 189 | 24=> 190 | 25=> 191 | 26=> 192 | 27=> 193 | 46=> 230 | 47=> 231 | 48=> 232 | 49=> 233 | 50=> 234 | 57=> 268 | n=> n,fun | 22=> 47 | 24=> 55 | 25=> 56 | 3=> 3 | 39=> 190 | 0=> 0 | 53=> 239 | 55=> 241 | 4=> 4 | 46=> 232 | 45=> 231 | 50=> 236 | 5=> 5 | 9=> 9 | 66=> 269 | 70=> 273 | 76=> 298 | 77=> 67 | n=> n,fun | n=> n⟩
theorem Tryz.sortMatch:Go.Proofs.SlLaysF0.n6 Tryz.prog Tryz.sortMatch_ren:= {
 mixed:=by kernel_rfl
 f6:=⟨Tryz.f83.name,by decide,Tryz.func83.trans (congrArg some (by kernel_rfl))⟩
 f14:=⟨Tryz.f135.name,by decide,Tryz.func135.trans (congrArg some (by kernel_rfl))⟩
 f15:=Tryz.func136.trans (congrArg some (by kernel_rfl))
 f20:=⟨Tryz.f186.name,by decide,Tryz.func186.trans (congrArg some (by kernel_rfl))⟩
 f21:=⟨Tryz.f187.name,by decide,Tryz.func187.trans (congrArg some (by kernel_rfl))⟩
 f22:=⟨Tryz.f188.name,by decide,Tryz.func188.trans (congrArg some (by kernel_rfl))⟩
 f23:=⟨Tryz.f189.name,by decide,Tryz.func189.trans (congrArg some (by kernel_rfl))⟩
 f24:=⟨Tryz.f190.name,by decide,Tryz.func190.trans (congrArg some (by kernel_rfl))⟩
 f25:=⟨Tryz.f191.name,by decide,Tryz.func191.trans (congrArg some (by kernel_rfl))⟩
 f26:=⟨Tryz.f192.name,by decide,Tryz.func192.trans (congrArg some (by kernel_rfl))⟩
 f27:=⟨Tryz.f193.name,by decide,Tryz.func193.trans (congrArg some (by kernel_rfl))⟩
 f28:=Tryz.func194.trans (congrArg some (by kernel_rfl))
 f29:=Tryz.func195.trans (congrArg some (by kernel_rfl))
 f46:=⟨Tryz.f230.name,by decide,Tryz.func230.trans (congrArg some (by kernel_rfl))⟩
 f47:=Tryz.func231.trans (congrArg some (by kernel_rfl))
 f48:=Tryz.func232.trans (congrArg some (by kernel_rfl))
 f49:=⟨Tryz.f233.name,by decide,Tryz.func233.trans (congrArg some (by kernel_rfl))⟩
 f50:=⟨Tryz.f234.name,by decide,Tryz.func234.trans (congrArg some (by kernel_rfl))⟩
 f57:=⟨Tryz.f268.name,by decide,Tryz.func268.trans (congrArg some (by kernel_rfl))⟩
 t0:=Tryz.underlying0
 a0:=Tryz.isAgg0
 z0:=Tryz.sizeOf0
 v0:=Tryz.zeroValue0
 t3:=Tryz.underlying3
 a3:=Tryz.isAgg3
 z3:=Tryz.sizeOf3
 v3:=Tryz.zeroValue3
 t4:=Tryz.underlying4
 a4:=Tryz.isAgg4
 z4:=Tryz.sizeOf4
 v4:=Tryz.zeroValue4
 t5:=Tryz.underlying5
 a5:=Tryz.isAgg5
 z5:=Tryz.sizeOf5
 v5:=Tryz.zeroValue5
 t9:=Tryz.underlying9
 a9:=Tryz.isAgg9
 z9:=Tryz.sizeOf9
 v9:=Tryz.zeroValue9
 t22:=Tryz.underlying47
 a22:=Tryz.isAgg47
 z22:=Tryz.sizeOf47
 v22:=Tryz.zeroValue47
 t25:=Tryz.underlying56
 a25:=Tryz.isAgg56
 z25:=Tryz.sizeOf56
 v25:=Tryz.zeroValue56
 t39:=Tryz.underlying190
 a39:=Tryz.isAgg190
 z39:=Tryz.sizeOf190
 v39:=Tryz.zeroValue190
 t45:=Tryz.underlying231
 a45:=Tryz.isAgg231
 z45:=Tryz.sizeOf231
 v45:=Tryz.zeroValue231
 t46:=Tryz.underlying232
 a46:=Tryz.isAgg232
 z46:=Tryz.sizeOf232
 v46:=Tryz.zeroValue232
 t50:=Tryz.underlying236
 a50:=Tryz.isAgg236
 z50:=Tryz.sizeOf236
 v50:=Tryz.zeroValue236
 t53:=Tryz.underlying239
 a53:=Tryz.isAgg239
 z53:=Tryz.sizeOf239
 v53:=Tryz.zeroValue239
 t55:=Tryz.underlying241
 a55:=Tryz.isAgg241
 z55:=Tryz.sizeOf241
 v55:=Tryz.zeroValue241
 t66:=Tryz.underlying269
 a66:=Tryz.isAgg269
 z66:=Tryz.sizeOf269
 v66:=Tryz.zeroValue269
 t70:=Tryz.underlying273
 a70:=Tryz.isAgg273
 z70:=Tryz.sizeOf273
 v70:=Tryz.zeroValue273
 t76:=Tryz.underlying298
 a76:=Tryz.isAgg298
 z76:=Tryz.sizeOf298
 v76:=Tryz.zeroValue298
 t77:=Tryz.underlying67
 a77:=Tryz.isAgg67
 z77:=Tryz.sizeOf67
 v77:=Tryz.zeroValue67 }
def Tryz.cloneSet_ren:Go.Shelf.Ren:=⟨fun | 5=> 184 | 7=> 229 | n=> n,fun | 23=> 134 | 25=> 139 | 3=> 4 | 4=> 4 | 20=> 20 | n=> n,fun | n=> n⟩
theorem Tryz.cloneSet:Go.Proofs.SlLaysW.n5 Tryz.prog Tryz.cloneSet_ren:= {
 mixed:=by kernel_rfl
 f5:=⟨Tryz.f184.name,by decide,Tryz.func184.trans (congrArg some (by kernel_rfl))⟩
 f7:=Tryz.func229.trans (congrArg some (by kernel_rfl))
 t4:=Tryz.underlying4
 a4:=Tryz.isAgg4
 z4:=Tryz.sizeOf4
 v4:=Tryz.zeroValue4
 t20:=Tryz.underlying20
 a20:=Tryz.isAgg20
 z20:=Tryz.sizeOf20
 v20:=Tryz.zeroValue20
 t23:=Tryz.underlying134
 a23:=Tryz.isAgg134
 z23:=Tryz.sizeOf134
 v23:=Tryz.zeroValue134 }
end Go.Proofs

namespace Go.Gv
open Go.Proofs
def qa:CC:=oX [oB 2 (.alloc jc [on,on,on,on,on,on,on])] [0,2] [2,26] (oX [oB 5 (.build [oe,ob] [(0,1,oS ⟨#[119,111,114,100]⟩)]),oB 6 (.bslice yC 2 [oT 5]),oA 7 0,oB 8 (.slen (oT 7)),oB 9 (.build [oe,oi,oi,on] [(0,1,oS ⟨#[116]⟩),(2,1,oT 8)]),oB 10 (.bslice Io 4 [oT 9]),oB 11 (.build [on,on,on,on,on,on,on] [(0,1,oT 6),(2,1,oT 10)]),
 oB 3 (.alloc jc [on,on,on,on,on,on,on]),oF 7 3 11] [0,2,3] [2,3,26] (.seq (oX [oA 12 0,oB 13 (.srange (oT 12))] [0,2,3,13] [2,3,13,26] (.block 0 (.loop 1 (oX [oB 14 (.snext (oT 13)),oB 15 (.ext (oT 14) 0)] [0,2,3,13,14,15] [2,3,13,26] (.seq (.ite (oT 15) (.skip) (.exit 0)) (.keep [0,2,3,13,14] [2,3,13,26] (.block 1 (oX [oB 16 (.ext (oT 14) 1),
 oA 4 16] [0,2,3,4,13] [2,3,13,26] (.regd [oE 17 1 3,oC 18 1 17,oA 19 0,oA 20 4,oA 21 4,oB 22 (.arith .add (oT 21) (oN 1)),oB 23 (.sslice (oT 19) (some (oT 20)) (some (oT 22))),oB 24 (.bslice aL 1 [oT 23]),oB 25 (.bslice kV 1 [oT 24])] [oB 26 (.append (some 26) kV 1 24 (oT 18) (oT 25)),oE 27 1 3,.op none none (.store (some 3) 1 (oT 27) (oT 26))])))))))))
 (.keep [2,3] [2,3,26] (oX [oD 28 7 3,oF 7 2 28] [2] [2,26] (.ret)))))
def py:List ar:= [.cell 2 true 7]
def Fa:List Nat:= [2027003,1026026]
theorem EG:ay Tryz.prog jV Fa qa py 29:=ak mixed (by kernel_rfl)
def qb:CC:=oX [oB 0 (.mv (.const ob))] [] [] (oX [oZ 7 ny [oS ⟨#[97,58,34,97,34,32,91,93,42,32,98,58,34,98,34]⟩],oA 6 7,oB 8 (.ext (oT 6) 0),oB 9 (.ext (oT 6) 1),oB 10 (.ext (oT 6) 2),oB 1 (.alloc o6 [oi,oi,oe,oe,oe,oe,ob,on,oe,oe,oi,oi,on,oi,oe,oe,oe,oe,oe,ob,oi,oi,on,on,on,oi]),oF 26 1 8,oA 2 9,oA 3 10] [1,3] [1] (.seq (.regd [
 oZ 12 jV [oS ⟨#[97,98,97,98]⟩],oD 13 26 1,oZ 14 gV [oT 12,oT 13],oA 11 14,oB 15 (.ext (oT 11) 0),oB 16 (.ext (oT 11) 1),oA 4 15] [oA 5 16]) (.keep [3,4,5] [] (oX [oA 17 3,oB 18 (.eql false false [.int] (oT 17) (oN 0)),oA 19 18,oH 20 19 (.mv (oT 5)),oH 21 19 (.eql false false [.int] (oT 20) (oN 0)),oB 22 (.pick (oT 19) (oT 21) (.const ob)),oA 23 22,
 oH 24 23 (.mv (oT 4)),oH 25 23 (.bslice fV 1 [oN 0,oN 1]),oH 26 23 (.build [oi,oi,on] [(0,1,oN 0),(1,1,oN 2),(2,1,oT 25)]),oH 27 23 (.bslice fV 1 [oN 0,oN 3]),oH 28 23 (.build [oi,oi,on] [(0,1,oN 0),(1,1,oN 4),(2,1,oT 27)]),oH 29 23 (.bslice fV 1 [oN 2,oN 3]),oH 30 23 (.build [oi,oi,on] [(0,1,oN 2),(1,1,oN 4),(2,1,oT 29)]),oH 31 23 (.bslice c9 3 [oT 26,oT 28,oT 30]),
 oH 32 23 (.call iO [oT 24,oT 31]),oB 33 (.pick (oT 23) (oT 32) (.const ob)),oA 0 33] [0] [] (.ret)))))
def pz:List ar:= [.tmp 0]
def Fb:List Nat:= []
theorem EH:ay Tryz.prog jW Fb qb pz 34:=ak mixed (by kernel_rfl)
def pR:CC:=oX [oB 2 (.box c9 true (oT 0)),oB 3 (.box c9 true (oT 1)),oB 4 (.mv (oN 0))] [2,3] [] (oX [oE 8 0 2,oC 9 1 8,oE 10 1 2,oC 11 1 10,oB 12 (.mslice fV 1 [oT 9,oT 11]),oE 13 2 2,oC 14 1 13,oB 15 (.append none fV 1 8 (oT 12) (oT 14)),oA 5 15] [3,5] [12,15] (oX [oE 16 0 3,oC 17 1 16,oE 18 1 3,oC 19 1 18,
 oB 20 (.mslice fV 1 [oT 17,oT 19]),oE 21 2 3,oC 22 1 21,oB 23 (.append none fV 1 8 (oT 20) (oT 22)),oA 6 23] [5,6] [12,15,20,23] (.seq (oX [oB 7 (.mv (oN 0))] [5,6,7] [12,15,20,23] (.block 0 (.loop 1 (.seq (oX [oA 24 7,oA 25 5,oB 26 (.len (oT 25)),oB 27 (.cmp .lss (oT 24) (oT 26)),oA 28 27,oH 29 28 (.mv (oT 7)),oH 30 28 (.mv (oT 6)),oH 31 28 (.len (oT 30)),
 oH 32 28 (.cmp .lss (oT 29) (oT 31)),oB 33 (.pick (oT 28) (oT 32) (.const ob))] [5,6,7,33] [12,15,20,23] (.ite (oT 33) (.skip) (.exit 0))) (.keep [5,6,7] [12,15,20,23] (.seq (.block 1 (.seq (.regd [oA 36 5,oA 37 7,oB 38 (.iaddr 1 (oT 36) (oT 37)),oC 39 1 38,oA 40 6,oA 41 7,oB 42 (.iaddr 1 (oT 40) (oT 41)),oC 43 1 42] [oB 44 (.eql true false [.int] (oT 39) (oT 43))])
 (.keep [5,6,7,44] [12,15,20,23] (.ite (oT 44) (.seq (.seq (.regd [oA 45 5,oA 46 7,oB 47 (.iaddr 1 (oT 45) (oT 46)),oC 48 1 47,oA 49 6,oA 50 7,oB 51 (.iaddr 1 (oT 49) (oT 50)),oC 52 1 51] [oB 53 (.cmp .lss (oT 48) (oT 52))]) (.keep [53] [] (.ite (oT 53) (oX [oB 4 (.mv (oN (-1)))] [4] [] (.ret)) (.skip)))) (.keep [] [] (oX [oB 4 (.mv (oN 1))] [4] [] (.ret)))) (.skip)))))
 (.keep [5,6,7] [12,15,20,23] (.reg [oA 34 7,oB 35 (.arith .add (oT 34) (oN 1)),oA 7 35])))))))) (.keep [5,6] [12,15,20,23] (.seq (oX [oA 54 5,oB 55 (.len (oT 54)),oA 56 6,oB 57 (.len (oT 56)),oB 58 (.eql true false [.int] (oT 55) (oT 57))] [5,6,58] [12,15,20,23] (.ite (oT 58) (.seq (oX [oA 59 5,oB 60 (.len (oT 59)),oA 61 6,oB 62 (.len (oT 61)),
 oB 63 (.cmp .lss (oT 60) (oT 62))] [63] [12,15,20,23] (.ite (oT 63) (oX [oB 4 (.mv (oN (-1)))] [4] [] (.ret)) (.skip))) (.keep [] [] (oX [oB 4 (.mv (oN 1))] [4] [] (.ret)))) (.skip))) (.keep [] [] (oX [oB 4 (.mv (oN 0))] [4] [] (.ret))))))))
def pj:List ar:= [.tmp 4]
def E1:List Nat:= [2,3,100020,100012]
theorem Ew:ay Tryz.prog eE E1 pR pj 64:=ak mixed (by kernel_rfl)
def qH:CC:=oX [oB 4 (.mv (.const ob))] [0,1] [] (.seq (oX [oA 6 0,oB 7 (.len (oT 6)),oA 8 1,oB 9 (.len (oT 8)),oB 10 (.eql true false [.int] (oT 7) (oT 9))] [0,1,10] [] (.ite (oT 10) (oX [oB 4 (.mv (.const ob))] [4] [] (.ret)) (.skip))) (.keep [0,1] [] (.seq (oX [oA 11 0,oB 12 (.len (oT 11)),oB 13 (.mv (oN 0))] [0,1,12,13] [] (aP 0 13 12 14 1 (oX [oA 15 13,
 oA 5 15] [0,1,5,12,13] [] (.seq (.regd [oA 16 0,oA 17 5,oB 18 (.iaddr 3 (oT 16) (oT 17)),oD 19 3 18,oA 20 1,oA 21 5,oB 22 (.iaddr 3 (oT 20) (oT 21)),oD 23 3 22] [oZ 24 eE [oT 19,oT 23],oB 25 (.eql true false [.int] (oT 24) (oN 0))]) (.keep [0,1,12,13,25] [] (.ite (oT 25) (oX [oB 4 (.mv (.const ob))] [4] [] (.ret)) (.skip))))) 26)) (.keep [] [] (oX [
 oB 4 (.mv (.const (.bool true)))] [4] [] (.ret))))))
def qB:List ar:= [.tmp 4]
def K1:List Nat:= []
theorem KF:ay Tryz.prog iO K1 qH qB 27:=ak mixed (by kernel_rfl)
def jG:CC:=oX [oB 2 (.box c9 true (oT 0)),oB 3 (.box c9 true (oT 1)),oB 4 (.mv (.const ob))] [2,3] [] (oX [oD 6 3 2,oD 7 3 3,oZ 8 cr [oT 6,oT 7],oA 5 8] [2,3,5] [] (oX [oA 9 5,oD 10 3 2,oD 11 3 3,oZ 12 eE [oT 10,oT 11],oB 13 (.eql false false [.int] (oT 9) (oT 12)),oA 14 13,oH 15 14 (.load true 3 (oT 3)),
 oH 16 14 (.load true 3 (oT 2)),oH 17 14 (.call cr [oT 15,oT 16]),oH 18 14 (.mv (oT 5)),oH 19 14 (.neg (oT 18)),oH 20 14 (.eql false false [.int] (oT 17) (oT 19)),oB 21 (.pick (oT 14) (oT 20) (.const ob)),oA 22 21,oH 23 22 (.mv (oT 5)),oH 24 22 (.eql false false [.int] (oT 23) (oN 0)),oH 25 22 (.load true 3 (oT 2)),oH 26 22 (.bslice c9 3 [oT 25]),
 oH 27 22 (.load true 3 (oT 3)),oH 28 22 (.bslice c9 3 [oT 27]),oH 29 22 (.call iO [oT 26,oT 28]),oH 30 22 (.eql false false [.bool] (oT 24) (oT 29)),oB 31 (.pick (oT 22) (oT 30) (.const ob)),oA 32 31,oH 33 32 (.call jW []),oB 34 (.pick (oT 32) (oT 33) (.const ob)),oA 4 34] [4] [] (.ret)))
def ju:List ar:= [.tmp 4]
def vS:List Nat:= [2,3]
theorem vJ:ay Tryz.prog pK vS jG ju 35:=ak mixed (by kernel_rfl)
end Go.Gv

namespace Go.Gv
open Cod (enc dec)
variable {S S0:Nat->Spc}
end Go.Gv

namespace Go.Gv
open Go.Proofs
end Go.Gv

namespace Go.Gv
open Go.Proofs
end Go.Gv

namespace Go.Gv
open Go.Proofs
open Cod (enc dec)
variable {S S0:Nat->Spc}
theorem Wx {H0 H:aa} (hh: ∀i,H0 i=none) {d d':D} (h:FrzTo H0 d d'):FrzTo H d d':=by
 induction h with
 | same d=> exact .same d
 | any d=> exact .any d
 | nil n=> exact .nil n
 | own i j x=> exact .own i j x
 | nilown j=> exact .nilown j
 | bptr i j b off=> exact .bptr i j b off
 | row h _ _ _ _=> rw[hh] at h;cases h
 | sub h _ _ _ _=> rw[hh] at h;cases h
 | list hl hk _ ih=> exact .list hl hk ih
 | box h=> rw[hh] at h;cases h
 | agg hl _ ih=> exact .agg hl ih
 | tup hl _ ih=> exact .tup hl ih
 | clo hl _ ih=> exact .clo hl ih
 | nomp=> exact .nomp
 | mrow h _ _ _=> rw[hh] at h;cases h
 | mp hl _ ih=> exact .mp hl ih
theorem Ww {H:aa} {d d':D} (h:FrzTo ed d d'):FrzTo H d d':=Wx (fun _=> rfl) h
end Go.Gv

namespace Go.Gv
def qcC:List B:= [⟨#[97]⟩,⟨#[98]⟩,⟨#[99]⟩,⟨#[65]⟩,⟨#[97,98]⟩,⟨#[]⟩]
def qjS:List B:= [⟨#[88]⟩,⟨#[89]⟩]
def qcP:List B:= [⟨#[124]⟩,⟨#[124,112,124]⟩,⟨#[124,112,124,113,124]⟩,⟨#[124,113,124]⟩]
def qjD:List fJ:= [⟨⟨#[119,111,114,100]⟩,false⟩,⟨⟨#[116,97,103]⟩,false⟩,⟨⟨#[102,101,97,116]⟩,true⟩]
def qcD (r:List B):Prop:= ∃w t f,w∈qcC/\t∈qjS/\f∈qcP/\r= [w,t,f]
end Go.Gv

namespace Go.Gv
open Cod (enc dec)
variable {S:Nat->Spc}
abbrev nJ:Spc:=cC (a1 Int) (fun _=> True) enc fun _ y=> y=false
theorem Cy:aV m8 mO S (a1 Int) (fun _=> True) enc fun _ y=> y=false:=by
 rintro x -
 simp[m8,mO]
def tU (a b:Int):Int:=if a < b then -1 else if b < a then 1 else 0
abbrev fl:Spc:=cC (a2 Int Int) (fun _=> True) enc fun x y=> y=tU x.1 x.2
theorem yn (h1:S ff=nJ):aV kT kG S (a2 Int Int) (fun _=> True) enc fun x y=> y=tU x.1 x.2:=by
 rintro⟨a,b⟩ -
 simp[kT,kG,h1,tU]
 refine⟨fun h1 h2=> by omega,fun h1=> ⟨fun h2=> ?_,fun h2=> ?_⟩⟩
 ·rw[if_neg (by omega),if_pos h2]
 ·rw[if_neg (by omega),if_neg (by omega)]
abbrev ss:Spc:=cC (a1 (List Int)) (fun _=> True) enc fun x y=> y=(x.find? (· ≠0)).getD 0
theorem If:aV rk qW S (a1 (List Int)) (fun _=> True) enc fun x y=> y=(x.find? (· ≠0)).getD 0:=by
 rintro l -
 simp[rk,qW]
 intro _
 refine aA (X:=Unit) [3,6] [] l.length (fun k _=> (l.find? fun x=> !decide (x=0))=(l.drop k).find? fun x=> !decide (x=0)) (fun _=> []) (fun _=> []) () (by simp) (by simp) (by omega) (by simp) (by simp) (by simp) (by simp) (by simp) ?_ ?_
 ·intro k _ hk hP
  simp
  refine⟨hk,fun x hx=> ?_⟩
  rw[lX hx] at hP
  refine⟨fun h=> ?_,fun h=> ?_⟩
  ·rw[hP];simp[h]
  ·rw[hP];simp[h]
 ·intro _ hP
  rw[List.drop_length] at hP
  simp[hP]
end Go.Gv

namespace Go.Gv
open Cod (enc dec)
variable {S S0:Nat->Spc}
end Go.Gv

namespace Go.Gv
open Cod (enc dec)
section
variable {P:Program} {S:Nat->Spc} {f:Nat} {im:List Nat} {N:Nat}
end
end Go.Gv

namespace Go.Gv
open Cod (enc dec)
section
variable {P:Program} {S:Nat->Spc} {f:Nat} {im:List Nat} {cc:CC} {rs:List ar} {N:Nat}
end
end Go.Gv

namespace Go.Gv
open Cod (enc dec)
variable {S S0:Nat->Spc}
end Go.Gv

namespace Go.Gv
open Cod (enc dec)
variable {S S0:Nat->Spc}
end Go.Gv

namespace Go.Gv
open Cod (enc dec)
variable {S S0:Nat->Spc}
end Go.Gv

namespace Go.Gv
open Cod (enc dec)
variable {S S0:Nat->Spc}
end Go.Gv

namespace Go.Gv
open Cod (enc dec)
variable {S S0:Nat->Spc}
theorem Lf (H:aa) (a b:D) (l bs:List D):FrzTo H (.agg (a::l)) (.agg (b::bs))=(FrzTo H a b/\FrzTo H (.agg l) (.agg bs)):=by
 refine propext ⟨fun h=> ?_,fun⟨h1,h2⟩=> ?_⟩
 ·cases h with
  | same=> exact⟨.same _, .same _⟩
  | agg hl h=> exact⟨h 0 a b rfl rfl, .agg (by simpa using hl) fun k c c' h1 h2=> h (k+1) c c' (by simpa using h1) (by simpa using h2)⟩
 ·have hl:l.length=bs.length:=by
   cases h2 with
   | same=> rfl
   | agg hl _=> exact hl
  refine .agg (by simp[hl]) fun k c c' e1 e2=> ?_
  cases k with
  | zero=> simp at e1 e2;subst e1;subst e2;exact h1
  | succ k=>
    simp at e1 e2
    cases h2 with
    | same=> rw[e1] at e2;cases e2;exact .same _
    | agg _ h=> exact h k c c' e1 e2
def KM {X:Type} (f:X->X) (a b:List X) (j:Nat):List X:=a++ ((b.take j).map f++b.drop j)
end Go.Gv

namespace Go.Gv
open Cod (enc dec)
variable {S S0:Nat->Spc}
end Go.Gv

namespace Go.Gv
open Go.Proofs
open Cod (enc dec)
variable {S S0:Nat->Spc}
def OkCorp (c:Corpus):Prop:=c.attrs=qjD/\1<=c.toks.length/\c.toks.length<=4096/\ ∀r∈c.toks,qcD r
theorem OkCorp.sz {c:Corpus} (h:OkCorp c):ZX c:=by
 obtain⟨h1,h2,h3,h4⟩:=h
 refine⟨by omega,fun r hr=> ?_,by rw[h1];decide⟩
 obtain⟨w,t,f,_,_,_,rfl⟩:=h4 r hr
 simp
end Go.Gv

namespace Go.Gv
end Go.Gv

namespace Go.Gv
end Go.Gv
