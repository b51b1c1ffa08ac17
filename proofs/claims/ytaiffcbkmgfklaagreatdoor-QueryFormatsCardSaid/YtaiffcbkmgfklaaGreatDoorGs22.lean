/- A part of the framework and of the walks: C2 W2 W31 V15 V16 T24 V18. -/
import Derived.Test.YtaiffcbkmgfklaaGreatDoorGs17
import Derived.Test.YtaiffcbkmgfklaaGreatDoorGs19
import Derived.Test.YtaiffcbkmgfklaaGreatDoorGs16
import Derived.Test.YtaiffcbkmgfklaaGreatDoorGs21
set_option linter.unusedSimpArgs false
set_option linter.unusedVariables false
set_option maxRecDepth 100000
set_option linter.unusedSectionVars false

namespace Go.Gv
open Go.Proofs
def nT:CC:=oX [oB 2 (.box aj true (oT 0)),oB 3 (.box YO true (oT 1)),oB 4 (.mv (.const ob))] [2,3] [] (oX [oC 5 1 3,oB 6 (.cmp .leq (oT 5) (oN 100)),oA 7 6,oH 8 7 (.faddr 12 (oT 2)),oH 9 7 (.load false 1 (oT 8)),oH 10 7 (.clo fl [oT 3]),oH 11 7 (.call aC [oT 9,oT 10]),oH 12 7 (.not (oT 11)),
 oB 13 (.pick (oT 7) (oT 12) (.const ob)),oA 4 13] [4] [] (.ret))
def nC:List aK:= [.tmp 4]
def BY:List Nat:= [3,2]
theorem BE:aS Tryz.prog dS BY nT nC 14:=aA ay (by kernel_rfl)
def mg:CC:=oX [oB 2 (.box aj true (oT 0)),oB 3 (.mv (.const ob))] [1,2] [] (oX [oD 4 13 2,oC 5 1 1,oB 6 (.arith .add (oT 5) (oN 1)),oZ 7 dS [oT 4,oT 6],oB 8 (.not (oT 7)),oA 3 8] [3] [] (.ret))
def l6:List aK:= [.tmp 3]
def zg:List Nat:= [2]
theorem yY:aS Tryz.prog fl zg mg l6 9:=aA ay (by kernel_rfl)
def ss:CC:=oX [oB 1 (.box aR true (oT 0)),oB 2 (.mv (.const ob))] [1] [] (oX [oE 3 0 1,oC 4 1 3,oB 5 (.eql false false [.int] (oT 4) (oN 0)),oA 6 5,oH 7 6 (.faddr 1 (oT 1)),oH 8 6 (.load false 1 (oT 7)),oH 9 6 (.eql false false [.str] (oT 8) (oS ⟨#[]⟩)),oB 10 (.pick (oT 6) (oT 9) (.const ob)),oA 11 10,oH 12 11 (.faddr 2 (oT 1)),oH 13 11 (.load false 1 (oT 12)),
 oH 14 11 (.eql false false [.str] (oT 13) (oS ⟨#[]⟩)),oB 15 (.pick (oT 11) (oT 14) (.const ob)),oA 16 15,oH 17 16 (.faddr 3 (oT 1)),oH 18 16 (.load false 1 (oT 17)),oH 19 16 (.eql false false [.str] (oT 18) (oS ⟨#[]⟩)),oB 20 (.pick (oT 16) (oT 19) (.const ob)),oA 21 20,oH 22 21 (.faddr 4 (oT 1)),oH 23 21 (.load false 1 (oT 22)),oH 24 21 (.eql false false [.str] (oT 23) (oS ⟨#[]⟩)),
 oB 25 (.pick (oT 21) (oT 24) (.const ob)),oA 26 25,oH 27 26 (.faddr 5 (oT 1)),oH 28 26 (.load false 1 (oT 27)),oH 29 26 (.not (oT 28)),oB 30 (.pick (oT 26) (oT 29) (.const ob)),oA 31 30,oH 32 31 (.faddr 6 (oT 1)),oH 33 31 (.load false 1 (oT 32)),oH 34 31 (.len (oT 33)),oH 35 31 (.eql false false [.int] (oT 34) (oN 0)),oB 36 (.pick (oT 31) (oT 35) (.const ob)),oA 2 36] [2] [] (.ret))
def rZ:List aK:= [.tmp 2]
def Ik:List Nat:= [1]
theorem H9:aS Tryz.prog m7 Ik ss rZ 37:=aA ay (by kernel_rfl)
def sv:CC:=oX [oB 1 (.box aj true (oT 0)),oB 2 (.mv (.const ob))] [1] [] (oX [oB 3 (.mv (.const ob)),oB 4 (.mv (.const ob)),oB 5 (.mv (.const ob))] [1,3,4,5] [] (oX [oB 6 (.mv (oN 0)),oB 7 (.mv (oN 0))] [1,3,4,5,6,7] [] (.seq (oX [oE 8 0 1,oC 9 1 8] [1,3,4,5,6,7,9] [] (.block 0 (oX [oB 11 (.eql false false [.int] (oT 9) (oN 1)),
 oA 10 11] [1,3,4,5,6,7,9,10] [] (.ite (oT 10) (.reg [oB 3 (.mv (.const (.bool true)))]) (.seq (oX [oB 13 (.eql false false [.int] (oT 9) (oN 2)),oA 12 13] [1,3,4,5,6,7,9,12] [] (.ite (oT 12) (.skip) (.reg [oB 14 (.eql false false [.int] (oT 9) (oN 3)),oA 12 14]))) (.keep [1,3,4,5,6,7,9,12] [] (.ite (oT 12) (.reg [oB 4 (.mv (.const (.bool true)))]) (.seq (oX [
 oB 16 (.eql false false [.int] (oT 9) (oN 4)),oA 15 16] [1,3,4,5,9,15] [] (.ite (oT 15) (.skip) (.reg [oB 17 (.eql false false [.int] (oT 9) (oN 5)),oA 15 17]))) (.keep [1,3,4,5,9,15] [] (.ite (oT 15) (.regd [oE 18 12 1,oC 19 1 18,oB 20 (.len (oT 19)),oB 6 (.mv (oN 2))] [oA 7 20]) (oX [oB 22 (.eql false false [.int] (oT 9) (oN 6)),oA 21 22] [1,3,4,21] [] (.ite (oT 21) (oX [
 oB 5 (.mv (.const (.bool true)))] [1,3,4,5] [] (.reg [oB 6 (.mv (oN 1)),oB 7 (.mv (oN 1))])) (oX [oB 2 (.mv (.const ob))] [2] [] (.ret)))))))))))))) (.keep [1,3,4,5,6,7] [] (oX [oA 23 3,oA 24 23,oI 25 24 (.faddr 1 (oT 1)),oI 26 24 (.load true 7 (oT 25)),oI 27 24 (.call m7 [oT 26]),oI 28 24 (.mv (oT 27)),oH 29 28 (.faddr 8 (oT 1)),oH 30 28 (.load false 1 (oT 29)),
 oH 31 28 (.eql false false [.str] (oT 30) (oS ⟨#[]⟩)),oI 32 24 (.pick (oT 28) (oT 31) (.const ob)),oB 33 (.pick (oT 24) (.const (.bool true)) (oT 32)),oA 34 33,oH 35 34 (.mv (oT 4)),oH 36 34 (.mv (oT 35)),oI 37 36 (.faddr 9 (oT 1)),oI 38 36 (.load false 1 (oT 37)),oI 39 36 (.eql false false [.str] (oT 38) (oS ⟨#[]⟩)),oH 40 34 (.pick (oT 36) (.const (.bool true)) (oT 39)),
 oB 41 (.pick (oT 34) (oT 40) (.const ob)),oA 42 41,oH 43 42 (.mv (oT 5)),oH 44 42 (.mv (oT 43)),oI 45 44 (.faddr 10 (oT 1)),oI 46 44 (.load false 1 (oT 45)),oI 47 44 (.eql false false [.int] (oT 46) (oN 0)),oI 48 44 (.mv (oT 47)),oH 49 48 (.faddr 11 (oT 1)),oH 50 48 (.load false 1 (oT 49)),oH 51 48 (.eql false false [.int] (oT 50) (oN 0)),oI 52 44 (.pick (oT 48) (oT 51) (.const ob)),
 oH 53 42 (.pick (oT 44) (.const (.bool true)) (oT 52)),oB 54 (.pick (oT 42) (oT 53) (.const ob)),oA 55 54,oH 56 55 (.faddr 12 (oT 1)),oH 57 55 (.load false 1 (oT 56)),oH 58 55 (.len (oT 57)),oH 59 55 (.mv (oT 6)),oH 60 55 (.cmp .geq (oT 58) (oT 59)),oB 61 (.pick (oT 55) (oT 60) (.const ob)),oA 62 61,oH 63 62 (.faddr 12 (oT 1)),oH 64 62 (.load false 1 (oT 63)),oH 65 62 (.len (oT 64)),
 oH 66 62 (.mv (oT 7)),oH 67 62 (.cmp .leq (oT 65) (oT 66)),oB 68 (.pick (oT 62) (oT 67) (.const ob)),oA 2 68] [2] [] (.ret))))))
def r7:List aK:= [.tmp 2]
def In:List Nat:= [1]
theorem Ib:aS Tryz.prog iQ In sv r7 69:=aA ay (by kernel_rfl)
def qT:CC:=oX [oB 2 (.box aj true (oT 0)),oB 3 (.box vz true (oT 1)),oB 4 (.mv (.const ob))] [2,3] [] (oX [oC 5 1 3,oD 6 13 2,oB 7 (.callv (oT 5) [oT 6]),oA 8 7,oH 9 8 (.faddr 12 (oT 2)),oH 10 8 (.load false 1 (oT 9)),oH 11 8 (.clo gG [oT 3]),oH 12 8 (.call aC [oT 10,oT 11]),oH 13 8 (.not (oT 12)),
 oB 14 (.pick (oT 8) (oT 13) (.const ob)),oA 4 14] [4] [] (.ret))
def qu:List aK:= [.tmp 4]
def Gm:List Nat:= [3,2]
theorem FR:aS Tryz.prog cS Gm qT qu 15:=aA ay (by kernel_rfl)
def nV:CC:=oX [oB 2 (.box aj true (oT 0)),oB 3 (.mv (.const ob))] [1,2] [] (oX [oD 4 13 2,oC 5 1 1,oZ 6 cS [oT 4,oT 5],oB 7 (.not (oT 6)),oA 3 7] [3] [] (.ret))
def nE:List aK:= [.tmp 3]
def B0:List Nat:= [2]
theorem BH:aS Tryz.prog gG B0 nV nE 8:=aA ay (by kernel_rfl)
def qP:CC:=oX [oB 1 (.box aj true (oT 0)),oB 2 (.mv (.const ob))] [1] [] (oX [oE 4 0 1,oC 5 1 4,oB 6 (.eql false false [.int] (oT 5) (oN 2)),oA 7 6,oI 8 7 (.faddr 0 (oT 1)),oI 9 7 (.load false 1 (oT 8)),oI 10 7 (.eql false false [.int] (oT 9) (oN 3)),oB 11 (.pick (oT 7) (.const (.bool true)) (oT 10)),oA 3 11] [1,3] [] (oX [oA 12 3,oB 13 (.not (oT 12)),
 oA 14 13,oI 15 14 (.faddr 9 (oT 1)),oI 16 14 (.load false 1 (oT 15)),oI 17 14 (.call eM [oT 16]),oB 18 (.pick (oT 14) (.const (.bool true)) (oT 17)),oA 19 18,oH 20 19 (.faddr 8 (oT 1)),oH 21 19 (.load false 1 (oT 20)),oH 22 19 (.eql false false [.str] (oT 21) (oS ⟨#[]⟩)),oH 23 19 (.mv (oT 22)),oI 24 23 (.faddr 8 (oT 1)),oI 25 23 (.load false 1 (oT 24)),
 oI 26 23 (.call eM [oT 25]),oH 27 19 (.pick (oT 23) (.const (.bool true)) (oT 26)),oB 28 (.pick (oT 19) (oT 27) (.const ob)),oA 2 28] [2] [] (.ret)))
def qq:List aK:= [.tmp 2]
def Gi:List Nat:= [1]
theorem FL:aS Tryz.prog hU Gi qP qq 29:=aA ay (by kernel_rfl)
def pC:CC:=oX [oB 1 (.box aj true (oT 0)),oB 2 (.mv (.const ob))] [1] [] (oX [oE 3 0 1,oC 4 1 3,oB 5 (.eql true false [.int] (oT 4) (oN 6)),oA 6 5,oI 7 6 (.faddr 10 (oT 1)),oI 8 6 (.load false 1 (oT 7)),oI 9 6 (.cmp .geq (oT 8) (oN 0)),oI 10 6 (.mv (oT 9)),oH 11 10 (.faddr 10 (oT 1)),oH 12 10 (.load false 1 (oT 11)),oH 13 10 (.cmp .leq (oT 12) (oN 16)),
 oI 14 6 (.pick (oT 10) (oT 13) (.const ob)),oI 15 6 (.mv (oT 14)),oH 16 15 (.faddr 11 (oT 1)),oH 17 15 (.load false 1 (oT 16)),oH 18 15 (.eql false false [.int] (oT 17) (oN (-1))),oH 19 15 (.mv (oT 18)),oI 20 19 (.faddr 11 (oT 1)),oI 21 19 (.load false 1 (oT 20)),oI 22 19 (.faddr 10 (oT 1)),oI 23 19 (.load false 1 (oT 22)),oI 24 19 (.cmp .geq (oT 21) (oT 23)),oI 25 19 (.mv (oT 24)),
 oH 26 25 (.faddr 11 (oT 1)),oH 27 25 (.load false 1 (oT 26)),oH 28 25 (.cmp .leq (oT 27) (oN 16)),oI 29 19 (.pick (oT 25) (oT 28) (.const ob)),oH 30 15 (.pick (oT 19) (.const (.bool true)) (oT 29)),oI 31 6 (.pick (oT 15) (oT 30) (.const ob)),oB 32 (.pick (oT 6) (.const (.bool true)) (oT 31)),oA 2 32] [2] [] (.ret))
def pm:List aK:= [.tmp 2]
def DM:List Nat:= [1]
theorem Dz:aS Tryz.prog gl DM pC pm 33:=aA ay (by kernel_rfl)
def qX:CC:=oX [oB 1 (.box aj true (oT 0)),oB 2 (.mv (.const ob))] [1] [] (oX [oD 3 13 1,oZ 4 dS [oT 3,oN 1],oA 5 4,oH 6 5 (.load true 13 (oT 1)),oH 7 5 (.call cS [oT 6,.func iQ]),oB 8 (.pick (oT 5) (oT 7) (.const ob)),oA 2 8] [2] [] (.ret))
def qz:List aK:= [.tmp 2]
def Gs:List Nat:= [1]
theorem FV:aS Tryz.prog d9 Gs qX qz 9:=aA ay (by kernel_rfl)
def qO:CC:=oX [oB 1 (.box aj true (oT 0)),oB 2 (.mv (.const ob))] [1] [] (oX [oD 3 13 1,oZ 4 d9 [oT 3],oA 5 4,oH 6 5 (.load true 13 (oT 1)),oH 7 5 (.call cS [oT 6,.func hU]),oB 8 (.pick (oT 5) (oT 7) (.const ob)),oA 9 8,oH 10 9 (.load true 13 (oT 1)),oH 11 9 (.call cS [oT 10,.func gl]),
 oB 12 (.pick (oT 9) (oT 11) (.const ob)),oA 2 12] [2] [] (.ret))
def qp:List aK:= [.tmp 2]
def Gh:List Nat:= [1]
theorem FJ:aS Tryz.prog lK Gh qO qp 13:=aA ay (by kernel_rfl)
-- query_size range i=9 n=8 c=10 i2=18 id=0: live [1:p, 3:n, 7:] changed [3] res []
def su:CC:=oX [oB 1 (.box aj true (oT 0)),oB 2 (.mv (oN 0))] [1] [] (oX [oB 3 (.mv (oN 0))] [1,3] [] (.seq (oX [oE 6 12 1,oC 7 1 6,oB 8 (.len (oT 7)),oB 9 (.mv (oN 0))] [1,3,7,8,9] [] (bn 0 9 8 10 1 (oX [oB 11 (.iaddr 13 (oT 7) (oT 9)),oD 12 13 11,oB 5 (.alloc aj [oi,oi,oe,oe,oe,oe,ob,on,oe,oe,oi,oi,on]),oF 13 5 12] [1,3,5,7,8,9] [5] (.reg [oA 13 3,
 oD 14 13 5,oZ 15 fS [oT 14],oB 16 (.arith .add (oT 13) (oT 15)),oB 17 (.mm false [oT 16,oN 1000]),oA 3 17])) 18)) (.keep [1,3] [] (.seq (.block 2 (oX [oE 20 12 1,oC 21 1 20,oB 22 (.len (oT 21)),oB 23 (.eql false false [.int] (oT 22) (oN 0)),oA 19 23] [1,3,19] [] (.ite (oT 19) (oX [oB 2 (.mv (oN 1))] [2] [] (.ret)) (oX [oE 25 0 1,oC 26 1 25,
 oB 27 (.eql true false [.int] (oT 26) (oN 6)),oA 28 27,oI 29 28 (.faddr 11 (oT 1)),oI 30 28 (.load false 1 (oT 29)),oI 31 28 (.eql false false [.int] (oT 30) (oN 0)),oB 32 (.pick (oT 28) (.const (.bool true)) (oT 31)),oA 24 32] [1,3,24] [] (.ite (oT 24) (oX [oA 33 3,oA 2 33] [2] [] (.ret)) (oX [oE 35 11 1,oC 36 1 35,oB 37 (.cmp .lss (oT 36) (oN 0)),
 oA 34 37] [1,3,34] [] (.ite (oT 34) (oX [oA 38 3,oE 39 10 1,oC 40 1 39,oB 41 (.arith .add (oT 40) (oN 1)),oB 42 (.arith .mul (oT 38) (oT 41)),oB 43 (.mm false [oT 42,oN 1000]),oA 2 43] [2] [] (.ret)) (.skip)))))))) (.keep [1,3] [] (oX [oA 44 3,oE 45 11 1,oC 46 1 45,oB 47 (.arith .mul (oT 44) (oT 46)),oB 48 (.mm false [oT 47,oN 1000]),oA 2 48] [2] [] (.ret)))))))
def r6:List aK:= [.tmp 2]
def Il:List Nat:= [1]
theorem Ia:aS Tryz.prog fS Il su r6 49:=aA ay (by kernel_rfl)
def sx:CC:=oX [oB 1 (.box aj true (oT 0)),oB 2 (.mv (oN 0))] [1] [] (.seq (oX [oD 3 13 1,oZ 4 lK [oT 3],oB 5 (.not (oT 4))] [1,5] [] (.ite (oT 5) (oX [oB 2 (.mv (oN 0))] [2] [] (.ret)) (.skip))) (.keep [1] [] (oX [oD 6 13 1,oZ 7 fS [oT 6],oA 2 7] [2] [] (.ret))))
def r9:List aK:= [.tmp 2]
def Iq:List Nat:= [1]
theorem Ie:aS Tryz.prog m8 Iq sx r9 8:=aA ay (by kernel_rfl)
-- query_width range i=71 n=70 c=72 i2=104 id=2: live [1:p, 6:lo, 7:hi, 69:] changed [6, 7] res []
-- markup_ValidName range i=20 n=19 c=21 i2=28 id=0: live [0:s] changed [] res []
def lA:CC:=oX [oB 2 (.mv (.const ob))] [0] [] (.seq (oX [oA 4 0,oB 5 (.slen (oT 4)),oB 6 (.cmp .lss (oT 5) (oN 1)),oA 7 6,oI 8 7 (.mv (oT 0)),oI 9 7 (.slen (oT 8)),oI 10 7 (.cmp .gtr (oT 9) (oN 32)),oB 11 (.pick (oT 7) (.const (.bool true)) (oT 10)),oA 12 11,oI 13 12 (.mv (oT 0)),oI 14 12 (.sidx (oT 13) (oN 0)),oI 15 12 (.call eC [oT 14]),
 oI 16 12 (.not (oT 15)),oB 17 (.pick (oT 12) (.const (.bool true)) (oT 16))] [0,17] [] (.ite (oT 17) (oX [oB 2 (.mv (.const ob))] [2] [] (.ret)) (.skip))) (.keep [0] [] (.seq (oX [oA 18 0,oB 19 (.slen (oT 18)),oB 20 (.mv (oN 0))] [0,19,20] [] (bn 0 20 19 21 1 (oX [oA 22 20,oA 3 22] [0,3,19,20] [] (oX [oA 23 0,oA 24 3,oB 25 (.sidx (oT 23) (oT 24)),oZ 26 jh [oT 25],
 oB 27 (.not (oT 26))] [0,19,20,27] [] (.ite (oT 27) (oX [oB 2 (.mv (.const ob))] [2] [] (.ret)) (.skip)))) 28)) (.keep [] [] (oX [oB 2 (.mv (.const (.bool true)))] [2] [] (.ret))))))
def lj:List aK:= [.tmp 2]
def yc:List Nat:= []
theorem xS:aS Tryz.prog eM yc lA lj 29:=aA ay (by kernel_rfl)
def nY:CC:=oX [oB 2 (.mv (.const ob))] [0] [] (oX [oA 3 0,oB 4 (.cmp .geq (oT 3) (.const (.int .u8 65))),oA 5 4,oH 6 5 (.mv (oT 0)),oH 7 5 (.cmp .leq (oT 6) (.const (.int .u8 90))),oB 8 (.pick (oT 5) (oT 7) (.const ob)),oA 9 8,oI 10 9 (.mv (oT 0)),oI 11 9 (.cmp .geq (oT 10) (.const (.int .u8 97))),oI 12 9 (.mv (oT 11)),oH 13 12 (.mv (oT 0)),
 oH 14 12 (.cmp .leq (oT 13) (.const (.int .u8 122))),oI 15 9 (.pick (oT 12) (oT 14) (.const ob)),oB 16 (.pick (oT 9) (.const (.bool true)) (oT 15)),oA 17 16,oI 18 17 (.mv (oT 0)),oI 19 17 (.eql false false [.int] (oT 18) (.const (.int .u8 95))),oB 20 (.pick (oT 17) (.const (.bool true)) (oT 19)),oA 2 20] [2] [] (.ret))
def nH:List aK:= [.tmp 2]
def B4:List Nat:= []
theorem BK:aS Tryz.prog eC B4 nY nH 21:=aA ay (by kernel_rfl)
def nX:CC:=oX [oB 2 (.mv (.const ob))] [0] [] (oX [oA 3 0,oZ 4 eC [oT 3],oA 5 4,oI 6 5 (.mv (oT 0)),oI 7 5 (.cmp .geq (oT 6) (.const (.int .u8 48))),oI 8 5 (.mv (oT 7)),oH 9 8 (.mv (oT 0)),oH 10 8 (.cmp .leq (oT 9) (.const (.int .u8 57))),oI 11 5 (.pick (oT 8) (oT 10) (.const ob)),oB 12 (.pick (oT 5) (.const (.bool true)) (oT 11)),oA 13 12,
 oI 14 13 (.mv (oT 0)),oI 15 13 (.eql false false [.int] (oT 14) (.const (.int .u8 45))),oB 16 (.pick (oT 13) (.const (.bool true)) (oT 15)),oA 2 16] [2] [] (.ret))
def nG:List aK:= [.tmp 2]
def B3:List Nat:= []
theorem BJ:aS Tryz.prog jh B3 nX nG 17:=aA ay (by kernel_rfl)
def eP:CC:=oX [oB 4 (.mv (.const ob))] [0,1] [] (oX [oA 5 0,oA 6 1,oZ 7 eh [oT 5,oT 6],oB 8 (.cmp .geq (oT 7) (oN 0)),oA 4 8] [4] [] (.ret))
def eH:List aK:= [.tmp 4]
def nP:List Nat:= []
theorem nL:aS Tryz.prog aC nP eP eH 9:=aA ay (by kernel_rfl)
-- slices_IndexFunc_Pattern range i=8 n=7 c=9 i2=18 id=0: live [0:s, 1:f] changed [] res []
def fU:CC:=oX [oB 4 (.mv (oN 0))] [0,1] [] (.seq (oX [oA 6 0,oB 7 (.len (oT 6)),oB 8 (.mv (oN 0))] [0,1,7,8] [] (bn 0 8 7 9 1 (oX [oA 10 8,oA 5 10] [0,1,5,7,8] [] (oX [oA 11 1,oA 12 0,oA 13 5,oB 14 (.iaddr 13 (oT 12) (oT 13)),oD 15 13 14,oB 16 (.callv (oT 11) [oT 15])] [0,1,5,7,8,16] [] (.ite (oT 16) (oX [oA 17 5,oA 4 17] [4] [] (.ret))
 (.skip)))) 18)) (.keep [] [] (oX [oB 4 (.mv (oN (-1)))] [4] [] (.ret))))
def fO:List aK:= [.tmp 4]
def pX:List Nat:= []
theorem pT:aS Tryz.prog eh pX fU fO 19:=aA ay (by kernel_rfl)
-- r22_Same range i=58 n=57 c=59 i2=73 id=0: live [2:a, 3:b] changed [] res []
def w7:CC:=oX [oB 2 (.box aR true (oT 0)),oB 3 (.box aR true (oT 1)),oB 4 (.mv (.const ob))] [2,3] [] (.seq (oX [oE 6 0 2,oC 7 1 6,oE 8 0 3,oC 9 1 8,oB 10 (.eql true false [.int] (oT 7) (oT 9)),oA 11 10,oI 12 11 (.faddr 1 (oT 2)),oI 13 11 (.load false 1 (oT 12)),oI 14 11 (.faddr 1 (oT 3)),oI 15 11 (.load false 1 (oT 14)),
 oI 16 11 (.eql true false [.str] (oT 13) (oT 15)),oB 17 (.pick (oT 11) (.const (.bool true)) (oT 16)),oA 18 17,oI 19 18 (.faddr 2 (oT 2)),oI 20 18 (.load false 1 (oT 19)),oI 21 18 (.faddr 2 (oT 3)),oI 22 18 (.load false 1 (oT 21)),oI 23 18 (.eql true false [.str] (oT 20) (oT 22)),oB 24 (.pick (oT 18) (.const (.bool true)) (oT 23)),oA 25 24,oI 26 25 (.faddr 3 (oT 2)),
 oI 27 25 (.load false 1 (oT 26)),oI 28 25 (.faddr 3 (oT 3)),oI 29 25 (.load false 1 (oT 28)),oI 30 25 (.eql true false [.str] (oT 27) (oT 29)),oB 31 (.pick (oT 25) (.const (.bool true)) (oT 30)),oA 32 31,oI 33 32 (.faddr 4 (oT 2)),oI 34 32 (.load false 1 (oT 33)),oI 35 32 (.faddr 4 (oT 3)),oI 36 32 (.load false 1 (oT 35)),oI 37 32 (.eql true false [.str] (oT 34) (oT 36)),
 oB 38 (.pick (oT 32) (.const (.bool true)) (oT 37)),oA 39 38,oI 40 39 (.faddr 5 (oT 2)),oI 41 39 (.load false 1 (oT 40)),oI 42 39 (.faddr 5 (oT 3)),oI 43 39 (.load false 1 (oT 42)),oI 44 39 (.eql true false [.bool] (oT 41) (oT 43)),oB 45 (.pick (oT 39) (.const (.bool true)) (oT 44)),oA 46 45,oI 47 46 (.faddr 6 (oT 2)),oI 48 46 (.load false 1 (oT 47)),oI 49 46 (.len (oT 48)),
 oI 50 46 (.faddr 6 (oT 3)),oI 51 46 (.load false 1 (oT 50)),oI 52 46 (.len (oT 51)),oI 53 46 (.eql true false [.int] (oT 49) (oT 52)),oB 54 (.pick (oT 46) (.const (.bool true)) (oT 53))] [2,3,54] [] (.ite (oT 54) (oX [oB 4 (.mv (.const ob))] [4] [] (.ret)) (.skip))) (.keep [2,3] [] (.seq (oX [oE 55 6 2,oC 56 1 55,oB 57 (.len (oT 56)),
 oB 58 (.mv (oN 0))] [2,3,57,58] [] (bn 0 58 57 59 1 (oX [oA 60 58,oA 5 60] [2,3,5,57,58] [] (.seq (.regd [oE 61 6 2,oC 62 1 61,oA 63 5,oB 64 (.iaddr 7 (oT 62) (oT 63)),oD 65 7 64,oE 66 6 3,oC 67 1 66,oA 68 5,oB 69 (.iaddr 7 (oT 67) (oT 68)),oD 70 7 69] [oZ 71 fA [oT 65,oT 70],oB 72 (.not (oT 71))]) (.keep [2,3,57,58,72] [] (.ite (oT 72) (oX [
 oB 4 (.mv (.const ob))] [4] [] (.ret)) (.skip))))) 73)) (.keep [] [] (oX [oB 4 (.mv (.const (.bool true)))] [4] [] (.ret))))))
def vM:List aK:= [.tmp 4]
def Mx:List Nat:= [2,3]
theorem Mf:aS Tryz.prog fA Mx w7 vM 74:=aA ay (by kernel_rfl)
def ur:CC:=oX [oB 2 (.box aj true (oT 0)),oB 4 (.mv (.const ob))] [1,2] [] (.seq (oX [oA 6 1,oB 7 (.cmp .gtr (oT 6) (oN 100))] [2,7] [] (.ite (oT 7) (oX [oB 4 (.mv (.const ob))] [4] [] (.ret)) (.skip))) (.keep [2] [] (oX [oE 8 1 2,oD 9 7 8,oB 10 (.build [oi,oe,oe,oe,oe,ob,on] []),oZ 11 fA [oT 9,oT 10],oA 12 11,oH 13 12 (.faddr 8 (oT 2)),
 oH 14 12 (.load false 1 (oT 13)),oH 15 12 (.eql false false [.str] (oT 14) (oS ⟨#[]⟩)),oB 16 (.pick (oT 12) (oT 15) (.const ob)),oA 5 16] [2,5] [] (.seq (oX [oE 17 0 2,oC 18 1 17] [2,5,18] [] (.block 0 (oX [oB 20 (.eql false false [.int] (oT 18) (oN 1)),oA 19 20] [2,5,18,19] [] (.ite (oT 19) (oX [oE 21 9 2,oC 22 1 21,oB 23 (.eql false false [.str] (oT 22) (oS ⟨#[]⟩)),oA 24 23,
 oH 25 24 (.faddr 10 (oT 2)),oH 26 24 (.load false 1 (oT 25)),oH 27 24 (.eql false false [.int] (oT 26) (oN 0)),oB 28 (.pick (oT 24) (oT 27) (.const ob)),oA 29 28,oH 30 29 (.faddr 11 (oT 2)),oH 31 29 (.load false 1 (oT 30)),oH 32 29 (.eql false false [.int] (oT 31) (oN 0)),oB 33 (.pick (oT 29) (oT 32) (.const ob)),oA 34 33,oH 35 34 (.faddr 12 (oT 2)),oH 36 34 (.load false 1 (oT 35)),
 oH 37 34 (.len (oT 36)),oH 38 34 (.eql false false [.int] (oT 37) (oN 0)),oB 39 (.pick (oT 34) (oT 38) (.const ob)),oA 4 39] [4] [] (.ret)) (.seq (oX [oB 41 (.eql false false [.int] (oT 18) (oN 2)),oA 40 41] [2,5,18,40] [] (.ite (oT 40) (.skip) (.reg [oB 42 (.eql false false [.int] (oT 18) (oN 3)),oA 40 42]))) (.keep [2,5,18,40] [] (.ite (oT 40) (oX [oA 43 5,oA 44 43,
 oH 45 44 (.faddr 10 (oT 2)),oH 46 44 (.load false 1 (oT 45)),oH 47 44 (.eql false false [.int] (oT 46) (oN 0)),oB 48 (.pick (oT 44) (oT 47) (.const ob)),oA 49 48,oH 50 49 (.faddr 11 (oT 2)),oH 51 49 (.load false 1 (oT 50)),oH 52 49 (.eql false false [.int] (oT 51) (oN 0)),oB 53 (.pick (oT 49) (oT 52) (.const ob)),oA 54 53,oH 55 54 (.faddr 12 (oT 2)),oH 56 54 (.load false 1 (oT 55)),
 oH 57 54 (.len (oT 56)),oH 58 54 (.eql false false [.int] (oT 57) (oN 0)),oB 59 (.pick (oT 54) (oT 58) (.const ob)),oA 4 59] [4] [] (.ret)) (.seq (oX [oB 61 (.eql false false [.int] (oT 18) (oN 4)),oA 60 61] [2,5,18,60] [] (.ite (oT 60) (.skip) (.reg [oB 62 (.eql false false [.int] (oT 18) (oN 5)),oA 60 62]))) (.keep [2,5,18,60] [] (.ite (oT 60) (oX [oA 63 5,oA 64 63,
 oH 65 64 (.faddr 9 (oT 2)),oH 66 64 (.load false 1 (oT 65)),oH 67 64 (.eql false false [.str] (oT 66) (oS ⟨#[]⟩)),oB 68 (.pick (oT 64) (oT 67) (.const ob)),oA 69 68,oH 70 69 (.faddr 10 (oT 2)),oH 71 69 (.load false 1 (oT 70)),oH 72 69 (.eql false false [.int] (oT 71) (oN 0)),oB 73 (.pick (oT 69) (oT 72) (.const ob)),oA 74 73,oH 75 74 (.faddr 11 (oT 2)),oH 76 74 (.load false 1 (oT 75)),
 oH 77 74 (.eql false false [.int] (oT 76) (oN 0)),oB 78 (.pick (oT 74) (oT 77) (.const ob)),oA 79 78,oH 80 79 (.faddr 12 (oT 2)),oH 81 79 (.load false 1 (oT 80)),oH 82 79 (.len (oT 81)),oH 83 79 (.cmp .geq (oT 82) (oN 2)),oB 84 (.pick (oT 79) (oT 83) (.const ob)),oA 4 84] [4] [] (.ret)) (oX [oB 86 (.eql false false [.int] (oT 18) (oN 6)),oA 85 86] [2,5,85] [] (.ite (oT 85) (oX [
 oA 87 5,oA 88 87,oH 89 88 (.faddr 9 (oT 2)),oH 90 88 (.load false 1 (oT 89)),oH 91 88 (.eql false false [.str] (oT 90) (oS ⟨#[]⟩)),oB 92 (.pick (oT 88) (oT 91) (.const ob)),oA 93 92,oH 94 93 (.faddr 12 (oT 2)),oH 95 93 (.load false 1 (oT 94)),oH 96 93 (.len (oT 95)),oH 97 93 (.eql false false [.int] (oT 96) (oN 1)),oB 98 (.pick (oT 93) (oT 97) (.const ob)),oA 4 98] [4] [] (.ret))
 (.skip))))))))))))) (.keep [] [] (oX [oB 4 (.mv (.const ob))] [4] [] (.ret)))))))
def tE:List aK:= [.tmp 4]
def KH:List Nat:= [2]
theorem Kp:aS Tryz.prog o3 KH ur tE 99:=aA ay (by kernel_rfl)
-- r23_shapes range i=14 n=13 c=15 i2=23 id=0: live [1:deep, 12:] changed [] res []
def sr:CC:=oX [oB 2 (.box aj true (oT 0)),oB 4 (.mv (.const ob))] [1,2] [] (.seq (oX [oD 7 13 2,oA 8 1,oZ 9 o3 [oT 7,oT 8],oB 10 (.not (oT 9))] [1,2,10] [] (.ite (oT 10) (oX [oB 4 (.mv (.const ob))] [4] [] (.ret)) (.skip))) (.keep [1,2] [] (.seq (oX [oE 11 12 2,oC 12 1 11,oB 13 (.len (oT 12)),oB 14 (.mv (oN 0))] [1,12,13,14] [] (bn 0 14 13 15 1 (oX [
 oB 16 (.iaddr 13 (oT 12) (oT 14)),oD 17 13 16,oB 6 (.alloc aj [oi,oi,oe,oe,oe,oe,ob,on,oe,oe,oi,oi,on]),oF 13 6 17] [1,6,12,13,14] [6] (oX [oD 18 13 6,oA 19 1,oB 20 (.arith .add (oT 19) (oN 1)),oZ 21 fR [oT 18,oT 20],oB 22 (.not (oT 21))] [1,12,13,14,22] [] (.ite (oT 22) (oX [oB 4 (.mv (.const ob))] [4] [] (.ret)) (.skip)))) 23)) (.keep [] [] (oX [
 oB 4 (.mv (.const (.bool true)))] [4] [] (.ret))))))
def rY:List aK:= [.tmp 4]
def Ii:List Nat:= [2]
theorem H8:aS Tryz.prog fR Ii sr rY 24:=aA ay (by kernel_rfl)
-- r23_names range i=33 n=32 c=34 i2=40 id=0: live [31:] changed [] res []
-- r23_numbers range i=38 n=37 c=39 i2=45 id=0: live [36:] changed [] res []
-- r23_leaves range i=17 n=16 c=18 i2=24 id=0: live [1:out, 15:] changed [1] res [1, 23]
def lM:CC:=oX [oB 2 (.box aj true (oT 0)),oB 4 (.mv (.const on))] [1,2] [1,23] (.seq (oX [oE 7 0 2,oC 8 1 7,oB 9 (.eql false false [.int] (oT 8) (oN 1))] [1,2,9] [1,23] (.ite (oT 9) (oX [oA 10 1,oD 11 13 2,oB 12 (.bslice aj 13 [oT 11]),oB 13 (.append none aj 13 184 (oT 10) (oT 12)),oA 4 13] [4] [1,13,23] (.ret)) (.skip)))
 (.keep [1,2] [1,23] (.seq (oX [oE 14 12 2,oC 15 1 14,oB 16 (.len (oT 15)),oB 17 (.mv (oN 0))] [1,15,16,17] [1,23] (bn 0 17 16 18 1 (oX [oB 19 (.iaddr 13 (oT 15) (oT 17)),oD 20 13 19,oB 6 (.alloc aj [oi,oi,oe,oe,oe,oe,ob,on,oe,oe,oi,oi,on]),oF 13 6 20] [1,6,15,16,17] [1,6,23] (.reg [oD 21 13 6,oA 22 1,oZ 23 dP [oT 21,oT 22],oA 1 23])) 24)) (.keep [1] [1,23] (oX [
 oA 25 1,oA 4 25] [4] [1,13,23] (.ret))))))
def lD:List aK:= [.tmp 4]
def Ij:List Nat:= [2]
theorem yl:aS Tryz.prog dP Ij lM lD 26:=aA ay (by kernel_rfl)
end Go.Gv

namespace Go.Gv
open Cod (enc dec)
variable {S S0:Nat→Spc}
end Go.Gv

namespace Go.Gv
open Cod (enc dec)
variable {S S0:Nat→Spc}
def yf (c:Int):Bool:=decide (65≤c∧c≤90∨97≤c∧c≤122∨c=95)
def K7 (c:Int):Bool:=yf c || decide (48≤c∧c≤57∨c=45)
def He (s:B):Prop:=1≤s.size∧s.size≤32∧(∀c:UInt8,s.data[0]?=some c→yf c.toNat=true)∧ ∀ (k:Nat) (c:UInt8),s.data[k]?=some c→K7 c.toNat=true
noncomputable def ft (s:B):Bool:= @decide (He s) (Classical.propDecidable _)
theorem yC (s:B):ft s=true↔He s:= @decide_eq_true_iff (He s) (Classical.propDecidable _)
theorem SQ {s:B} (h:He s):true=ft s:=((yC s).2 h).symm
theorem zD {s:B} (h: ¬He s):false=ft s:=by
 rcases hb:ft s
 ·rfl
 ·exact absurd ((yC s).1 hb) h
abbrev vK:Spc:=cY (a1 U8) (fun _=> True) (enc (X:=Bool)) fun x y=> y=yf x.val
abbrev E1:Spc:=cY (a1 U8) (fun _=> True) (enc (X:=Bool)) fun x y=> y=K7 x.val
abbrev EV:Spc:=cY (a1 B) (fun _=> True) (enc (X:=Bool)) fun x y=> y=ft x
theorem Dl:Walk nY nH S (a1 U8) (fun _=> True) (enc (X:=Bool)) fun x y=> y=yf x.val:=by
 rintro⟨c⟩ -
 simp[nY,nH,yf]
 repeat' first | apply And.intro | intro _
 all_goals first | omega | (rw[Bool.eq_iff_iff];simp;omega)
theorem Dk (h1:S eC=vK):Walk nX nG S (a1 U8) (fun _=> True) (enc (X:=Bool)) fun x y=> y=K7 x.val:=by
 rintro⟨c⟩ -
 simp[nX,nG,h1,K7, -Bool.forall_bool]
 rcases hb:yf c <;> simp[hb]
 repeat' first | apply And.intro | intro _
 all_goals first | omega | (rw[Bool.eq_iff_iff];simp;omega)
theorem yx (h1:S eC=vK) (h2:S jh=E1):Walk lA lj S (a1 B) (fun _=> True) (enc (X:=Bool)) fun x y=> y=ft x:=by
 rintro s -
 simp[lA,lj,h1,h2]
 refine fun _=> ⟨fun k1 _=> ⟨fun k2=> ⟨by omega,fun c hc=> ⟨fun hb=> (zD fun h=> by rw[h.2.2.1 c hc] at hb;cases hb).symm,fun hb _=> ?_⟩⟩,fun k2=> (zD fun h=> by have:=h.2.1;omega).symm⟩,fun k1=> (zD fun h=> by have:=h.1;omega).symm⟩
 refine aw (X:=Unit) [0] [] s.size (fun k _=> ∀ (j:Nat) (c:UInt8),j < k→s.data[j]?=some c→K7 c.toNat=true) (fun _=> []) (fun _=> []) () (by simp) (by simp) (by omega) (by simp) (by simp) (by intro j d hj;omega) (by simp) (by simp) ?_ ?_
 ·rintro k -hk h5
  simp[h2]
  refine⟨hk,fun d hd=> ⟨fun hf=> (zD fun h=> by rw[h.2.2.2 k d hd] at hf;cases hf).symm,fun ht j e hj he=> ?_⟩⟩
  by_cases e1:j=k
  ·subst e1
   rw[hd] at he
   cases he
   exact ht
  ·exact h5 j e (by omega) he
 ·rintro -h5
  simp
  refine(SQ ⟨by omega,by omega,fun d hd=> by rw[hc] at hd;cases hd;exact hb,fun j e he=> h5 j e ?_ he⟩).symm
  exact(Array.getElem?_eq_some_iff.1 he).1
end Go.Gv

namespace Go.Gv
def rX (p:U8→Bool):Nat→B→Nat→Nat
 | 0,_,i=> i
 | n+1,s,i=> match s.data[i]? with
   | some c=> if p ⟨c.toNat⟩ then rX p n s (i+1) else i
   | none=> i
def jK (p:U8→Bool) (s:B) (i:Nat):Nat:=rX p (s.size -i) s i
theorem Fm {p:U8→Bool} {s:B} {i:Nat} (h:s.size≤i):jK p s i=i:=by
 unfold jK
 rw[show s.size -i=0 by omega,rX]
theorem sO {p:U8→Bool} {s:B} {i:Nat} {c:UInt8} (h:s.data[i]?=some c):jK p s i=if p ⟨c.toNat⟩ then jK p s (i+1) else i:=by
 have hi:i < s.size:=(Array.getElem?_eq_some_iff.1 h).1
 unfold jK
 rw[show s.size -i=(s.size - (i+1)) +1 by omega,rX,h]
theorem LW (p:U8→Bool): ∀ (n:Nat) (s:B) (i:Nat),i≤rX p n s i∧rX p n s i≤i+n
 | 0,s,i=> by rw[rX];omega
 | n+1,s,i=> by
   rw[rX]
   split
   ·split
    ·have:=LW p n s (i+1);omega
    ·omega
   ·omega
theorem oJ (p:U8→Bool) {s:B} {i:Nat} (h:i≤s.size):i≤jK p s i∧jK p s i≤s.size:=by
 have:=LW p (s.size -i) s i
 unfold jK
 omega
def Cy (c:U8):Bool:=decide (c.val=32∨c.val=10)
def pW (c:U8):Bool:=yf c.val
def o8 (c:U8):Bool:=decide (48≤c.val∧c.val≤57)
def oU (c:U8):Bool:=pW c || o8 c || decide (c.val=45)
theorem zX: ∀ (n:Nat) (s:B) (i:Nat),rX Cy n s i=LR n s i
 | 0,s,i=> by rw[rX,LR]
 | n+1,s,i=> by
   rw[rX,LR,qbA]
   cases h:s.data[i]? with
   | none=> rfl
   | some c=>
     simp only
     rw[zX n s (i+1)]
     have:Cy ⟨c.toNat⟩=decide (c.toNat=32∨c.toNat=10):=by unfold Cy;rw[Bool.eq_iff_iff];simp;omega
     rw[this]
theorem xf: ∀ (n:Nat) (s:B) (i:Nat),rX o8 n s i=RX n s i
 | 0,s,i=> by rw[rX,RX]
 | n+1,s,i=> by
   rw[rX,RX,Uo]
   cases h:s.data[i]? with
   | none=> rfl
   | some c=>
     simp only
     rw[xf n s (i+1)]
     have:o8 ⟨c.toNat⟩=decide (48≤c.toNat∧c.toNat≤57):=by unfold o8;rw[Bool.eq_iff_iff];simp;omega
     rw[this]
theorem zY: ∀ (n:Nat) (s:B) (i:Nat),rX oU n s i=Ro n s i
 | 0,s,i=> by rw[rX,Ro]
 | n+1,s,i=> by
   rw[rX,Ro,Rv]
   cases h:s.data[i]? with
   | none=> rfl
   | some c=>
     simp only
     rw[zY n s (i+1)]
     have:oU ⟨c.toNat⟩=(OF c.toNat || decide (48≤c.toNat∧c.toNat≤57∨c.toNat=45)):=by
      unfold oU pW o8 yf OF;rw[Bool.eq_iff_iff];simp;omega
     rw[this]
end Go.Gv

namespace Go.Gv
open Cod (enc dec)
structure VM where
 kind:Int
 text:B
 pos:Int
instance:Cod VM where
 wd:=3
 enc t:= .agg [enc t.kind,enc t.text,enc t.pos]
 dec | .agg [x0,x1,x2]=> (dec x0).bind fun a=> (dec x1).bind fun b=> (dec x2).bind fun c=> some ⟨a,b,c⟩ | _=> none
 kn _:=rfl
 wid _:=rfl
 dec_enc f:=by simp only[Cod.dec_enc,Option.bind_some]
 le d x h:=by
  split at h
  ·simp only[Option.bind_eq_some_iff,Option.some.injEq] at h
   obtain⟨a,h0,b,h1,c,h2,rfl⟩:=h
   exact LeL.agg (.cons (Cod.le _ _ h0) (.cons (Cod.le _ _ h1) (.cons (Cod.le _ _ h2) .nil)))
  ·cases h
@[simp] theorem qdN (s:VM):enc s= .agg [enc s.kind,enc s.text,enc s.pos]:=id rfl
def Ac (s:B) (i:Nat):B×Int:=match yV s (i+1) ⟨#[]⟩ with
 | some r=> (r.2,r.1+1)
 | none=> (⟨#[]⟩, -1)
def ge (s:B) (i:Nat):VM×Int:=
 let j:=cN s i
 match s.data[j]? with
 | none=> (⟨0,E0,j⟩,j)
 | some c=>
   if pW ⟨c.toNat⟩ then(⟨2,s.extract j (u6 s j),j⟩,u6 s j)
   else if o8 ⟨c.toNat⟩ then(⟨3,s.extract j (sX s j),j⟩,sX s j)
   else if c.toNat=34 then(if(Ac s j).2 < 0 then(⟨1,E0,j⟩,s.size) else(⟨4,(Ac s j).1,j⟩,(Ac s j).2))
   else match signsL.find? (j5 s j) with
    | some x=> (⟨5,x,j⟩,j+x.size)
    | none=> (⟨1,E0,j⟩,j)
end Go.Gv

namespace Go.Gv
open Cod (enc dec)
structure Rdr where
 txt:B
 fin:Int
 kind:Int
 text:B
 pos:Int
@[simp] theorem qdJ (s:Rdr):Rdr.mk s.txt s.fin s.kind s.text s.pos=s:=by cases s;rfl
def dw (s:Rdr):List D:= [enc s.txt,enc s.fin,enc s.kind,enc s.text,enc s.pos]
@[simp] theorem qb5 (s:Rdr):dw s= [enc s.txt,enc s.fin,enc s.kind,enc s.text,enc s.pos]:=id rfl
section
variable {Y Z:Type}
def X1:vi Rdr:=Iy dw
def qcQ (A:lB Z) (er:Y→D) (pre:Rdr→Z→Prop) (post:Rdr→Z→Rdr→Y→Prop):Spc:=qd9 X1 A er pre post
def qeK (er:Y→D) (pre:Rdr→Z→Prop) (post:Rdr→Z→Rdr→Y→Prop) (id b:Nat) (r:Option Res) (o:Option Z) (H:ae) (K:D→ae→Prop):Prop:=
 ∃x,r=some (.box b (dw x))∧mW o fun z=> pre x z∧ ∀x' y,post x z x' y→K (er y) (aq H id (some (.box b (dw x'))))
theorem Co {x y:Rdr} (h:dw x=dw y):x=y:=by
 obtain⟨l,a,d,e,f⟩:=x
 obtain⟨l',a',d',e',f'⟩:=y
 simp only[dw,List.cons.injEq] at h
 obtain⟨h1,h2,h3,h4,h5,_⟩:=h
 have h1:=rO h1
 have h2:=rO h2
 have h3:=rO h3
 have h4:=rO h4
 have h5:=rO h5
 subst h1;subst h2;subst h3;subst h4;subst h5
 rfl
@[simp] theorem Tp (A:lB Z) (er:Y→D) (pre:Rdr→Z→Prop) (post:Rdr→Z→Rdr→Y→Prop) (d i b:Nat) (ds:List D) (H:ae) (K:D→ae→Prop): (qcQ A er pre post).pt d (.bptr i b 0::ds) H K=qeK er pre post i b (H i) (A.dec ds) H K:=by
 refine propext ⟨fun h=> ?_,fun h=> ?_⟩
 ·obtain⟨id,b',x,z,ds',h1,h2,h3,h4,h5,h6,h7⟩:=h
  cases h1
  refine⟨x,h3,?_⟩
  rw[h2]
  exact⟨h6,h7⟩
 ·obtain⟨x,h1,h2⟩:=h
  cases hz:A.dec ds with
  | none=> rw[hz] at h2;exact h2.elim
  | some z=> rw[hz] at h2;exact⟨i,b,x,z,ds,rfl,hz,h1,fun p hp=> by simp[X1,Iy] at hp,by simp[X1,Iy],h2.1,h2.2⟩
def AR (er:Y→D) (b:Nat) (post:Rdr→Y→Prop) (r:D) (H:ae):Prop:=Yw X1 er b post r H
theorem iC {er:Y→D} {b:Nat} {post:Rdr→Y→Prop} {r:D} {H:ae} (x:Rdr) (y:Y) (hr:FrzTo (fun i=> if i=0 then none else H i) r (er y)) (h0:H 0=some (.box b (dw x))) (hq:post x y):AR er b post r H:=
 ⟨x,y,by simpa [X1,Iy] using hr,h0,fun p hp=> by simp[X1,Iy] at hp,hq⟩
def sA (cc:CC) (rs:List aK) (S:Nat→Spc) (A:lB Z) (er:Y→D) (pre:Rdr→Z→Prop) (post:Rdr→Z→Rdr→Y→Prop):Prop:=
 ∀b x z,pre x z→vc S cc (vO rs fun r H'=> AR er b (post x z) r H') (eS (.bptr 0 b 0::A.view z)) (aq cZ 0 (some (.box b (dw x))))
variable {P:Program} {S:Nat→Spc} {f:Nat} {im:List Nat} {cc:CC} {rs:List aK} {N:Nat}
theorem NZ {A:lB Z} {er:Y→D} {pre:Rdr→Z→Prop} {post:Rdr→Z→Rdr→Y→Prop} (hS: ∀f,Tri P f (S f).pt) (h:aS P f im cc rs N) (hN: ∀z,(A.view z).length+1≤N) (hw:sA cc rs S A er pre post):Tri P f (qcQ A er pre post).pt:=
 N2 (by simp[X1,Iy]) hS h hN fun b x z hp=> hw b x z hp
end
section
variable {Y Z:Type}
def VY (A:lB Z) (er:Y→D) (F:Rdr→Z→Option (Rdr×Y)):Spc:=qcQ A er (fun s z=> ∃r,F s z=some r) (fun s z s' y=> F s z=some (s',y))
def To (er:Y→D) (F:Rdr→Z→Option (Rdr×Y)) (id b:Nat) (r:Option Res) (o:Option Z) (H:ae) (K:D→ae→Prop):Prop:=
 ∃x,r=some (.box b (dw x))∧mW o fun z=> mW (F x z) fun q=> K (er q.2) (aq H id (some (.box b (dw q.1))))
@[congr] theorem qcP {er:Y→D} {F:Rdr→Z→Option (Rdr×Y)} {id b:Nat} {r r':Option Res} {o o':Option Z} {H:ae} {K:D→ae→Prop} (h1:r=r') (h2:o=o'):To er F id b r o H K=To er F id b r' o' H K:=by subst h1;subst h2;rfl
theorem qbf {F:Option (Rdr×Y)} {k:Rdr→Y→Prop} : ((∃r,F=some r)∧ ∀x' y,F=some (x',y)→k x' y)=mW F fun q=> k q.1 q.2:=by
 cases F with
 | none=>
   refine propext (Iff.intro (fun h=> ?_) (fun h=> ?_))
   ·obtain⟨⟨r,h⟩,_⟩:=h
    cases h
   ·exact False.elim h
 | some r=>
   refine propext (Iff.intro (fun h=> h.2 _ _ rfl) (fun h=> ⟨⟨_,rfl⟩,fun x' y e=> ?_⟩))
   cases e
   exact h
@[simp] theorem qeL (A:lB Z) (er:Y→D) (F:Rdr→Z→Option (Rdr×Y)) (d i b:Nat) (ds:List D) (H:ae) (K:D→ae→Prop): (VY A er F).pt d (.bptr i b 0::ds) H K=To er F i b (H i) (A.dec ds) H K:=by
 unfold VY To
 rw[Tp]
 unfold qeK
 refine propext (exists_congr fun x=> and_congr_right fun _=> ?_)
 cases A.dec ds with
 | none=> exact Iff.rfl
 | some z=> exact iff_of_eq qbf
@[simp] theorem qeM (er:Y→D) (F:Rdr→Z→Option (Rdr×Y)) (id b:Nat) (l:B) (p dp:Int) (e:B) (f:Int) (o:Option Z) (H:ae) (K:D→ae→Prop):
 To er F id b (some (.box b [.v (.string l), .v (.int .i64 p), .v (.int .i64 dp), .v (.string e), .v (.int .i64 f)])) o H K=mW o fun z=> mW (F ⟨l,p,dp,e,f⟩ z) fun q=> K (er q.2) (aq H id (some (.box b (dw q.1)))):=by
 refine propext ⟨fun⟨x,h1,h2⟩=> ?_,fun h=> ⟨⟨l,p,dp,e,f⟩,rfl,h⟩⟩
 have e1:dw ⟨l,p,dp,e,f⟩=dw x:=by
  have:=Option.some.inj h1
  exact(Res.box.inj this).2
 have:=Co e1
 subst this
 exact h2
variable {P:Program} {S:Nat→Spc} {f:Nat} {im:List Nat} {cc:CC} {rs:List aK} {N:Nat}
theorem jP {A:lB Z} {er:Y→D} {F:Rdr→Z→Option (Rdr×Y)} (hS: ∀f,Tri P f (S f).pt) (h:aS P f im cc rs N) (hN: ∀z,(A.view z).length+1≤N)
 (hw:sA cc rs S A er (fun s z=> ∃r,F s z=some r) (fun s z s' y=> F s z=some (s',y))):Tri P f (VY A er F).pt:=NZ hS h hN hw
end
end Go.Gv

namespace Go.Gv
def wm (s:Rdr):Option Rdr:=if(0≤s.fin∧s.fin≤s.txt.size)∧s.txt.size≤100000 then some ⟨s.txt,(ge s.txt s.fin.toNat).2,(ge s.txt s.fin.toNat).1.kind,(ge s.txt s.fin.toNat).1.text,(ge s.txt s.fin.toNat).1.pos⟩ else none
def IM (s:Rdr):Option VM:=if(0≤s.fin∧s.fin≤s.txt.size)∧s.txt.size≤100000 then some (ge s.txt s.fin.toNat).1 else none
def ox (s:Rdr) (t:B):Bool:=decide (s.kind=5) && decide (s.text=t)
def uH (s:Rdr) (t:B):Option (Rdr×Bool):=if ox s t then(wm s).map fun x=> (x,true) else some (s,false)
def rB (s:Rdr) (l:List B):Bool:=decide (s.kind=2) && l.any (fun z=> decide (s.text=z))
section
variable (N:Rdr→Option (Rdr×Cond)) (O:Rdr→Option (Rdr×Cond))
end
section
variable (A:Rdr→Bool→Option (Rdr×Pat)) (O:Rdr→Option (Rdr×Cond))
def tailL:List B:= [⟨#[119,105,116,104,105,110]⟩,⟨#[99,111,110,116,97,105,110,105,110,103]⟩,⟨#[111,118,101,114,108,97,112,112,105,110,103]⟩,⟨#[115,116,114,97,116,101,103,121]⟩]
def jI (s:Rdr) (inner:Bool):Option Bool:=
 if s.kind=4 then some true else if s.kind=2 then(IM s).map fun n=> (inner || !rB s tailL) || (decide (n.kind=5) && decide (n.text=⟨#[58]⟩))
 else some (ox s ⟨#[91]⟩ || ox s ⟨#[60]⟩ || ox s ⟨#[60,47]⟩ || ox s ⟨#[40]⟩)
end
def GlobE:Glob:=⟨0,E0,E0,E0,E0,E0,false,0,0, [], []⟩
end Go.Gv
