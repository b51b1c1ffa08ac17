/- A part of the framework and of the walks: C2 W2 W31 V15 V16. -/
import Derived.Test.YtaiffcbkmgfklaaGreatDoorGt17
import Derived.Test.YtaiffcbkmgfklaaGreatDoorGt19
import Derived.Test.YtaiffcbkmgfklaaGreatDoorGt20
import Derived.Test.YtaiffcbkmgfklaaGreatDoorGt16
import Derived.Test.YtaiffcbkmgfklaaGreatDoorGt22
set_option linter.unusedSimpArgs false
set_option linter.unusedVariables false
set_option maxRecDepth 100000

namespace Go.Gv
open Go.Proofs
def l9:CC:=oX [oB 2 (.box ah true (oT 0)),oB 3 (.box Wl true (oT 1)),oB 4 (.mv (.const ob))] [2,3] [] (oX [oC 5 1 3,oB 6 (.cmp .leq (oT 5) (oN 100)),oA 7 6,oH 8 7 (.faddr 12 (oT 2)),oH 9 7 (.load false 1 (oT 8)),oH 10 7 (.clo ek [oT 3]),oH 11 7 (.call aI [oT 9,oT 10]),oH 12 7 (.not (oT 11)),
 oB 13 (.pick (oT 7) (oT 12) (.const ob)),oA 4 13] [4] [] (.ret))
def lQ:List aK:= [.tmp 4]
def z8:List Nat:= [3,2]
theorem zO:aS Tryz.prog db z8 l9 lQ 14:=aF ay (by kernel_rfl)
def ki:CC:=oX [oB 2 (.box ah true (oT 0)),oB 3 (.mv (.const ob))] [1,2] [] (oX [oD 4 13 2,oC 5 1 1,oB 6 (.arith .add (oT 5) (oN 1)),oZ 7 db [oT 4,oT 6],oB 8 (.not (oT 7)),oA 3 8] [3] [] (.ret))
def j3:List aK:= [.tmp 3]
def w4:List Nat:= [2]
theorem wP:aS Tryz.prog ek w4 ki j3 9:=aF ay (by kernel_rfl)
def qb:CC:=oX [oB 1 (.box aN true (oT 0)),oB 2 (.mv (.const ob))] [1] [] (oX [oE 3 0 1,oC 4 1 3,oB 5 (.eql false false [.int] (oT 4) (oN 0)),oA 6 5,oH 7 6 (.faddr 1 (oT 1)),oH 8 6 (.load false 1 (oT 7)),oH 9 6 (.eql false false [.str] (oT 8) (oS ⟨#[]⟩)),oB 10 (.pick (oT 6) (oT 9) (.const ob)),oA 11 10,oH 12 11 (.faddr 2 (oT 1)),oH 13 11 (.load false 1 (oT 12)),
 oH 14 11 (.eql false false [.str] (oT 13) (oS ⟨#[]⟩)),oB 15 (.pick (oT 11) (oT 14) (.const ob)),oA 16 15,oH 17 16 (.faddr 3 (oT 1)),oH 18 16 (.load false 1 (oT 17)),oH 19 16 (.eql false false [.str] (oT 18) (oS ⟨#[]⟩)),oB 20 (.pick (oT 16) (oT 19) (.const ob)),oA 21 20,oH 22 21 (.faddr 4 (oT 1)),oH 23 21 (.load false 1 (oT 22)),oH 24 21 (.eql false false [.str] (oT 23) (oS ⟨#[]⟩)),
 oB 25 (.pick (oT 21) (oT 24) (.const ob)),oA 26 25,oH 27 26 (.faddr 5 (oT 1)),oH 28 26 (.load false 1 (oT 27)),oH 29 26 (.not (oT 28)),oB 30 (.pick (oT 26) (oT 29) (.const ob)),oA 31 30,oH 32 31 (.faddr 6 (oT 1)),oH 33 31 (.load false 1 (oT 32)),oH 34 31 (.len (oT 33)),oH 35 31 (.eql false false [.int] (oT 34) (oN 0)),oB 36 (.pick (oT 31) (oT 35) (.const ob)),oA 2 36] [2] [] (.ret))
def pQ:List aK:= [.tmp 2]
def F2:List Nat:= [1]
theorem FR:aS Tryz.prog lj F2 qb pQ 37:=aF ay (by kernel_rfl)
def qe:CC:=oX [oB 1 (.box ah true (oT 0)),oB 2 (.mv (.const ob))] [1] [] (oX [oB 3 (.mv (.const ob)),oB 4 (.mv (.const ob)),oB 5 (.mv (.const ob))] [1,3,4,5] [] (oX [oB 6 (.mv (oN 0)),oB 7 (.mv (oN 0))] [1,3,4,5,6,7] [] (.seq (oX [oE 8 0 1,oC 9 1 8] [1,3,4,5,6,7,9] [] (.block 0 (oX [oB 11 (.eql false false [.int] (oT 9) (oN 1)),
 oA 10 11] [1,3,4,5,6,7,9,10] [] (.ite (oT 10) (.reg [oB 3 (.mv (.const (.bool true)))]) (.seq (oX [oB 13 (.eql false false [.int] (oT 9) (oN 2)),oA 12 13] [1,3,4,5,6,7,9,12] [] (.ite (oT 12) (.skip) (.reg [oB 14 (.eql false false [.int] (oT 9) (oN 3)),oA 12 14]))) (.keep [1,3,4,5,6,7,9,12] [] (.ite (oT 12) (.reg [oB 4 (.mv (.const (.bool true)))]) (.seq (oX [
 oB 16 (.eql false false [.int] (oT 9) (oN 4)),oA 15 16] [1,3,4,5,9,15] [] (.ite (oT 15) (.skip) (.reg [oB 17 (.eql false false [.int] (oT 9) (oN 5)),oA 15 17]))) (.keep [1,3,4,5,9,15] [] (.ite (oT 15) (.regd [oE 18 12 1,oC 19 1 18,oB 20 (.len (oT 19)),oB 6 (.mv (oN 2))] [oA 7 20]) (oX [oB 22 (.eql false false [.int] (oT 9) (oN 6)),oA 21 22] [1,3,4,21] [] (.ite (oT 21) (oX [
 oB 5 (.mv (.const (.bool true)))] [1,3,4,5] [] (.reg [oB 6 (.mv (oN 1)),oB 7 (.mv (oN 1))])) (oX [oB 2 (.mv (.const ob))] [2] [] (.ret)))))))))))))) (.keep [1,3,4,5,6,7] [] (oX [oA 23 3,oA 24 23,oI 25 24 (.faddr 1 (oT 1)),oI 26 24 (.load true 7 (oT 25)),oI 27 24 (.call lj [oT 26]),oI 28 24 (.mv (oT 27)),oH 29 28 (.faddr 8 (oT 1)),oH 30 28 (.load false 1 (oT 29)),
 oH 31 28 (.eql false false [.str] (oT 30) (oS ⟨#[]⟩)),oI 32 24 (.pick (oT 28) (oT 31) (.const ob)),oB 33 (.pick (oT 24) (.const (.bool true)) (oT 32)),oA 34 33,oH 35 34 (.mv (oT 4)),oH 36 34 (.mv (oT 35)),oI 37 36 (.faddr 9 (oT 1)),oI 38 36 (.load false 1 (oT 37)),oI 39 36 (.eql false false [.str] (oT 38) (oS ⟨#[]⟩)),oH 40 34 (.pick (oT 36) (.const (.bool true)) (oT 39)),
 oB 41 (.pick (oT 34) (oT 40) (.const ob)),oA 42 41,oH 43 42 (.mv (oT 5)),oH 44 42 (.mv (oT 43)),oI 45 44 (.faddr 10 (oT 1)),oI 46 44 (.load false 1 (oT 45)),oI 47 44 (.eql false false [.int] (oT 46) (oN 0)),oI 48 44 (.mv (oT 47)),oH 49 48 (.faddr 11 (oT 1)),oH 50 48 (.load false 1 (oT 49)),oH 51 48 (.eql false false [.int] (oT 50) (oN 0)),oI 52 44 (.pick (oT 48) (oT 51) (.const ob)),
 oH 53 42 (.pick (oT 44) (.const (.bool true)) (oT 52)),oB 54 (.pick (oT 42) (oT 53) (.const ob)),oA 55 54,oH 56 55 (.faddr 12 (oT 1)),oH 57 55 (.load false 1 (oT 56)),oH 58 55 (.len (oT 57)),oH 59 55 (.mv (oT 6)),oH 60 55 (.cmp .geq (oT 58) (oT 59)),oB 61 (.pick (oT 55) (oT 60) (.const ob)),oA 62 61,oH 63 62 (.faddr 12 (oT 1)),oH 64 62 (.load false 1 (oT 63)),oH 65 62 (.len (oT 64)),
 oH 66 62 (.mv (oT 7)),oH 67 62 (.cmp .leq (oT 65) (oT 66)),oB 68 (.pick (oT 62) (oT 67) (.const ob)),oA 2 68] [2] [] (.ret))))))
def pT:List aK:= [.tmp 2]
def F5:List Nat:= [1]
theorem FU:aS Tryz.prog gr F5 qe pT 69:=aF ay (by kernel_rfl)
def oP:CC:=oX [oB 2 (.box ah true (oT 0)),oB 3 (.box tz true (oT 1)),oB 4 (.mv (.const ob))] [2,3] [] (oX [oC 5 1 3,oD 6 13 2,oB 7 (.callv (oT 5) [oT 6]),oA 8 7,oH 9 8 (.faddr 12 (oT 2)),oH 10 8 (.load false 1 (oT 9)),oH 11 8 (.clo fA [oT 3]),oH 12 8 (.call aI [oT 10,oT 11]),oH 13 8 (.not (oT 12)),
 oB 14 (.pick (oT 8) (oT 13) (.const ob)),oA 4 14] [4] [] (.ret))
def nU:List aK:= [.tmp 4]
def Eh:List Nat:= [3,2]
theorem DJ:aS Tryz.prog cb Eh oP nU 15:=aF ay (by kernel_rfl)
def mb:CC:=oX [oB 2 (.box ah true (oT 0)),oB 3 (.mv (.const ob))] [1,2] [] (oX [oD 4 13 2,oC 5 1 1,oZ 6 cb [oT 4,oT 5],oB 7 (.not (oT 6)),oA 3 7] [3] [] (.ret))
def lR:List aK:= [.tmp 3]
def z9:List Nat:= [2]
theorem zP:aS Tryz.prog fA z9 mb lR 8:=aF ay (by kernel_rfl)
def oJ:CC:=oX [oB 1 (.box ah true (oT 0)),oB 2 (.mv (.const ob))] [1] [] (oX [oE 4 0 1,oC 5 1 4,oB 6 (.eql false false [.int] (oT 5) (oN 2)),oA 7 6,oI 8 7 (.faddr 0 (oT 1)),oI 9 7 (.load false 1 (oT 8)),oI 10 7 (.eql false false [.int] (oT 9) (oN 3)),oB 11 (.pick (oT 7) (.const (.bool true)) (oT 10)),oA 3 11] [1,3] [] (oX [oA 12 3,oB 13 (.not (oT 12)),
 oA 14 13,oI 15 14 (.faddr 9 (oT 1)),oI 16 14 (.load false 1 (oT 15)),oI 17 14 (.call dW [oT 16]),oB 18 (.pick (oT 14) (.const (.bool true)) (oT 17)),oA 19 18,oH 20 19 (.faddr 8 (oT 1)),oH 21 19 (.load false 1 (oT 20)),oH 22 19 (.eql false false [.str] (oT 21) (oS ⟨#[]⟩)),oH 23 19 (.mv (oT 22)),oI 24 23 (.faddr 8 (oT 1)),oI 25 23 (.load false 1 (oT 24)),
 oI 26 23 (.call dW [oT 25]),oH 27 19 (.pick (oT 23) (.const (.bool true)) (oT 26)),oB 28 (.pick (oT 19) (oT 27) (.const ob)),oA 2 28] [2] [] (.ret)))
def nQ:List aK:= [.tmp 2]
def Ed:List Nat:= [1]
theorem DF:aS Tryz.prog fT Ed oJ nQ 29:=aF ay (by kernel_rfl)
def m5:CC:=oX [oB 1 (.box ah true (oT 0)),oB 2 (.mv (.const ob))] [1] [] (oX [oE 3 0 1,oC 4 1 3,oB 5 (.eql true false [.int] (oT 4) (oN 6)),oA 6 5,oI 7 6 (.faddr 10 (oT 1)),oI 8 6 (.load false 1 (oT 7)),oI 9 6 (.cmp .geq (oT 8) (oN 0)),oI 10 6 (.mv (oT 9)),oH 11 10 (.faddr 10 (oT 1)),oH 12 10 (.load false 1 (oT 11)),oH 13 10 (.cmp .leq (oT 12) (oN 16)),
 oI 14 6 (.pick (oT 10) (oT 13) (.const ob)),oI 15 6 (.mv (oT 14)),oH 16 15 (.faddr 11 (oT 1)),oH 17 15 (.load false 1 (oT 16)),oH 18 15 (.eql false false [.int] (oT 17) (oN (-1))),oH 19 15 (.mv (oT 18)),oI 20 19 (.faddr 11 (oT 1)),oI 21 19 (.load false 1 (oT 20)),oI 22 19 (.faddr 10 (oT 1)),oI 23 19 (.load false 1 (oT 22)),oI 24 19 (.cmp .geq (oT 21) (oT 23)),oI 25 19 (.mv (oT 24)),
 oH 26 25 (.faddr 11 (oT 1)),oH 27 25 (.load false 1 (oT 26)),oH 28 25 (.cmp .leq (oT 27) (oN 16)),oI 29 19 (.pick (oT 25) (oT 28) (.const ob)),oH 30 15 (.pick (oT 19) (.const (.bool true)) (oT 29)),oI 31 6 (.pick (oT 15) (oT 30) (.const ob)),oB 32 (.pick (oT 6) (.const (.bool true)) (oT 31)),oA 2 32] [2] [] (.ret))
def mQ:List aK:= [.tmp 2]
def By:List Nat:= [1]
theorem Bp:aS Tryz.prog ff By m5 mQ 33:=aF ay (by kernel_rfl)
def oW:CC:=oX [oB 1 (.box ah true (oT 0)),oB 2 (.mv (.const ob))] [1] [] (oX [oD 3 13 1,oZ 4 db [oT 3,oN 1],oA 5 4,oH 6 5 (.load true 13 (oT 1)),oH 7 5 (.call cb [oT 6,.func gr]),oB 8 (.pick (oT 5) (oT 7) (.const ob)),oA 2 8] [2] [] (.ret))
def nZ:List aK:= [.tmp 2]
def Em:List Nat:= [1]
theorem DO:aS Tryz.prog eU Em oW nZ 9:=aF ay (by kernel_rfl)
def oz:CC:=oX [oB 1 (.box ah true (oT 0)),oB 2 (.mv (.const ob))] [1] [] (oX [oD 3 13 1,oZ 4 eU [oT 3],oA 5 4,oH 6 5 (.load true 13 (oT 1)),oH 7 5 (.call cb [oT 6,.func fT]),oB 8 (.pick (oT 5) (oT 7) (.const ob)),oA 9 8,oH 10 9 (.load true 13 (oT 1)),oH 11 9 (.call cb [oT 10,.func ff]),
 oB 12 (.pick (oT 9) (oT 11) (.const ob)),oA 2 12] [2] [] (.ret))
def nP:List aK:= [.tmp 2]
def Ec:List Nat:= [1]
theorem DE:aS Tryz.prog jS Ec oz nP 13:=aF ay (by kernel_rfl)
-- query_size range i=9 n=8 c=10 i2=18 id=0: live [1:p, 3:n, 7:] changed [3] res []
def qc:CC:=oX [oB 1 (.box ah true (oT 0)),oB 2 (.mv (oN 0))] [1] [] (oX [oB 3 (.mv (oN 0))] [1,3] [] (.seq (oX [oE 6 12 1,oC 7 1 6,oB 8 (.len (oT 7)),oB 9 (.mv (oN 0))] [1,3,7,8,9] [] (bh 0 9 8 10 1 (oX [oB 11 (.iaddr 13 (oT 7) (oT 9)),oD 12 13 11,oB 5 (.alloc ah [oi,oi,oe,oe,oe,oe,ob,on,oe,oe,oi,oi,on]),oF 13 5 12] [1,3,5,7,8,9] [5] (.reg [oA 13 3,
 oD 14 13 5,oZ 15 eM [oT 14],oB 16 (.arith .add (oT 13) (oT 15)),oB 17 (.mm false [oT 16,oN 1000]),oA 3 17])) 18)) (.keep [1,3] [] (.seq (.block 2 (oX [oE 20 12 1,oC 21 1 20,oB 22 (.len (oT 21)),oB 23 (.eql false false [.int] (oT 22) (oN 0)),oA 19 23] [1,3,19] [] (.ite (oT 19) (oX [oB 2 (.mv (oN 1))] [2] [] (.ret)) (oX [oE 25 0 1,oC 26 1 25,
 oB 27 (.eql true false [.int] (oT 26) (oN 6)),oA 28 27,oI 29 28 (.faddr 11 (oT 1)),oI 30 28 (.load false 1 (oT 29)),oI 31 28 (.eql false false [.int] (oT 30) (oN 0)),oB 32 (.pick (oT 28) (.const (.bool true)) (oT 31)),oA 24 32] [1,3,24] [] (.ite (oT 24) (oX [oA 33 3,oA 2 33] [2] [] (.ret)) (oX [oE 35 11 1,oC 36 1 35,oB 37 (.cmp .lss (oT 36) (oN 0)),
 oA 34 37] [1,3,34] [] (.ite (oT 34) (oX [oA 38 3,oE 39 10 1,oC 40 1 39,oB 41 (.arith .add (oT 40) (oN 1)),oB 42 (.arith .mul (oT 38) (oT 41)),oB 43 (.mm false [oT 42,oN 1000]),oA 2 43] [2] [] (.ret)) (.skip)))))))) (.keep [1,3] [] (oX [oA 44 3,oE 45 11 1,oC 46 1 45,oB 47 (.arith .mul (oT 44) (oT 46)),oB 48 (.mm false [oT 47,oN 1000]),oA 2 48] [2] [] (.ret)))))))
def pR:List aK:= [.tmp 2]
def F3:List Nat:= [1]
theorem FS:aS Tryz.prog eM F3 qc pR 49:=aF ay (by kernel_rfl)
def qf:CC:=oX [oB 1 (.box ah true (oT 0)),oB 2 (.mv (oN 0))] [1] [] (.seq (oX [oD 3 13 1,oZ 4 jS [oT 3],oB 5 (.not (oT 4))] [1,5] [] (.ite (oT 5) (oX [oB 2 (.mv (oN 0))] [2] [] (.ret)) (.skip))) (.keep [1] [] (oX [oD 6 13 1,oZ 7 eM [oT 6],oA 2 7] [2] [] (.ret))))
def pU:List aK:= [.tmp 2]
def F6:List Nat:= [1]
theorem FV:aS Tryz.prog ll F6 qf pU 8:=aF ay (by kernel_rfl)
-- query_width range i=71 n=70 c=72 i2=104 id=2: live [1:p, 6:lo, 7:hi, 69:] changed [6, 7] res []
-- markup_ValidName range i=20 n=19 c=21 i2=28 id=0: live [0:s] changed [] res []
def jJ:CC:=oX [oB 2 (.mv (.const ob))] [0] [] (.seq (oX [oA 4 0,oB 5 (.slen (oT 4)),oB 6 (.cmp .lss (oT 5) (oN 1)),oA 7 6,oI 8 7 (.mv (oT 0)),oI 9 7 (.slen (oT 8)),oI 10 7 (.cmp .gtr (oT 9) (oN 32)),oB 11 (.pick (oT 7) (.const (.bool true)) (oT 10)),oA 12 11,oI 13 12 (.mv (oT 0)),oI 14 12 (.sidx (oT 13) (oN 0)),oI 15 12 (.call dL [oT 14]),
 oI 16 12 (.not (oT 15)),oB 17 (.pick (oT 12) (.const (.bool true)) (oT 16))] [0,17] [] (.ite (oT 17) (oX [oB 2 (.mv (.const ob))] [2] [] (.ret)) (.skip))) (.keep [0] [] (.seq (oX [oA 18 0,oB 19 (.slen (oT 18)),oB 20 (.mv (oN 0))] [0,19,20] [] (bh 0 20 19 21 1 (oX [oA 22 20,oA 3 22] [0,3,19,20] [] (oX [oA 23 0,oA 24 3,oB 25 (.sidx (oT 23) (oT 24)),oZ 26 gI [oT 25],
 oB 27 (.not (oT 26))] [0,19,20,27] [] (.ite (oT 27) (oX [oB 2 (.mv (.const ob))] [2] [] (.ret)) (.skip)))) 28)) (.keep [] [] (oX [oB 2 (.mv (.const (.bool true)))] [2] [] (.ret))))))
def jz:List aK:= [.tmp 2]
def v5:List Nat:= []
theorem vP:aS Tryz.prog dW v5 jJ jz 29:=aF ay (by kernel_rfl)
def me:CC:=oX [oB 2 (.mv (.const ob))] [0] [] (oX [oA 3 0,oB 4 (.cmp .geq (oT 3) (.const (.int .u8 65))),oA 5 4,oH 6 5 (.mv (oT 0)),oH 7 5 (.cmp .leq (oT 6) (.const (.int .u8 90))),oB 8 (.pick (oT 5) (oT 7) (.const ob)),oA 9 8,oI 10 9 (.mv (oT 0)),oI 11 9 (.cmp .geq (oT 10) (.const (.int .u8 97))),oI 12 9 (.mv (oT 11)),oH 13 12 (.mv (oT 0)),
 oH 14 12 (.cmp .leq (oT 13) (.const (.int .u8 122))),oI 15 9 (.pick (oT 12) (oT 14) (.const ob)),oB 16 (.pick (oT 9) (.const (.bool true)) (oT 15)),oA 17 16,oI 18 17 (.mv (oT 0)),oI 19 17 (.eql false false [.int] (oT 18) (.const (.int .u8 95))),oB 20 (.pick (oT 17) (.const (.bool true)) (oT 19)),oA 2 20] [2] [] (.ret))
def lT:List aK:= [.tmp 2]
def Ab:List Nat:= []
theorem zR:aS Tryz.prog dL Ab me lT 21:=aF ay (by kernel_rfl)
def md:CC:=oX [oB 2 (.mv (.const ob))] [0] [] (oX [oA 3 0,oZ 4 dL [oT 3],oA 5 4,oI 6 5 (.mv (oT 0)),oI 7 5 (.cmp .geq (oT 6) (.const (.int .u8 48))),oI 8 5 (.mv (oT 7)),oH 9 8 (.mv (oT 0)),oH 10 8 (.cmp .leq (oT 9) (.const (.int .u8 57))),oI 11 5 (.pick (oT 8) (oT 10) (.const ob)),oB 12 (.pick (oT 5) (.const (.bool true)) (oT 11)),oA 13 12,
 oI 14 13 (.mv (oT 0)),oI 15 13 (.eql false false [.int] (oT 14) (.const (.int .u8 45))),oB 16 (.pick (oT 13) (.const (.bool true)) (oT 15)),oA 2 16] [2] [] (.ret))
def lS:List aK:= [.tmp 2]
def Aa:List Nat:= []
theorem zQ:aS Tryz.prog gI Aa md lS 17:=aF ay (by kernel_rfl)
def dZ:CC:=oX [oB 4 (.mv (.const ob))] [0,1] [] (oX [oA 5 0,oA 6 1,oZ 7 dz [oT 5,oT 6],oB 8 (.cmp .geq (oT 7) (oN 0)),oA 4 8] [4] [] (.ret))
def dQ:List aK:= [.tmp 4]
def lZ:List Nat:= []
theorem lX:aS Tryz.prog aI lZ dZ dQ 9:=aF ay (by kernel_rfl)
-- slices_IndexFunc_Pattern range i=8 n=7 c=9 i2=18 id=0: live [0:s, 1:f] changed [] res []
def eO:CC:=oX [oB 4 (.mv (oN 0))] [0,1] [] (.seq (oX [oA 6 0,oB 7 (.len (oT 6)),oB 8 (.mv (oN 0))] [0,1,7,8] [] (bh 0 8 7 9 1 (oX [oA 10 8,oA 5 10] [0,1,5,7,8] [] (oX [oA 11 1,oA 12 0,oA 13 5,oB 14 (.iaddr 13 (oT 12) (oT 13)),oD 15 13 14,oB 16 (.callv (oT 11) [oT 15])] [0,1,5,7,8,16] [] (.ite (oT 16) (oX [oA 17 5,oA 4 17] [4] [] (.ret))
 (.skip)))) 18)) (.keep [] [] (oX [oB 4 (.mv (oN (-1)))] [4] [] (.ret))))
def eI:List aK:= [.tmp 4]
def nu:List Nat:= []
theorem nq:aS Tryz.prog dz nu eO eI 19:=aF ay (by kernel_rfl)
-- r22_Same range i=58 n=57 c=59 i2=73 id=0: live [2:a, 3:b] changed [] res []
def uZ:CC:=oX [oB 2 (.box aN true (oT 0)),oB 3 (.box aN true (oT 1)),oB 4 (.mv (.const ob))] [2,3] [] (.seq (oX [oE 6 0 2,oC 7 1 6,oE 8 0 3,oC 9 1 8,oB 10 (.eql true false [.int] (oT 7) (oT 9)),oA 11 10,oI 12 11 (.faddr 1 (oT 2)),oI 13 11 (.load false 1 (oT 12)),oI 14 11 (.faddr 1 (oT 3)),oI 15 11 (.load false 1 (oT 14)),
 oI 16 11 (.eql true false [.str] (oT 13) (oT 15)),oB 17 (.pick (oT 11) (.const (.bool true)) (oT 16)),oA 18 17,oI 19 18 (.faddr 2 (oT 2)),oI 20 18 (.load false 1 (oT 19)),oI 21 18 (.faddr 2 (oT 3)),oI 22 18 (.load false 1 (oT 21)),oI 23 18 (.eql true false [.str] (oT 20) (oT 22)),oB 24 (.pick (oT 18) (.const (.bool true)) (oT 23)),oA 25 24,oI 26 25 (.faddr 3 (oT 2)),
 oI 27 25 (.load false 1 (oT 26)),oI 28 25 (.faddr 3 (oT 3)),oI 29 25 (.load false 1 (oT 28)),oI 30 25 (.eql true false [.str] (oT 27) (oT 29)),oB 31 (.pick (oT 25) (.const (.bool true)) (oT 30)),oA 32 31,oI 33 32 (.faddr 4 (oT 2)),oI 34 32 (.load false 1 (oT 33)),oI 35 32 (.faddr 4 (oT 3)),oI 36 32 (.load false 1 (oT 35)),oI 37 32 (.eql true false [.str] (oT 34) (oT 36)),
 oB 38 (.pick (oT 32) (.const (.bool true)) (oT 37)),oA 39 38,oI 40 39 (.faddr 5 (oT 2)),oI 41 39 (.load false 1 (oT 40)),oI 42 39 (.faddr 5 (oT 3)),oI 43 39 (.load false 1 (oT 42)),oI 44 39 (.eql true false [.bool] (oT 41) (oT 43)),oB 45 (.pick (oT 39) (.const (.bool true)) (oT 44)),oA 46 45,oI 47 46 (.faddr 6 (oT 2)),oI 48 46 (.load false 1 (oT 47)),oI 49 46 (.len (oT 48)),
 oI 50 46 (.faddr 6 (oT 3)),oI 51 46 (.load false 1 (oT 50)),oI 52 46 (.len (oT 51)),oI 53 46 (.eql true false [.int] (oT 49) (oT 52)),oB 54 (.pick (oT 46) (.const (.bool true)) (oT 53))] [2,3,54] [] (.ite (oT 54) (oX [oB 4 (.mv (.const ob))] [4] [] (.ret)) (.skip))) (.keep [2,3] [] (.seq (oX [oE 55 6 2,oC 56 1 55,oB 57 (.len (oT 56)),
 oB 58 (.mv (oN 0))] [2,3,57,58] [] (bh 0 58 57 59 1 (oX [oA 60 58,oA 5 60] [2,3,5,57,58] [] (.seq (.regd [oE 61 6 2,oC 62 1 61,oA 63 5,oB 64 (.iaddr 7 (oT 62) (oT 63)),oD 65 7 64,oE 66 6 3,oC 67 1 66,oA 68 5,oB 69 (.iaddr 7 (oT 67) (oT 68)),oD 70 7 69] [oZ 71 eq [oT 65,oT 70],oB 72 (.not (oT 71))]) (.keep [2,3,57,58,72] [] (.ite (oT 72) (oX [
 oB 4 (.mv (.const ob))] [4] [] (.ret)) (.skip))))) 73)) (.keep [] [] (oX [oB 4 (.mv (.const (.bool true)))] [4] [] (.ret))))))
def tM:List aK:= [.tmp 4]
def Kp:List Nat:= [2,3]
theorem J5:aS Tryz.prog eq Kp uZ tM 74:=aF ay (by kernel_rfl)
def r8:CC:=oX [oB 2 (.box ah true (oT 0)),oB 4 (.mv (.const ob))] [1,2] [] (.seq (oX [oA 6 1,oB 7 (.cmp .gtr (oT 6) (oN 100))] [2,7] [] (.ite (oT 7) (oX [oB 4 (.mv (.const ob))] [4] [] (.ret)) (.skip))) (.keep [2] [] (oX [oE 8 1 2,oD 9 7 8,oB 10 (.build [oi,oe,oe,oe,oe,ob,on] []),oZ 11 eq [oT 9,oT 10],oA 12 11,oH 13 12 (.faddr 8 (oT 2)),
 oH 14 12 (.load false 1 (oT 13)),oH 15 12 (.eql false false [.str] (oT 14) (oS ⟨#[]⟩)),oB 16 (.pick (oT 12) (oT 15) (.const ob)),oA 5 16] [2,5] [] (.seq (oX [oE 17 0 2,oC 18 1 17] [2,5,18] [] (.block 0 (oX [oB 20 (.eql false false [.int] (oT 18) (oN 1)),oA 19 20] [2,5,18,19] [] (.ite (oT 19) (oX [oE 21 9 2,oC 22 1 21,oB 23 (.eql false false [.str] (oT 22) (oS ⟨#[]⟩)),oA 24 23,
 oH 25 24 (.faddr 10 (oT 2)),oH 26 24 (.load false 1 (oT 25)),oH 27 24 (.eql false false [.int] (oT 26) (oN 0)),oB 28 (.pick (oT 24) (oT 27) (.const ob)),oA 29 28,oH 30 29 (.faddr 11 (oT 2)),oH 31 29 (.load false 1 (oT 30)),oH 32 29 (.eql false false [.int] (oT 31) (oN 0)),oB 33 (.pick (oT 29) (oT 32) (.const ob)),oA 34 33,oH 35 34 (.faddr 12 (oT 2)),oH 36 34 (.load false 1 (oT 35)),
 oH 37 34 (.len (oT 36)),oH 38 34 (.eql false false [.int] (oT 37) (oN 0)),oB 39 (.pick (oT 34) (oT 38) (.const ob)),oA 4 39] [4] [] (.ret)) (.seq (oX [oB 41 (.eql false false [.int] (oT 18) (oN 2)),oA 40 41] [2,5,18,40] [] (.ite (oT 40) (.skip) (.reg [oB 42 (.eql false false [.int] (oT 18) (oN 3)),oA 40 42]))) (.keep [2,5,18,40] [] (.ite (oT 40) (oX [oA 43 5,oA 44 43,
 oH 45 44 (.faddr 10 (oT 2)),oH 46 44 (.load false 1 (oT 45)),oH 47 44 (.eql false false [.int] (oT 46) (oN 0)),oB 48 (.pick (oT 44) (oT 47) (.const ob)),oA 49 48,oH 50 49 (.faddr 11 (oT 2)),oH 51 49 (.load false 1 (oT 50)),oH 52 49 (.eql false false [.int] (oT 51) (oN 0)),oB 53 (.pick (oT 49) (oT 52) (.const ob)),oA 54 53,oH 55 54 (.faddr 12 (oT 2)),oH 56 54 (.load false 1 (oT 55)),
 oH 57 54 (.len (oT 56)),oH 58 54 (.eql false false [.int] (oT 57) (oN 0)),oB 59 (.pick (oT 54) (oT 58) (.const ob)),oA 4 59] [4] [] (.ret)) (.seq (oX [oB 61 (.eql false false [.int] (oT 18) (oN 4)),oA 60 61] [2,5,18,60] [] (.ite (oT 60) (.skip) (.reg [oB 62 (.eql false false [.int] (oT 18) (oN 5)),oA 60 62]))) (.keep [2,5,18,60] [] (.ite (oT 60) (oX [oA 63 5,oA 64 63,
 oH 65 64 (.faddr 9 (oT 2)),oH 66 64 (.load false 1 (oT 65)),oH 67 64 (.eql false false [.str] (oT 66) (oS ⟨#[]⟩)),oB 68 (.pick (oT 64) (oT 67) (.const ob)),oA 69 68,oH 70 69 (.faddr 10 (oT 2)),oH 71 69 (.load false 1 (oT 70)),oH 72 69 (.eql false false [.int] (oT 71) (oN 0)),oB 73 (.pick (oT 69) (oT 72) (.const ob)),oA 74 73,oH 75 74 (.faddr 11 (oT 2)),oH 76 74 (.load false 1 (oT 75)),
 oH 77 74 (.eql false false [.int] (oT 76) (oN 0)),oB 78 (.pick (oT 74) (oT 77) (.const ob)),oA 79 78,oH 80 79 (.faddr 12 (oT 2)),oH 81 79 (.load false 1 (oT 80)),oH 82 79 (.len (oT 81)),oH 83 79 (.cmp .geq (oT 82) (oN 2)),oB 84 (.pick (oT 79) (oT 83) (.const ob)),oA 4 84] [4] [] (.ret)) (oX [oB 86 (.eql false false [.int] (oT 18) (oN 6)),oA 85 86] [2,5,85] [] (.ite (oT 85) (oX [
 oA 87 5,oA 88 87,oH 89 88 (.faddr 9 (oT 2)),oH 90 88 (.load false 1 (oT 89)),oH 91 88 (.eql false false [.str] (oT 90) (oS ⟨#[]⟩)),oB 92 (.pick (oT 88) (oT 91) (.const ob)),oA 93 92,oH 94 93 (.faddr 12 (oT 2)),oH 95 93 (.load false 1 (oT 94)),oH 96 93 (.len (oT 95)),oH 97 93 (.eql false false [.int] (oT 96) (oN 1)),oB 98 (.pick (oT 93) (oT 97) (.const ob)),oA 4 98] [4] [] (.ret))
 (.skip))))))))))))) (.keep [] [] (oX [oB 4 (.mv (.const ob))] [4] [] (.ret)))))))
def rp:List aK:= [.tmp 4]
def Ix:List Nat:= [2]
theorem Ii:aS Tryz.prog mE Ix r8 rp 99:=aF ay (by kernel_rfl)
-- r23_shapes range i=14 n=13 c=15 i2=23 id=0: live [1:deep, 12:] changed [] res []
def qa:CC:=oX [oB 2 (.box ah true (oT 0)),oB 4 (.mv (.const ob))] [1,2] [] (.seq (oX [oD 7 13 2,oA 8 1,oZ 9 mE [oT 7,oT 8],oB 10 (.not (oT 9))] [1,2,10] [] (.ite (oT 10) (oX [oB 4 (.mv (.const ob))] [4] [] (.ret)) (.skip))) (.keep [1,2] [] (.seq (oX [oE 11 12 2,oC 12 1 11,oB 13 (.len (oT 12)),oB 14 (.mv (oN 0))] [1,12,13,14] [] (bh 0 14 13 15 1 (oX [
 oB 16 (.iaddr 13 (oT 12) (oT 14)),oD 17 13 16,oB 6 (.alloc ah [oi,oi,oe,oe,oe,oe,ob,on,oe,oe,oi,oi,on]),oF 13 6 17] [1,6,12,13,14] [6] (oX [oD 18 13 6,oA 19 1,oB 20 (.arith .add (oT 19) (oN 1)),oZ 21 eL [oT 18,oT 20],oB 22 (.not (oT 21))] [1,12,13,14,22] [] (.ite (oT 22) (oX [oB 4 (.mv (.const ob))] [4] [] (.ret)) (.skip)))) 23)) (.keep [] [] (oX [
 oB 4 (.mv (.const (.bool true)))] [4] [] (.ret))))))
def pP:List aK:= [.tmp 4]
def FZ:List Nat:= [2]
theorem FQ:aS Tryz.prog eL FZ qa pP 24:=aF ay (by kernel_rfl)
-- r23_names range i=33 n=32 c=34 i2=40 id=0: live [31:] changed [] res []
-- r23_numbers range i=38 n=37 c=39 i2=45 id=0: live [36:] changed [] res []
-- r23_leaves range i=17 n=16 c=18 i2=24 id=0: live [1:out, 15:] changed [1] res [1, 23]
def jV:CC:=oX [oB 2 (.box ah true (oT 0)),oB 4 (.mv (.const on))] [1,2] [1,23] (.seq (oX [oE 7 0 2,oC 8 1 7,oB 9 (.eql false false [.int] (oT 8) (oN 1))] [1,2,9] [1,23] (.ite (oT 9) (oX [oA 10 1,oD 11 13 2,oB 12 (.bslice ah 13 [oT 11]),oB 13 (.append none ah 13 184 (oT 10) (oT 12)),oA 4 13] [4] [1,13,23] (.ret)) (.skip)))
 (.keep [1,2] [1,23] (.seq (oX [oE 14 12 2,oC 15 1 14,oB 16 (.len (oT 15)),oB 17 (.mv (oN 0))] [1,15,16,17] [1,23] (bh 0 17 16 18 1 (oX [oB 19 (.iaddr 13 (oT 15) (oT 17)),oD 20 13 19,oB 6 (.alloc ah [oi,oi,oe,oe,oe,oe,ob,on,oe,oe,oi,oi,on]),oF 13 6 20] [1,6,15,16,17] [1,6,23] (.reg [oD 21 13 6,oA 22 1,oZ 23 cX [oT 21,oT 22],oA 1 23])) 24)) (.keep [1] [1,23] (oX [
 oA 25 1,oA 4 25] [4] [1,13,23] (.ret))))))
def jM:List aK:= [.tmp 4]
def F1:List Nat:= [2]
theorem wi:aS Tryz.prog cX F1 jV jM 26:=aF ay (by kernel_rfl)
end Go.Gv

namespace Go.Gv
open Cod (enc dec)
variable {S S0:Nat→Spc}
end Go.Gv

namespace Go.Gv
open Cod (enc dec)
variable {S S0:Nat→Spc}
def yK (c:Int):Bool:=decide (65≤c∧c≤90∨97≤c∧c≤122∨c=95)
def IX (c:Int):Bool:=yK c || decide (48≤c∧c≤57∨c=45)
def E9 (s:B):Prop:=1≤s.size∧s.size≤32∧(∀c:UInt8,s.data[0]?=some c→yK c.toNat=true)∧ ∀ (k:Nat) (c:UInt8),s.data[k]?=some c→IX c.toNat=true
noncomputable def eo (s:B):Bool:= @decide (E9 s) (Classical.propDecidable _)
theorem ws (s:B):eo s=true↔E9 s:= @decide_eq_true_iff (E9 s) (Classical.propDecidable _)
theorem QA {s:B} (h:E9 s):true=eo s:=((ws s).2 h).symm
theorem xt {s:B} (h: ¬E9 s):false=eo s:=by
 rcases hb:eo s
 ·rfl
 ·exact absurd ((ws s).1 hb) h
abbrev tK:Spc:=dt (a1 U8) (fun _=> True) (enc (X:=Bool)) fun x y=> y=yK x.val
abbrev CW:Spc:=dt (a1 U8) (fun _=> True) (enc (X:=Bool)) fun x y=> y=IX x.val
abbrev CQ:Spc:=dt (a1 B) (fun _=> True) (enc (X:=Bool)) fun x y=> y=eo x
theorem Bc:Walk me lT S (a1 U8) (fun _=> True) (enc (X:=Bool)) fun x y=> y=yK x.val:=by
 rintro⟨c⟩ -
 simp[me,lT,yK]
 repeat' first | apply And.intro | intro _
 all_goals first | omega | (rw[Bool.eq_iff_iff];simp;omega)
theorem Bb (h1:S dL=tK):Walk md lS S (a1 U8) (fun _=> True) (enc (X:=Bool)) fun x y=> y=IX x.val:=by
 rintro⟨c⟩ -
 simp[md,lS,h1,IX, -Bool.forall_bool]
 rcases hb:yK c <;> simp[hb]
 repeat' first | apply And.intro | intro _
 all_goals first | omega | (rw[Bool.eq_iff_iff];simp;omega)
theorem wq (h1:S dL=tK) (h2:S gI=CW):Walk jJ jz S (a1 B) (fun _=> True) (enc (X:=Bool)) fun x y=> y=eo x:=by
 rintro s -
 simp[jJ,jz,h1,h2]
 refine fun _=> ⟨fun k1 _=> ⟨fun k2=> ⟨by omega,fun c hc=> ⟨fun hb=> (xt fun h=> by rw[h.2.2.1 c hc] at hb;cases hb).symm,fun hb _=> ?_⟩⟩,fun k2=> (xt fun h=> by have:=h.2.1;omega).symm⟩,fun k1=> (xt fun h=> by have:=h.1;omega).symm⟩
 refine aJ (X:=Unit) [0] [] s.size (fun k _=> ∀ (j:Nat) (c:UInt8),j < k→s.data[j]?=some c→IX c.toNat=true) (fun _=> []) (fun _=> []) () (by simp) (by simp) (by omega) (by simp) (by simp) (by intro j d hj;omega) (by simp) (by simp) ?_ ?_
 ·rintro k -hk h5
  simp[h2]
  refine⟨hk,fun d hd=> ⟨fun hf=> (xt fun h=> by rw[h.2.2.2 k d hd] at hf;cases hf).symm,fun ht j e hj he=> ?_⟩⟩
  by_cases e1:j=k
  ·subst e1
   rw[hd] at he
   cases he
   exact ht
  ·exact h5 j e (by omega) he
 ·rintro -h5
  simp
  refine(QA ⟨by omega,by omega,fun d hd=> by rw[hc] at hd;cases hd;exact hb,fun j e he=> h5 j e ?_ he⟩).symm
  exact(Array.getElem?_eq_some_iff.1 he).1
end Go.Gv

namespace Go.Gv
def pO (p:U8→Bool):Nat→B→Nat→Nat
 | 0,_,i=> i
 | n+1,s,i=> match s.data[i]? with
   | some c=> if p ⟨c.toNat⟩ then pO p n s (i+1) else i
   | none=> i
def gS (p:U8→Bool) (s:B) (i:Nat):Nat:=pO p (s.size -i) s i
theorem Dh {p:U8→Bool} {s:B} {i:Nat} (h:s.size≤i):gS p s i=i:=by
 unfold gS
 rw[show s.size -i=0 by omega,pO]
theorem qA {p:U8→Bool} {s:B} {i:Nat} {c:UInt8} (h:s.data[i]?=some c):gS p s i=if p ⟨c.toNat⟩ then gS p s (i+1) else i:=by
 have hi:i < s.size:=(Array.getElem?_eq_some_iff.1 h).1
 unfold gS
 rw[show s.size -i=(s.size - (i+1)) +1 by omega,pO,h]
theorem JR (p:U8→Bool): ∀ (n:Nat) (s:B) (i:Nat),i≤pO p n s i∧pO p n s i≤i+n
 | 0,s,i=> by rw[pO];omega
 | n+1,s,i=> by
   rw[pO]
   split
   ·split
    ·have:=JR p n s (i+1);omega
    ·omega
   ·omega
theorem kT (p:U8→Bool) {s:B} {i:Nat} (h:i≤s.size):i≤gS p s i∧gS p s i≤s.size:=by
 have:=JR p (s.size -i) s i
 unfold gS
 omega
def Bj (c:U8):Bool:=decide (c.val=32∨c.val=10)
def yl (c:U8):Bool:=yK c.val
def lr (c:U8):Bool:=decide (48≤c.val∧c.val≤57)
def vQ (c:U8):Bool:=yl c || lr c || decide (c.val=45)
theorem xR: ∀ (n:Nat) (s:B) (i:Nat),pO Bj n s i=JG n s i
 | 0,s,i=> by rw[pO,JG]
 | n+1,s,i=> by
   rw[pO,JG,Zl]
   cases h:s.data[i]? with
   | none=> rfl
   | some c=>
     simp only
     rw[xR n s (i+1)]
     have:Bj ⟨c.toNat⟩=decide (c.toNat=32∨c.toNat=10):=by unfold Bj;rw[Bool.eq_iff_iff];simp;omega
     rw[this]
theorem ve: ∀ (n:Nat) (s:B) (i:Nat),pO lr n s i=PJ n s i
 | 0,s,i=> by rw[pO,PJ]
 | n+1,s,i=> by
   rw[pO,PJ,RY]
   cases h:s.data[i]? with
   | none=> rfl
   | some c=>
     simp only
     rw[ve n s (i+1)]
     have:lr ⟨c.toNat⟩=decide (48≤c.toNat∧c.toNat≤57):=by unfold lr;rw[Bool.eq_iff_iff];simp;omega
     rw[this]
theorem xS: ∀ (n:Nat) (s:B) (i:Nat),pO vQ n s i=Pe n s i
 | 0,s,i=> by rw[pO,Pe]
 | n+1,s,i=> by
   rw[pO,Pe,Pl]
   cases h:s.data[i]? with
   | none=> rfl
   | some c=>
     simp only
     rw[xS n s (i+1)]
     have:vQ ⟨c.toNat⟩=(D1 c.toNat || decide (48≤c.toNat∧c.toNat≤57∨c.toNat=45)):=by
      unfold vQ yl lr yK D1;rw[Bool.eq_iff_iff];simp;omega
     rw[this]
end Go.Gv

namespace Go.Gv
open Cod (enc dec)
structure Qc where
 kind:Int
 text:B
 pos:Int
instance:Cod Qc where
 wd:=3
 enc t:= .agg [enc t.kind,enc t.text,enc t.pos]
 dec | .agg [x0,x1,x2]=> (dec x0).bind fun a=> (dec x1).bind fun b=> (dec x2).bind fun c=> some ⟨a,b,c⟩ | _=> none
 kn _:=rfl
 wid _:=rfl
 dec_enc f:=by simp only[Cod.dec_enc,Option.bind_some]
 le d x h:=by
  split at h
  ·simp only[Option.bind_eq_some_iff,Option.some.injEq] at h
   obtain⟨a,h0,b,h1,c,h2,rfl⟩:=h
   exact LeL.agg (.cons (Cod.le _ _ h0) (.cons (Cod.le _ _ h1) (.cons (Cod.le _ _ h2) .nil)))
  ·cases h
@[simp] theorem qbC (s:Qc):enc s= .agg [enc s.kind,enc s.text,enc s.pos]:=id rfl
def wL (s:B) (i:Nat):B×Int:=match tS s (i+1) ⟨#[]⟩ with
 | some r=> (r.2,r.1+1)
 | none=> (⟨#[]⟩, -1)
def bV (s:B) (i:Nat):Qc×Int:=
 let j:=br s i
 match s.data[j]? with
 | none=> (⟨0,E0,j⟩,j)
 | some c=>
   if yl ⟨c.toNat⟩ then(⟨2,s.extract j (qI s j),j⟩,qI s j)
   else if lr ⟨c.toNat⟩ then(⟨3,s.extract j (pp s j),j⟩,pp s j)
   else if c.toNat=34 then(if(wL s j).2 < 0 then(⟨1,E0,j⟩,s.size) else(⟨4,(wL s j).1,j⟩,(wL s j).2))
   else match signsL.find? (gF s j) with
    | some x=> (⟨5,x,j⟩,j+x.size)
    | none=> (⟨1,E0,j⟩,j)
end Go.Gv
