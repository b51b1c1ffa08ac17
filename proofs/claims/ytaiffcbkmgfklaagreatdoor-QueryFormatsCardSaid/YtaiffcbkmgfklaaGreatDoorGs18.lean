/- A part of the framework and of the walks: C4 V2. -/
import Derived.Test.YtaiffcbkmgfklaaGreatDoorGs17
set_option linter.unusedSimpArgs false

namespace Go.Gv
open Go.Proofs
def qZ:CC:=oX [oB 6 (.alloc aR [oi,oe,oe,oe,oe,ob,on])] [0,1,2,6] [6] (mu 1 (oX [oA 7 0,oZ 8 am [oT 7,oN 8]] [0,1,2,6,8] [6] (.block 0 (oX [oB 10 (.eql false false [.int] (oT 8) (oN 0)),oA 9 10] [0,1,2,6,8,9] [6] (.ite (oT 9) (oX [oB 11 (.build [oi,oe,oe,oe,oe,ob,on] [(0,1,oN 1)]),.op none none (.store (some 6) 7 (oT 6) (oT 11))] [6] [6] (.ret)) (.seq (oX [
 oB 13 (.eql false false [.int] (oT 8) (oN 1)),oA 12 13] [0,1,2,6,8,12] [6] (.ite (oT 12) (.skip) (.reg [oB 14 (.eql false false [.int] (oT 8) (oN 2)),oA 12 14]))) (.keep [0,1,2,6,12] [6] (.ite (oT 12) (.seq (.regd [oB 15 (.bslice az 1 [oS ⟨#[97]⟩,oS ⟨#[98]⟩,oS ⟨#[97,46,42]⟩,oS ⟨#[91,97,98,93]⟩]),oA 16 0,oZ 17 am [oT 16,oN 4],oB 18 (.iaddr 1 (oT 15) (oT 17)),oC 19 1 18,
 oA 20 0,oZ 21 am [oT 20,oN 3],oB 22 (.eql false false [.int] (oT 21) (oN 2))] [oB 23 (.build [oi,oe,oe,oe,oe,ob,on] [(0,1,oN 2),(3,1,oT 19),(5,1,oT 22)]),.op none none (.store (some 6) 7 (oT 6) (oT 23))]) (.keep [6] [6] (.ret))) (.skip)))))))) (.keep [0,1,2,6] [6] (oX [oA 24 0,oA 25 1,oA 26 2,oZ 27 dh [oT 24,oT 25,oT 26],
 .op none none (.store (some 6) 7 (oT 6) (oT 27))] [6] [6] (.ret))))
def qA:List aK:= [.cell 6 true 7]
def Gu:List Nat:= [2006006]
theorem FX:aS Tryz.prog lL Gu qZ qA 28:=aA ay (by kernel_rfl)
def pH:CC:=oX [oB 6 (.alloc aR [oi,oe,oe,oe,oe,ob,on])] [0,1,2,6] [6] (oX [oA 9 0,oZ 10 am [oT 9,oN 12],oA 7 10] [0,1,2,6,7] [6] (mu 2 (oX [oA 11 1,oB 12 (.cmp .lss (oT 11) (oN 1))] [0,1,2,6,7,12] [6] (.ite (oT 12) (.reg [oA 13 7,oB 14 (.arith .rem (oT 13) (oN 8)),oA 7 14]) (.skip))) (.keep [0,1,2,6,7] [6] (mu 4 (oX [
 oA 15 7] [0,1,2,6,7,15] [6] (.block 0 (mu 6 (oX [oB 17 (.eql false false [.int] (oT 15) (oN 0)),oA 16 17] [0,1,2,6,7,15,16] [6] (.ite (oT 16) (.skip) (oX [oB 18 (.eql false false [.int] (oT 15) (oN 1)),oA 16 18] [0,1,2,6,7,15,16] [6] (.ite (oT 16) (.skip) (oX [oB 19 (.eql false false [.int] (oT 15) (oN 2)),oA 16 19] [0,1,2,6,7,15,16] [6] (.ite (oT 16) (.skip) (.reg [
 oB 20 (.eql false false [.int] (oT 15) (oN 3)),oA 16 20]))))))) (.keep [0,1,2,6,7,15,16] [6] (.ite (oT 16) (.seq (.regd [oB 21 (.bslice az 1 [oS ⟨#[119,111,114,100]⟩,oS ⟨#[119,111,114,100]⟩,oS ⟨#[116,97,103]⟩]),oA 22 0,oZ 23 am [oT 22,oN 3],oB 24 (.iaddr 1 (oT 21) (oT 23)),oC 25 1 24,
 oB 26 (.bslice az 1 [oS ⟨#[97]⟩,oS ⟨#[98]⟩,oS ⟨#[97,46,42]⟩,oS ⟨#[91,97,98,93]⟩,oS ⟨#[88]⟩,oS ⟨#[]⟩,oS ⟨#[99,63]⟩,oS ⟨#[97,124,98]⟩]),oA 27 0,oZ 28 am [oT 27,oN 8],oB 29 (.iaddr 1 (oT 26) (oT 28)),oC 30 1 29,oA 31 0,oZ 32 am [oT 31,oN 3],oB 33 (.eql false false [.int] (oT 32) (oN 2))] [
 oB 34 (.build [oi,oe,oe,oe,oe,ob,on] [(0,1,oN 2),(1,1,oT 25),(3,1,oT 30),(5,1,oT 33)]),.op none none (.store (some 6) 7 (oT 6) (oT 34))]) (.keep [6] [6] (.ret))) (oX [oB 36 (.eql false false [.int] (oT 15) (oN 4)),oA 35 36] [0,1,2,6,7,15,35] [6] (.ite (oT 35) (oX [oB 37 (.bslice az 1 [oS ⟨#[112]⟩,oS ⟨#[113]⟩]),oA 38 0,oZ 39 am [oT 38,oN 2],
 oB 40 (.iaddr 1 (oT 37) (oT 39)),oC 41 1 40,oB 42 (.build [oi,oe,oe,oe,oe,ob,on] [(0,1,oN 3),(1,1,oS ⟨#[102,101,97,116]⟩),(3,1,oT 41)]),.op none none (.store (some 6) 7 (oT 6) (oT 42))] [6] [6] (.ret)) (oX [oB 44 (.eql false false [.int] (oT 15) (oN 5)),oA 43 44] [0,1,2,6,7,15,43] [6] (.ite (oT 43) (.seq (oX [oA 45 2,oB 46 (.len (oT 45)),
 oB 47 (.cmp .gtr (oT 46) (oN 0))] [0,2,6,47] [6] (.ite (oT 47) (.seq (.regd [oB 48 (.bslice az 1 [oS ⟨#[119,111,114,100]⟩,oS ⟨#[116,97,103]⟩]),oA 49 0,oZ 50 am [oT 49,oN 2],oB 51 (.iaddr 1 (oT 48) (oT 50)),oC 52 1 51,oA 53 2,oA 54 0,oA 55 2,oB 56 (.len (oT 55)),oZ 57 am [oT 54,oT 56],oB 58 (.iaddr 1 (oT 53) (oT 57)),oC 59 1 58,
 oB 60 (.bslice az 1 [oS ⟨#[119,111,114,100]⟩,oS ⟨#[116,97,103]⟩]),oA 61 0,oZ 62 am [oT 61,oN 2],oB 63 (.iaddr 1 (oT 60) (oT 62)),oC 64 1 63] [oB 65 (.build [oi,oe,oe,oe,oe,ob,on] [(0,1,oN 4),(1,1,oT 52),(4,1,oT 59),(2,1,oT 64)]),.op none none (.store (some 6) 7 (oT 6) (oT 65))]) (.keep [6] [6] (.ret))) (.skip))) (.keep [6] [6] (oX [
 oB 66 (.build [oi,oe,oe,oe,oe,ob,on] [(0,1,oN 2),(1,1,oS ⟨#[116,97,103]⟩),(3,1,oS ⟨#[89]⟩)]),.op none none (.store (some 6) 7 (oT 6) (oT 66))] [6] [6] (.ret)))) (mu 18 (oX [oB 68 (.eql false false [.int] (oT 15) (oN 6)),oA 67 68] [0,1,2,6,7,15,67] [6] (.ite (oT 67) (.skip) (.reg [oB 69 (.eql false false [.int] (oT 15) (oN 7)),oA 67 69]))) (.keep [0,1,2,6,7,15,67] [6] (.ite (oT 67) (oX [
 oA 70 0,oZ 71 am [oT 70,oN 3],oZ 72 gW [oT 71],oB 73 (.build [oi,oe,oe,oe,oe,ob,on] [(0,1,oN 5),(1,1,oT 72)]),oB 8 (.alloc aR [oi,oe,oe,oe,oe,ob,on]),oF 7 8 73] [0,6,8] [6,8] (mu 21 (oX [oA 74 0,oZ 75 am [oT 74,oN 2],oB 76 (.eql false false [.int] (oT 75) (oN 1))] [0,6,8,76] [6,8] (.ite (oT 76) (.regd [
 oB 77 (.bslice az 1 [oS ⟨#[49]⟩,oS ⟨#[50]⟩]),oA 78 0,oZ 79 am [oT 78,oN 2],oB 80 (.iaddr 1 (oT 77) (oT 79)),oC 81 1 80,oE 82 2 8,.op none none (.store (some 8) 1 (oT 82) (oS ⟨#[110]⟩))] [oE 83 3 8,.op none none (.store (some 8) 1 (oT 83) (oT 81))]) (.skip))) (.keep [6,8] [6,8] (oX [oD 84 7 8,.op none none (.store (some 6) 7 (oT 6) (oT 84))] [6] [6] (.ret)))))
 (mu 24 (oX [oB 86 (.eql false false [.int] (oT 15) (oN 8)),oA 85 86] [0,1,2,6,7,15,85] [6] (.ite (oT 85) (.skip) (.reg [oB 87 (.eql false false [.int] (oT 15) (oN 9)),oA 85 87]))) (.keep [0,1,2,6,7,85] [6] (.ite (oT 85) (oX [oA 88 0,oA 89 1,oB 90 (.arith .sub (oT 89) (oN 1)),oA 91 2,oZ 92 dh [oT 88,oT 90,oT 91],oB 93 (.bslice aR 7 [oT 92]),
 oB 94 (.build [oi,oe,oe,oe,oe,ob,on] [(0,1,oN 6),(6,1,oT 93)]),.op none none (.store (some 6) 7 (oT 6) (oT 94))] [6] [6] (.ret)) (.skip)))))))))))))))) (.keep [0,1,2,6,7] [6] (oX [oA 95 7,oB 96 (.arith .add (oN 7) (oT 95)),oB 97 (.arith .sub (oT 96) (oN 10)),oA 98 0,oA 99 1,oB 100 (.arith .sub (oT 99) (oN 1)),oA 101 2,oZ 102 dh [oT 98,oT 100,oT 101],oA 103 0,oA 104 1,
 oB 105 (.arith .sub (oT 104) (oN 1)),oA 106 2,oZ 107 dh [oT 103,oT 105,oT 106],oB 108 (.bslice aR 7 [oT 102,oT 107]),oB 109 (.build [oi,oe,oe,oe,oe,ob,on] [(0,1,oT 97),(6,1,oT 108)]),.op none none (.store (some 6) 7 (oT 6) (oT 109))] [6] [6] (.ret)))))))
def pw:List aK:= [.cell 6 true 7]
def DT:List Nat:= [2006006,2006006,2083008,2082008]
theorem DG:aS Tryz.prog dh DT pH pw 110:=aA ay (by kernel_rfl)
def ng:CC:=oX [oB 6 (.alloc aj [oi,oi,oe,oe,oe,oe,ob,on,oe,oe,oi,oi,on])] [0,1,2,6] [6] (oX [oA 10 0,oZ 11 am [oT 10,oN 14],oA 7 11] [0,1,2,6,7] [6] (mu 2 (oX [oA 12 1,oB 13 (.cmp .lss (oT 12) (oN 1))] [0,1,2,6,7,13] [6] (.ite (oT 13) (.reg [oA 14 7,oB 15 (.arith .rem (oT 14) (oN 7)),oA 7 15]) (.skip))) (.keep [0,1,2,6,7] [6] (mu 4 (.block 0 (oX [
 oA 17 7,oB 18 (.cmp .lss (oT 17) (oN 5)),oA 16 18] [0,1,2,6,7,16] [6] (.ite (oT 16) (oX [oA 19 0,oA 20 2,oZ 21 lL [oT 19,oN 1,oT 20],oB 22 (.build [oi,oi,oe,oe,oe,oe,ob,on,oe,oe,oi,oi,on] [(0,1,oN 1),(1,7,oT 21)]),oB 8 (.alloc aj [oi,oi,oe,oe,oe,oe,ob,on,oe,oe,oi,oi,on]),oF 13 8 22] [0,2,6,8] [6,8] (mu 7 (oX [oA 23 2,oB 24 (.len (oT 23)),
 oB 25 (.cmp .gtr (oT 24) (oN 0)),oA 26 25,oH 27 26 (.mv (oT 0)),oH 28 26 (.call am [oT 27,oN 2]),oH 29 26 (.eql false false [.int] (oT 28) (oN 1)),oB 30 (.pick (oT 26) (oT 29) (.const ob))] [0,2,6,8,30] [6,8] (.ite (oT 30) (.reg [oA 31 2,oA 32 0,oA 33 2,oB 34 (.len (oT 33)),oZ 35 am [oT 32,oT 34],oB 36 (.iaddr 1 (oT 31) (oT 35)),oC 37 1 36,oE 38 8 8,
 oF 1 38 37]) (.skip))) (.keep [6,8] [6,8] (oX [oD 39 13 8,.op none none (.store (some 6) 13 (oT 6) (oT 39))] [6] [6] (.ret))))) (oX [oA 41 7,oB 42 (.cmp .lss (oT 41) (oN 7)),oA 40 42] [0,1,2,6,7,40] [6] (.ite (oT 40) (oX [oA 43 7,oB 44 (.arith .add (oN 2) (oT 43)),oB 45 (.arith .sub (oT 44) (oN 5)),oA 46 0,oZ 47 am [oT 46,oN 3],oZ 48 gW [oT 47],
 oB 49 (.build [oi,oi,oe,oe,oe,oe,ob,on,oe,oe,oi,oi,on] [(0,1,oT 45),(9,1,oT 48)]),.op none none (.store (some 6) 13 (oT 6) (oT 49))] [6] [6] (.ret)) (oX [oA 51 7,oB 52 (.cmp .lss (oT 51) (oN 10)),oA 50 52] [0,1,2,6,7,50] [6] (.ite (oT 50) (oX [oA 53 0,oA 54 1,oB 55 (.arith .sub (oT 54) (oN 1)),oA 56 2,oZ 57 bS [oT 53,oT 55,oT 56],oA 58 0,oA 59 1,
 oB 60 (.arith .sub (oT 59) (oN 1)),oA 61 2,oZ 62 bS [oT 58,oT 60,oT 61],oB 63 (.bslice aj 13 [oT 57,oT 62]),oB 64 (.build [oi,oi,oe,oe,oe,oe,ob,on,oe,oe,oi,oi,on] [(0,1,oN 4),(12,1,oT 63)]),.op none none (.store (some 6) 13 (oT 6) (oT 64))] [6] [6] (.ret)) (oX [oA 66 7,oB 67 (.cmp .lss (oT 66) (oN 12)),oA 65 67] [0,1,2,6,65] [6] (.ite (oT 65) (oX [oA 68 0,oA 69 1,
 oB 70 (.arith .sub (oT 69) (oN 1)),oA 71 2,oZ 72 bS [oT 68,oT 70,oT 71],oA 73 0,oA 74 1,oB 75 (.arith .sub (oT 74) (oN 1)),oA 76 2,oZ 77 bS [oT 73,oT 75,oT 76],oB 78 (.bslice aj 13 [oT 72,oT 77]),oB 79 (.build [oi,oi,oe,oe,oe,oe,ob,on,oe,oe,oi,oi,on] [(0,1,oN 5),(12,1,oT 78)]),.op none none (.store (some 6) 13 (oT 6) (oT 79))] [6] [6] (.ret))
 (.skip)))))))))) (.keep [0,1,2,6] [6] (oX [oB 80 (.build [oi,oi] [(0,1,oN 0),(1,1,oN 1)]),oB 81 (.build [oi,oi] [(0,1,oN 0),(1,1,oN (-1))]),oB 82 (.build [oi,oi] [(0,1,oN 1),(1,1,oN (-1))]),oB 83 (.build [oi,oi] [(0,1,oN 2),(1,1,oN 2)]),oB 84 (.build [oi,oi] [(0,1,oN 0),(1,1,oN 2)]),oB 85 (.build [oi,oi] [(0,1,oN 1),(1,1,oN 3)]),oB 86 (.build [oi,oi] [(0,1,oN 0),(1,1,oN 0)]),
 oB 87 (.bslice IC 2 [oT 80,oT 81,oT 82,oT 83,oT 84,oT 85,oT 86]),oA 88 0,oZ 89 am [oT 88,oN 7],oB 90 (.iaddr 2 (oT 87) (oT 89)),oD 91 2 90,oB 9 (.alloc IC [oi,oi]),oF 2 9 91] [0,1,2,6,9] [6,9] (.seq (.regd [oE 92 0 9,oC 93 1 92,oE 94 1 9,oC 95 1 94,oA 96 0,oA 97 1,oB 98 (.arith .sub (oT 97) (oN 1)),oA 99 2,oZ 100 bS [oT 96,oT 98,oT 99],
 oB 101 (.bslice aj 13 [oT 100])] [oB 102 (.build [oi,oi,oe,oe,oe,oe,ob,on,oe,oe,oi,oi,on] [(0,1,oN 6),(10,1,oT 93),(11,1,oT 95),(12,1,oT 101)]),.op none none (.store (some 6) 13 (oT 6) (oT 102))]) (.keep [6] [6] (.ret)))))))))
def mT:List aK:= [.cell 6 true 13]
def Av:List Nat:= [2006006]
theorem Aj:aS Tryz.prog bS Av ng mT 103:=aA ay (by kernel_rfl)
-- m_bind range i=16 n=15 c=17 i2=26 id=0: live [1:labels, 2:p, 4:, 5:kids, 14:] changed [5] res [2, 4, 25]
def Cp:CC:=oX [oB 2 (.box aj false (oT 0)),oB 4 (.alloc aj [oi,oi,oe,oe,oe,oe,ob,on,oe,oe,oi,oi,on])] [1,2,4] [2,4,25] (oX [oE 8 1 2,oD 9 7 8,oA 10 1,oZ 11 gV [oT 9,oT 10],oE 12 1 2,oF 7 12 11] [1,2,4] [2,4,25] (oX [oB 5 (.mv (.const on))] [1,2,4,5] [2,4,25] (.seq (oX [oE 13 12 2,oC 14 1 13,oB 15 (.len (oT 14)),
 oB 16 (.mv (oN 0))] [1,2,4,5,14,15,16] [2,4,25] (bn 0 16 15 17 1 (oX [oB 18 (.iaddr 13 (oT 14) (oT 16)),oD 19 13 18,oB 7 (.alloc aj [oi,oi,oe,oe,oe,oe,ob,on,oe,oe,oi,oi,on]),oF 13 7 19] [1,2,4,5,7,14,15,16] [2,4,7,25] (.reg [oA 20 5,oD 21 13 7,oA 22 1,oZ 23 m9 [oT 21,oT 22],oB 24 (.bslice aj 13 [oT 23]),oB 25 (.append none aj 13 184 (oT 20) (oT 24)),
 oA 5 25])) 26)) (.keep [2,4,5] [2,4,25] (oX [oA 27 5,oE 28 12 2,oF 1 28 27] [2,4] [2,4,25] (oX [oD 29 13 2,oF 13 4 29] [4] [4,25] (.ret)))))))
def Bq:List aK:= [.cell 4 true 13]
def Rw:List Nat:= []
theorem Rh:aS Tryz.prog m9 Rw Cp Bq 30:=aA ay (by kernel_rfl)
-- m_replace range i=15 n=14 c=16 i2=24 id=0: live [2:x, 4:, 13:] changed [] res [2, 4, 40]
-- m_replace range i=31 n=30 c=32 i2=41 id=2: live [1:labels, 2:x, 4:, 7:kids, 29:] changed [7] res [2, 4, 40]
def uA:CC:=oX [oB 2 (.box aR false (oT 0)),oB 4 (.alloc aR [oi,oe,oe,oe,oe,ob,on])] [1,2,4] [2,4,40] (.seq (oX [oE 10 0 2,oC 11 1 10,oB 12 (.eql false false [.int] (oT 11) (oN 4))] [1,2,4,12] [2,4,40] (.ite (oT 12) (.seq (oX [oA 13 1,oB 14 (.len (oT 13)),oB 15 (.mv (oN 0))] [2,4,13,14,15] [2,4,40] (bn 0 15 14 16 1 (oX [oB 17 (.iaddr 1 (oT 13) (oT 15)),
 oC 18 1 17,oA 6 18] [2,4,6,13,14,15] [2,4,40] (oX [oA 19 6,oE 20 4 2,oC 21 1 20,oB 22 (.eql false false [.str] (oT 19) (oT 21))] [2,4,13,14,15,22] [2,4,40] (.ite (oT 22) (oX [oD 23 7 2,oF 7 4 23] [4] [4,40] (.ret)) (.skip)))) 24)) (.keep [2,4] [2,4,40] (oX [oE 25 1 2,oC 26 1 25,oB 27 (.build [oi,oe,oe,oe,oe,ob,on] [(0,1,oN 2),(1,1,oT 26),(3,1,oS ⟨#[97,124,88]⟩)]),
 oF 7 4 27] [4] [4,40] (.ret)))) (.skip))) (.keep [1,2,4] [2,4,40] (oX [oB 7 (.mv (.const on))] [1,2,4,7] [2,4,40] (.seq (oX [oE 28 6 2,oC 29 1 28,oB 30 (.len (oT 29)),oB 31 (.mv (oN 0))] [1,2,4,7,29,30,31] [2,4,40] (bn 2 31 30 32 3 (oX [oB 33 (.iaddr 7 (oT 29) (oT 31)),oD 34 7 33,oB 9 (.alloc aR [oi,oe,oe,oe,oe,ob,on]),oF 7 9 34] [1,2,4,7,9,29,30,31] [2,4,9,40] (.reg [oA 35 7,
 oD 36 7 9,oA 37 1,oZ 38 gV [oT 36,oT 37],oB 39 (.bslice aR 7 [oT 38]),oB 40 (.append none aR 7 104 (oT 35) (oT 39)),oA 7 40])) 41)) (.keep [2,4,7] [2,4,40] (oX [oA 42 7,oE 43 6 2,oF 1 43 42] [2,4] [2,4,40] (oX [oD 44 7 2,oF 7 4 44] [4] [4,40] (.ret))))))))
def tL:List aK:= [.cell 4 true 7]
def KQ:List Nat:= []
theorem Kx:aS Tryz.prog gV KQ uA tL 45:=aA ay (by kernel_rfl)
-- m_Bound range i=19 n=18 c=20 i2=28 id=0: live [1:out, 2:p, 17:] changed [] res [1, 43]
-- m_Bound range i=37 n=36 c=38 i2=44 id=2: live [1:out, 35:] changed [1] res [1, 43]
def ra:CC:=oX [oB 2 (.box aj true (oT 0)),oB 4 (.mv (.const on))] [1,2] [1,43] (mu 1 (oX [oE 9 0 2,oC 10 1 9,oB 11 (.eql false false [.int] (oT 10) (oN 1)),oA 12 11,oH 13 12 (.faddr 8 (oT 2)),oH 14 12 (.load false 1 (oT 13)),oH 15 12 (.eql true false [.str] (oT 14) (oS ⟨#[]⟩)),oB 16 (.pick (oT 12) (oT 15) (.const ob))] [1,2,16] [1,43] (.ite (oT 16) (.seq (oX [
 oA 17 1,oB 18 (.len (oT 17)),oB 19 (.mv (oN 0))] [1,2,17,18,19] [1,43] (bn 0 19 18 20 1 (oX [oB 21 (.iaddr 1 (oT 17) (oT 19)),oC 22 1 21,oA 6 22] [1,2,6,17,18,19] [1,43] (oX [oA 23 6,oE 24 8 2,oC 25 1 24,oB 26 (.eql false false [.str] (oT 23) (oT 25))] [1,2,17,18,19,26] [1,43] (.ite (oT 26) (oX [oA 27 1,oA 4 27] [4] [1,33,43] (.ret)) (.skip)))) 28)) (.keep [1,2] [1,43] (oX [
 oA 29 1,oE 30 8 2,oC 31 1 30,oB 32 (.bslice az 1 [oT 31]),oB 33 (.append none az 1 16 (oT 29) (oT 32)),oA 4 33] [4] [1,33,43] (.ret)))) (.skip))) (.keep [1,2] [1,43] (.seq (oX [oE 34 12 2,oC 35 1 34,oB 36 (.len (oT 35)),oB 37 (.mv (oN 0))] [1,35,36,37] [1,43] (bn 2 37 36 38 3 (oX [oB 39 (.iaddr 13 (oT 35) (oT 37)),oD 40 13 39,
 oB 8 (.alloc aj [oi,oi,oe,oe,oe,oe,ob,on,oe,oe,oi,oi,on]),oF 13 8 40] [1,8,35,36,37] [1,8,43] (.reg [oD 41 13 8,oA 42 1,oZ 43 gH [oT 41,oT 42],oA 1 43])) 44)) (.keep [1] [1,43] (oX [oA 45 1,oA 4 45] [4] [1,33,43] (.ret))))))
def qB:List aK:= [.tmp 4]
def OL:List Nat:= [2]
theorem FY:aS Tryz.prog gH OL ra qB 46:=aA ay (by kernel_rfl)
-- m_Tape_Constraint while id=0: live [0:t, 6:, 11:x, 12:n] changed [12] res [6, 11, 111]
def kH:CC:=oX [oB 6 (.alloc au [oi,oe,oe,oe,oe,oe,ob,oi,oi,on,on])] [0,1,2,6] [6,111] (oX [oA 14 0,oZ 15 am [oT 14,oN 13],oA 7 15] [0,1,2,6,7] [6,111] (mu 2 (oX [oA 16 1,oB 17 (.cmp .lss (oT 16) (oN 1))] [0,1,2,6,7,17] [6,111] (.ite (oT 17) (.reg [oA 18 7,oB 19 (.arith .rem (oT 18) (oN 10)),oA 7 19]) (.skip)))
 (.keep [0,1,2,6,7] [6,111] (.seq (.regd [oA 20 2,oA 21 0,oA 22 2,oB 23 (.len (oT 22)),oZ 24 am [oT 21,oT 23],oB 25 (.iaddr 1 (oT 20) (oT 24)),oC 26 1 25,oA 27 2,oA 28 0,oA 29 2,oB 30 (.len (oT 29)),oZ 31 am [oT 28,oT 30],oB 32 (.iaddr 1 (oT 27) (oT 31)),oC 33 1 32,oA 8 26] [oA 9 33]) (.keep [0,1,2,6,7,8,9] [6,111] (mu 5 (oX [
 oA 34 7] [0,1,2,6,7,8,9,34] [6,111] (.block 0 (oX [oB 36 (.eql false false [.int] (oT 34) (oN 0)),oA 35 36] [0,1,2,6,7,8,9,34,35] [6,111] (.ite (oT 35) (oX [oA 37 8,oB 38 (.build [oi,oe,oe,oe,oe,oe,ob,oi,oi,on,on] [(0,1,oN 1),(1,1,oT 37)]),.op none none (.store (some 6) 11 (oT 6) (oT 38))] [6] [6,111] (.ret)) (oX [oB 40 (.eql false false [.int] (oT 34) (oN 1)),
 oA 39 40] [0,1,2,6,7,8,9,34,39] [6,111] (.ite (oT 39) (.seq (.regd [oA 41 8,oB 42 (.bslice az 1 [oS ⟨#[97]⟩,oS ⟨#[98,124,99]⟩,oS ⟨#[46]⟩]),oA 43 0,oZ 44 am [oT 43,oN 3],oB 45 (.iaddr 1 (oT 42) (oT 44)),oC 46 1 45,oA 47 0,oZ 48 am [oT 47,oN 3],oB 49 (.eql false false [.int] (oT 48) (oN 2))] [
 oB 50 (.build [oi,oe,oe,oe,oe,oe,ob,oi,oi,on,on] [(0,1,oN 2),(1,1,oT 41),(3,1,oS ⟨#[119,111,114,100]⟩),(5,1,oT 46),(6,1,oT 49)]),.op none none (.store (some 6) 11 (oT 6) (oT 50))]) (.keep [6] [6,111] (.ret))) (oX [oB 52 (.eql false false [.int] (oT 34) (oN 2)),oA 51 52] [0,1,2,6,7,8,9,34,51] [6,111] (.ite (oT 51) (oX [oA 53 8,oA 54 9,
 oB 55 (.bslice az 1 [oS ⟨#[119,111,114,100]⟩,oS ⟨#[116,97,103]⟩]),oA 56 0,oZ 57 am [oT 56,oN 2],oB 58 (.iaddr 1 (oT 55) (oT 57)),oC 59 1 58,oB 60 (.build [oi,oe,oe,oe,oe,oe,ob,oi,oi,on,on] [(0,1,oN 3),(1,1,oT 53),(3,1,oS ⟨#[119,111,114,100]⟩),(2,1,oT 54),(4,1,oT 59)]),.op none none (.store (some 6) 11 (oT 6) (oT 60))] [6] [6,111] (.ret)) (oX [
 oB 62 (.eql false false [.int] (oT 34) (oN 3)),oA 61 62] [0,1,2,6,7,8,9,34,61] [6,111] (.ite (oT 61) (oX [oA 63 0,oZ 64 am [oT 63,oN 5],oB 65 (.arith .sub (oT 64) (oN 2)),oA 10 65] [0,6,8,9,10] [6,111] (oX [oA 66 8,oA 67 9,oA 68 10,oA 69 10,oA 70 0,oZ 71 am [oT 70,oN 4],oB 72 (.arith .add (oT 69) (oT 71)),
 oB 73 (.build [oi,oe,oe,oe,oe,oe,ob,oi,oi,on,on] [(0,1,oN 4),(1,1,oT 66),(2,1,oT 67),(7,1,oT 68),(8,1,oT 72)]),.op none none (.store (some 6) 11 (oT 6) (oT 73))] [6] [6,111] (.ret))) (oX [oB 75 (.eql false false [.int] (oT 34) (oN 4)),oA 74 75] [0,1,2,6,7,8,9,34,74] [6,111] (.ite (oT 74) (oX [oA 76 8,oA 77 9,oA 78 0,oZ 79 am [oT 78,oN 3],oZ 80 gW [oT 79],
 oB 81 (.build [oi,oe,oe,oe,oe,oe,ob,oi,oi,on,on] [(0,1,oN 5),(1,1,oT 76),(2,1,oT 77),(3,1,oT 80)]),.op none none (.store (some 6) 11 (oT 6) (oT 81))] [6] [6,111] (.ret)) (oX [oB 83 (.eql false false [.int] (oT 34) (oN 5)),oA 82 83] [0,1,2,6,7,8,9,34,82] [6,111] (.ite (oT 82) (oX [oA 84 8,oA 85 9,oB 86 (.build [oi,oe,oe,oe,oe,oe,ob,oi,oi,on,on] [(0,1,oN 6),(1,1,oT 84),(2,1,oT 85)]),
 .op none none (.store (some 6) 11 (oT 6) (oT 86))] [6] [6,111] (.ret)) (oX [oB 88 (.eql false false [.int] (oT 34) (oN 6)),oA 87 88] [0,1,2,6,7,8,9,34,87] [6,111] (.ite (oT 87) (oX [oA 89 8,oA 90 9,oB 91 (.build [oi,oe,oe,oe,oe,oe,ob,oi,oi,on,on] [(0,1,oN 7),(1,1,oT 89),(2,1,oT 90)]),.op none none (.store (some 6) 11 (oT 6) (oT 91))] [6] [6,111] (.ret)) (oX [
 oB 93 (.eql false false [.int] (oT 34) (oN 7)),oA 92 93] [0,1,2,6,7,8,9,34,92] [6,111] (.ite (oT 92) (oX [oA 94 8,oA 95 9,oB 96 (.build [oi,oe,oe,oe,oe,oe,ob,oi,oi,on,on] [(0,1,oN 8),(1,1,oT 94),(2,1,oT 95)]),oB 11 (.alloc au [oi,oe,oe,oe,oe,oe,ob,oi,oi,on,on]),oF 11 11 96] [0,6,11] [6,11,111] (.seq (oX [oA 97 0,oZ 98 am [oT 97,oN 3],
 oA 12 98] [0,6,11,12] [6,11,111] (.block 1 (.loop 1 (.seq (oX [oA 99 12,oB 100 (.cmp .gtr (oT 99) (oN 0))] [0,6,11,12,100] [6,11,111] (.ite (oT 100) (.skip) (.exit 1))) (.keep [0,6,11,12] [6,11,111] (.seq (.block 2 (.regd [oE 103 9 11,oC 104 1 103,oB 105 (.bslice az 1 [oS ⟨#[111,98,106]⟩,oS ⟨#[100,101,116]⟩,oS ⟨#[]⟩]),oA 106 0,oZ 107 am [oT 106,oN 3],
 oB 108 (.iaddr 1 (oT 105) (oT 107)),oC 109 1 108,oB 110 (.bslice az 1 [oT 109])] [oB 111 (.append (some 111) az 1 16 (oT 104) (oT 110)),oE 112 9 11,.op none none (.store (some 11) 1 (oT 112) (oT 111))])) (.keep [0,6,11,12] [6,11,111] (.reg [oA 101 12,oB 102 (.arith .sub (oT 101) (oN 1)),oA 12 102])))))))) (.keep [6,11] [6,11,111] (oX [oD 113 11 11,
 .op none none (.store (some 6) 11 (oT 6) (oT 113))] [6] [6,111] (.ret))))) (oX [oB 115 (.eql false false [.int] (oT 34) (oN 8)),oA 114 115] [0,1,2,6,7,8,9,34,114] [6,111] (.ite (oT 114) (oX [oA 116 8,oA 117 9,oB 118 (.bslice az 1 [oS ⟨#[83]⟩,oS ⟨#[78,80]⟩,oS ⟨#[86,80]⟩]),oA 119 0,oZ 120 am [oT 119,oN 3],oB 121 (.iaddr 1 (oT 118) (oT 120)),oC 122 1 121,
 oB 123 (.build [oi,oe,oe,oe,oe,oe,ob,oi,oi,on,on] [(0,1,oN 9),(1,1,oT 116),(2,1,oT 117),(3,1,oT 122)]),.op none none (.store (some 6) 11 (oT 6) (oT 123))] [6] [6,111] (.ret)) (oX [oB 125 (.eql false false [.int] (oT 34) (oN 9)),oA 124 125] [0,1,2,6,7,8,34,124] [6,111] (.ite (oT 124) (oX [oA 126 0,oZ 127 am [oT 126,oN 3],oA 13 127] [0,6,8,13] [6,111] (oX [oA 128 8,oA 129 13,
 oA 130 13,oA 131 0,oZ 132 am [oT 131,oN 2],oB 133 (.arith .add (oT 130) (oT 132)),oB 134 (.build [oi,oe,oe,oe,oe,oe,ob,oi,oi,on,on] [(0,1,oN 10),(1,1,oT 128),(7,1,oT 129),(8,1,oT 133)]),.op none none (.store (some 6) 11 (oT 6) (oT 134))] [6] [6,111] (.ret))) (oX [oB 136 (.eql false false [.int] (oT 34) (oN 10)),oA 135 136] [0,1,2,6,7,135] [6,111] (.ite (oT 135) (oX [oA 137 0,
 oA 138 1,oB 139 (.arith .sub (oT 138) (oN 1)),oA 140 2,oZ 141 bO [oT 137,oT 139,oT 140],oB 142 (.bslice au 11 [oT 141]),oB 143 (.build [oi,oe,oe,oe,oe,oe,ob,oi,oi,on,on] [(0,1,oN 11),(10,1,oT 142)]),.op none none (.store (some 6) 11 (oT 6) (oT 143))] [6] [6,111] (.ret)) (.skip))))))))))))))))))))))))) (.keep [0,1,2,6,7] [6,111] (oX [oA 144 7,
 oB 145 (.arith .add (oN 12) (oT 144)),oB 146 (.arith .sub (oT 145) (oN 11)),oA 147 0,oA 148 1,oB 149 (.arith .sub (oT 148) (oN 1)),oA 150 2,oZ 151 bO [oT 147,oT 149,oT 150],oA 152 0,oA 153 1,oB 154 (.arith .sub (oT 153) (oN 1)),oA 155 2,oZ 156 bO [oT 152,oT 154,oT 155],oB 157 (.bslice au 11 [oT 151,oT 156]),
 oB 158 (.build [oi,oe,oe,oe,oe,oe,ob,oi,oi,on,on] [(0,1,oT 146),(10,1,oT 157)]),.op none none (.store (some 6) 11 (oT 6) (oT 158))] [6] [6,111] (.ret)))))))))
def j4:List aK:= [.cell 6 true 11]
def wM:List Nat:= [2006006,2112011,1111111]
theorem wl:aS Tryz.prog bO wM kH j4 159:=aA ay (by kernel_rfl)
def nZ:CC:=oX [oB 2 (.alloc gc [oi,ob,oe])] [0,2] [2] (oX [oA 3 0,oZ 4 am [oT 3,oN 3],oB 5 (.arith .add (oN 1) (oT 4)),oA 6 0,oZ 7 am [oT 6,oN 3],oB 8 (.eql false false [.int] (oT 7) (oN 2)),oA 9 0,oZ 10 am [oT 9,oN 3],oZ 11 gW [oT 10],oB 12 (.build [oi,ob,oe] [(0,1,oT 5),(1,1,oT 8),(2,1,oT 11)]),oF 3 2 12] [2] [2] (.ret))
def nI:List aK:= [.cell 2 true 3]
def B5:List Nat:= []
theorem BL:aS Tryz.prog ji B5 nZ nI 13:=aA ay (by kernel_rfl)
-- m_Tape_Query while id=0: live [0:t, 4:, 7:q, 8:n] changed [8] res [4, 7, 18, 49]
def pI:CC:=oX [oB 4 (.alloc jO [oi,oi,oe,oe,oe,oe,ob,on,oe,oe,oi,oi,on,oi,oe,oe,oe,oe,oe,ob,oi,oi,on,on,on,oi])] [0,1,4] [4,18,49] (oX [oB 5 (.mv (.const on))] [0,1,4,5] [4,18,49] (mu 2 (oX [oA 9 0,oZ 10 am [oT 9,oN 2],oB 11 (.eql false false [.int] (oT 10) (oN 1))] [0,1,4,5,11] [4,18,49] (.ite (oT 11) (.reg [
 oB 12 (.bslice az 1 [oS ⟨#[120]⟩,oS ⟨#[121]⟩]),oA 5 12]) (.skip))) (.keep [0,1,4,5] [4,18,49] (oX [oA 13 0,oA 14 1,oA 15 5,oZ 16 bS [oT 13,oT 14,oT 15],oB 6 (.alloc aj [oi,oi,oe,oe,oe,oe,ob,on,oe,oe,oi,oi,on]),oF 13 6 16] [0,4,6] [4,6,18,49] (oX [oD 17 13 6,oZ 18 gH [oT 17,.const on],.frz 18 1,oA 5 18] [0,4,5,6] [4,6,18,49] (oX [oD 19 13 6,oA 20 5,
 oZ 21 m9 [oT 19,oT 20],oA 22 0,oZ 23 am [oT 22,oN 4],oB 24 (.build [oi,oi,oe,oe,oe,oe,ob,on,oe,oe,oi,oi,on,oi,oe,oe,oe,oe,oe,ob,oi,oi,on,on,on,oi] [(0,13,oT 21),(25,1,oT 23)]),oB 7 (.alloc jO [oi,oi,oe,oe,oe,oe,ob,on,oe,oe,oi,oi,on,oi,oe,oe,oe,oe,oe,ob,oi,oi,on,on,on,oi]),oF 26 7 24] [0,4,5,7] [4,7,18,49] (mu 7 (oX [oA 25 5,oB 26 (.len (oT 25)),
 oB 27 (.cmp .gtr (oT 26) (oN 0)),oA 28 27,oH 29 28 (.mv (oT 0)),oH 30 28 (.call am [oT 29,oN 2]),oH 31 28 (.eql false false [.int] (oT 30) (oN 1)),oB 32 (.pick (oT 28) (oT 31) (.const ob))] [0,4,5,7,32] [4,7,18,49] (.ite (oT 32) (.reg [oA 33 0,oA 34 5,oZ 35 bO [oT 33,oN 2,oT 34],oE 36 13 7,oF 11 36 35]) (.skip))) (.keep [0,4,7] [4,7,18,49] (mu 9 (oX [
 oA 37 0,oZ 38 am [oT 37,oN 4],oB 39 (.arith .quo (oT 38) (oN 2)),oA 8 39] [0,4,7,8] [4,7,18,49] (.block 0 (.loop 1 (.seq (oX [oA 40 8,oB 41 (.cmp .gtr (oT 40) (oN 0))] [0,4,7,8,41] [4,7,18,49] (.ite (oT 41) (.skip) (.exit 0))) (.keep [0,4,7,8] [4,7,18,49] (.seq (.block 1 (.regd [oE 44 24 7,oC 45 1 44,oA 46 0,oZ 47 ji [oT 46],oB 48 (.bslice gc 3 [oT 47])] [
 oB 49 (.append (some 49) gc 3 32 (oT 45) (oT 48)),oE 50 24 7,.op none none (.store (some 7) 1 (oT 50) (oT 49))])) (.keep [0,4,7,8] [4,7,18,49] (.reg [oA 42 8,oB 43 (.arith .sub (oT 42) (oN 1)),oA 8 43])))))))) (.keep [4,7] [4,7,18,49] (oX [oD 51 26 7,oF 26 4 51] [4] [4,18,49] (.ret))))))))))))
def px:List aK:= [.cell 4 true 26]
def DU:List Nat:= [1049049,2050007]
theorem DH:aS Tryz.prog kj DU pI px 52:=aA ay (by kernel_rfl)
end Go.Gv

namespace Go.Gv
open Cod (enc dec)
structure Cond where
 op:Int
 name:B
 arg:B
 val:B
 lab:B
 fold:Bool
 kids:List Cond
mutual
def GT:Cond→D
 | .mk op n a v l f ks=> .agg [enc op,enc n,enc a,enc v,enc l,enc f, .list 7 (uQ ks)]
def uQ:List Cond→List D
 | []=> []
 | k::ks=> GT k::uQ ks
end
mutual
def Is:D→Option Cond
 | .agg [x0,x1,x2,x3,x4,x5,x6]=> (dec x0).bind fun op=> (dec x1).bind fun n=> (dec x2).bind fun a=> (dec x3).bind fun v=> (dec x4).bind fun l=> (dec x5).bind fun f=> (Na x6).bind fun ks=> some (.mk op n a v l f ks)
 | _=> none
def Na:D→Option (List Cond)
 | .list n es=> if n=7 then wX es else none
 | .v (.slice none 0 0)=> some []
 | _=> none
def wX:List D→Option (List Cond)
 | []=> some []
 | d::ds=> (Is d).bind fun x=> (wX ds).bind fun xs=> some (x::xs)
end
theorem Cl: ∀l:List Cond,uQ l=l.map GT
 | []=> rfl
 | _::l=> by rw[uQ,Cl l];rfl
theorem Qd: ∀c:Cond,(GT c).kn=true
 | .mk .. => rfl
theorem M3: ∀c:Cond,(GT c).cells.length=7
 | .mk .. => rfl
mutual
theorem Ng: ∀c:Cond,Is (GT c)=some c
 | .mk op n a v l f ks=> by
   have h:Na (.list 7 (uQ ks))=some ks:=by rw[Na,if_pos rfl];exact Jh ks
   simp only[GT,Is,Cod.dec_enc,Option.bind_some,h]
theorem Jh: ∀l:List Cond,wX (uQ l)=some l
 | []=> by simp only[uQ,wX]
 | c::l=> by simp only[uQ,wX,Ng c,Jh l,Option.bind_some]
end
mutual
theorem Qj: ∀ (d:D) (c:Cond),Is d=some c→FrzTo cZ d (GT c)
 | .agg [x0,x1,x2,x3,x4,x5,x6],c,h=> by
   simp only[Is,Option.bind_eq_some_iff,Option.some.injEq] at h
   obtain⟨op,h0,n,h1,a,h2,v,h3,l,h4,f,h5,ks,h6,rfl⟩:=h
   rw[GT]
   exact LeL.agg (.cons (Cod.le _ _ h0) (.cons (Cod.le _ _ h1) (.cons (Cod.le _ _ h2) (.cons (Cod.le _ _ h3) (.cons (Cod.le _ _ h4) (.cons (Cod.le _ _ h5) (.cons (Qh x6 ks h6) .nil)))))))
theorem Qh: ∀ (d:D) (l:List Cond),Na d=some l→FrzTo cZ d (.list 7 (uQ l))
 | .list n es,l,h=> by
   simp only[Na] at h
   split at h
   ·rename_i hn
    subst hn
    have hl:=Nf es l h
    refine .list hl.1 (fun e he=> ?_) hl.2
    rw[Cl] at he
    obtain⟨x,hx,rfl⟩:=List.mem_map.1 he
    exact⟨Qd x,M3 x⟩
   ·cases h
 | .v (.slice none 0 0),l,h=> by
   simp only[Na,Option.some.injEq] at h
   subst h
   exact .nil _
theorem Nf: ∀ (es:List D) (l:List Cond),wX es=some l→LeL es (uQ l)
 | [],l,h=> by
   simp only[wX,Option.some.injEq] at h
   subst h
   exact .nil
 | d::ds,l,h=> by
   simp only[wX,Option.bind_eq_some_iff,Option.some.injEq] at h
   obtain⟨x,h1,xs,h2,rfl⟩:=h
   rw[uQ]
   exact .cons (Qj d x h1) (Nf ds xs h2)
end
instance:Cod Cond where
 wd:=7
 enc:=GT
 dec:=Is
 kn:=Qd
 wid:=M3
 dec_enc:=Ng
 le:=Qj
theorem Je (ks:List Cond):D.list 7 (uQ ks)=enc ks:=by rw[Cl];rfl
theorem MZ (op:Int) (n a v l:B) (f:Bool) (ks:List Cond):enc (Cond.mk op n a v l f ks)= .agg [enc op,enc n,enc a,enc v,enc l,enc f,enc ks]:=by
 rw[←Je]
 show GT _=_
 rw[GT]
structure Pat where
 op:Int
 cond:Cond
 lab:B
 reg:B
 mn:Int
 mx:Int
 kids:List Pat
def w4:Cond→List D
 | .mk op n a v l f ks=> [enc op,enc n,enc a,enc v,enc l,enc f,enc ks]
theorem G3: ∀c:Cond,(w4 c).length=7
 | .mk .. => rfl
mutual
def DY:Pat→D
 | .mk op c l r mn mx ks=> .agg (enc op:: (w4 c++ [enc l,enc r,enc mn,enc mx, .list 13 (uO ks)]))
def uO:List Pat→List D
 | []=> []
 | k::ks=> DY k::uO ks
end
mutual
def M9:D→Option Pat
 | .agg [x0,y0,y1,y2,y3,y4,y5,y6,x1,x2,x3,x4,x5]=> (dec x0).bind fun op=> (dec (D.agg [y0,y1,y2,y3,y4,y5,y6])).bind fun c=> (dec x1).bind fun l=> (dec x2).bind fun r=> (dec x3).bind fun mn=> (dec x4).bind fun mx=> (CP x5).bind fun ks=> some (.mk op c l r mn mx ks)
 | _=> none
def CP:D→Option (List Pat)
 | .list n es=> if n=13 then wV es else none
 | .v (.slice none 0 0)=> some []
 | _=> none
def wV:List D→Option (List Pat)
 | []=> some []
 | d::ds=> (M9 d).bind fun x=> (wV ds).bind fun xs=> some (x::xs)
end
theorem Cj: ∀l:List Pat,uO l=l.map DY
 | []=> rfl
 | _::l=> by rw[uO,Cj l];rfl
theorem Qb: ∀c:Pat,(DY c).kn=true
 | .mk .. => rfl
theorem M1: ∀c:Pat,(DY c).cells.length=13
 | .mk op c l r mn mx ks=> by simp[DY,D.cells,G3]
mutual
theorem M8: ∀c:Pat,M9 (DY c)=some c
 | .mk op (.mk cop n a v cl f cks) l r mn mx ks=> by
   have h:CP (.list 13 (uO ks))=some ks:=by rw[CP,if_pos rfl];exact Jf ks
   have hc:dec (D.agg [enc cop,enc n,enc a,enc v,enc cl,enc f,enc cks])=some (Cond.mk cop n a v cl f cks):=by rw[←MZ];exact Cod.dec_enc _
   simp only[DY,w4,List.cons_append,List.nil_append,M9,Cod.dec_enc,Option.bind_some,h,hc]
theorem Jf: ∀l:List Pat,wV (uO l)=some l
 | []=> by simp only[uO,wV]
 | c::l=> by simp only[uO,wV,M8 c,Jf l,Option.bind_some]
end
theorem R0 {y0 y1 y2 y3 y4 y5 y6:D} {c:Cond} (h:dec (D.agg [y0,y1,y2,y3,y4,y5,y6])=some c):LeL [y0,y1,y2,y3,y4,y5,y6] (w4 c):=by
 have h':Is (D.agg [y0,y1,y2,y3,y4,y5,y6])=some c:=h
 simp only[Is,Option.bind_eq_some_iff,Option.some.injEq] at h'
 obtain⟨op,h0,n,h1,a,h2,v,h3,l,h4,f,h5,ks,h6,rfl⟩:=h'
 have hk:=Qh y6 ks h6
 rw[Je] at hk
 exact .cons (Cod.le _ _ h0) (.cons (Cod.le _ _ h1) (.cons (Cod.le _ _ h2) (.cons (Cod.le _ _ h3) (.cons (Cod.le _ _ h4) (.cons (Cod.le _ _ h5) (.cons hk .nil))))))
theorem LeL.append {a b c d:List D} (h:LeL a b) (k:LeL c d):LeL (a++c) (b++d):=by
 refine⟨by simp[h.1,k.1],fun i x y hx hy=> ?_⟩
 rw[List.getElem?_append] at hx hy
 by_cases hi:i < a.length
 ·rw[if_pos hi] at hx
  rw[if_pos (by rw[←h.1];exact hi)] at hy
  exact h.2 i x y hx hy
 ·rw[if_neg hi] at hx
  rw[if_neg (by rw[←h.1];exact hi),←h.1] at hy
  exact k.2 _ x y hx hy
mutual
theorem Qg: ∀ (d:D) (c:Pat),M9 d=some c→FrzTo cZ d (DY c)
 | .agg [x0,y0,y1,y2,y3,y4,y5,y6,x1,x2,x3,x4,x5],c,h=> by
   simp only[M9,Option.bind_eq_some_iff,Option.some.injEq] at h
   obtain⟨op,h0,c,h1,l,h2,r,h3,mn,h4,mx,h5,ks,h6,rfl⟩:=h
   rw[DY]
   exact LeL.agg (.cons (Cod.le _ _ h0) ((R0 h1).append (.cons (Cod.le _ _ h2) (.cons (Cod.le _ _ h3) (.cons (Cod.le _ _ h4) (.cons (Cod.le _ _ h5) (.cons (Ve x5 ks h6) .nil)))))))
theorem Ve: ∀ (d:D) (l:List Pat),CP d=some l→FrzTo cZ d (.list 13 (uO l))
 | .list n es,l,h=> by
   simp only[CP] at h
   split at h
   ·rename_i hn
    subst hn
    have hl:=M7 es l h
    refine .list hl.1 (fun e he=> ?_) hl.2
    rw[Cj] at he
    obtain⟨x,hx,rfl⟩:=List.mem_map.1 he
    exact⟨Qb x,M1 x⟩
   ·cases h
 | .v (.slice none 0 0),l,h=> by
   simp only[CP,Option.some.injEq] at h
   subst h
   exact .nil _
theorem M7: ∀ (es:List D) (l:List Pat),wV es=some l→LeL es (uO l)
 | [],l,h=> by
   simp only[wV,Option.some.injEq] at h
   subst h
   exact .nil
 | d::ds,l,h=> by
   simp only[wV,Option.bind_eq_some_iff,Option.some.injEq] at h
   obtain⟨x,h1,xs,h2,rfl⟩:=h
   rw[uO]
   exact .cons (Qg d x h1) (M7 ds xs h2)
end
instance:Cod Pat where
 wd:=13
 enc:=DY
 dec:=M9
 kn:=Qb
 wid:=M1
 dec_enc:=M8
 le:=Qg
theorem RV (ks:List Pat):D.list 13 (uO ks)=enc ks:=by rw[Cj];rfl
theorem K1 (op:Int) (c:Cond) (l r:B) (mn mx:Int) (ks:List Pat):enc (Pat.mk op c l r mn mx ks)= .agg (enc op:: (w4 c++ [enc l,enc r,enc mn,enc mx,enc ks])):=by
 rw[←RV]
 show DY _=_
 rw[DY]
theorem GY: ∀es:List D,wX es=es.mapM (dec (X:=Cond))
 | []=> by simp[wX]
 | d::es=> by
   rw[wX,List.mapM_cons,GY es]
   rfl
theorem XC: ∀d:D,Na d=dec (X:=List Cond) d:=fun d=> by
 unfold Na
 split
 ·rename_i n es
  show _=if n=7 then es.mapM (dec (X:=Cond)) else none
  rw[GY]
 ·rfl
 ·rename_i h1 h2
  show _=(match d with
   | .list n es=> if n=7 then es.mapM (dec (X:=Cond)) else none
   | .v (.slice none 0 0)=> some []
   | _=> none)
  split
  ·exact absurd rfl (h1 _ _)
  ·exact absurd rfl h2
  ·rfl
theorem GW: ∀es:List D,wV es=es.mapM (dec (X:=Pat))
 | []=> by simp[wV]
 | d::es=> by
   rw[wV,List.mapM_cons,GW es]
   rfl
theorem Vf: ∀d:D,CP d=dec (X:=List Pat) d:=fun d=> by
 unfold CP
 split
 ·rename_i n es
  show _=if n=13 then es.mapM (dec (X:=Pat)) else none
  rw[GW]
 ·rfl
 ·rename_i h1 h2
  show _=(match d with
   | .list n es=> if n=13 then es.mapM (dec (X:=Pat)) else none
   | .v (.slice none 0 0)=> some []
   | _=> none)
  split
  ·exact absurd rfl (h1 _ _)
  ·exact absurd rfl h2
  ·rfl
@[simp] theorem AE (s:Cond):Cond.mk s.op s.name s.arg s.val s.lab s.fold s.kids=s:=by cases s;rfl
@[simp] theorem M0 (s:Cond):enc s= .agg [enc s.op,enc s.name,enc s.arg,enc s.val,enc s.lab,enc s.fold,enc s.kids]:=by cases s;exact MZ ..
@[simp] theorem qcD:Cod.wd Cond=7:=id rfl
@[simp] theorem Vd (x0 x1 x2 x3 x4 x5 x6:D):dec (X:=Cond) (.agg [x0,x1,x2,x3,x4,x5,x6])=((dec x0).bind fun x0=> (dec x1).bind fun x1=> (dec x2).bind fun x2=> (dec x3).bind fun x3=> (dec x4).bind fun x4=> (dec x5).bind fun x5=> (dec x6).bind fun x6=> some ⟨x0,x1,x2,x3,x4,x5,x6⟩):=by
 show Is _=_
 simp only[Is,XC]
@[simp] theorem qdL (s:Pat):Pat.mk s.op s.cond s.lab s.reg s.mn s.mx s.kids=s:=by cases s;rfl
@[simp] theorem K2 (s:Pat):enc s= .agg [enc s.op,enc s.cond.op,enc s.cond.name,enc s.cond.arg,enc s.cond.val,enc s.cond.lab,enc s.cond.fold,enc s.cond.kids,enc s.lab,enc s.reg,enc s.mn,enc s.mx,enc s.kids]:=by
 obtain⟨op,⟨a,b,c,d,e,f,g⟩,l,r,mn,mx,ks⟩:=s
 exact K1 ..
@[simp] theorem qeA:Cod.wd Pat=13:=id rfl
@[simp] theorem qdR (x0 y0 y1 y2 y3 y4 y5 y6 x1 x2 x3 x4 x5:D):dec (X:=Pat) (.agg [x0,y0,y1,y2,y3,y4,y5,y6,x1,x2,x3,x4,x5])=
 ((dec x0).bind fun x0=> (dec y0).bind fun y0=> (dec y1).bind fun y1=> (dec y2).bind fun y2=> (dec y3).bind fun y3=> (dec y4).bind fun y4=> (dec y5).bind fun y5=> (dec y6).bind fun y6=>
   (dec x1).bind fun x1=> (dec x2).bind fun x2=> (dec x3).bind fun x3=> (dec x4).bind fun x4=> (dec x5).bind fun x5=> some ⟨x0,⟨y0,y1,y2,y3,y4,y5,y6⟩,x1,x2,x3,x4,x5⟩):=by
 show M9 _=_
 simp only[M9,Vf,Vd,Option.bind_assoc,Option.bind_some]
end Go.Gv
