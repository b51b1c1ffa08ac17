/- A part of the framework and of the walks: C4 V2 L1 V3 V4 V5 V11 Cc W1. -/
import Derived.Test.YtaiffcbkmgfklaaGreatDoorGu10
set_option linter.unusedSimpArgs false
set_option linter.unusedVariables false
set_option maxRecDepth 100000

namespace Go.Gv
open Go.Proofs
def ra:CC:=oX [oB 6 (.alloc aH [oi,oe,oe,oe,oe,ob,on])] [0,1,2,6] [6] (iB 1 (oX [oA 7 0,oZ 8 ap [oT 7,oN 8]] [0,1,2,6,8] [6] (.block 0 (oX [oB 10 (.eql false false [.int] (oT 8) (oN 0)),oA 9 10] [0,1,2,6,8,9] [6] (.ite (oT 9) (oX [oB 11 (.build [oi,oe,oe,oe,oe,ob,on] [(0,1,oN 1)]),.op none none (.store (some 6) 7 (oT 6) (oT 11))] [6] [6] (.ret)) (.seq (oX [
 oB 13 (.eql false false [.int] (oT 8) (oN 1)),oA 12 13] [0,1,2,6,8,12] [6] (.ite (oT 12) (.skip) (.reg [oB 14 (.eql false false [.int] (oT 8) (oN 2)),oA 12 14]))) (.keep [0,1,2,6,12] [6] (.ite (oT 12) (.seq (.regd [oB 15 (.bslice aF 1 [oS ⟨#[97]⟩,oS ⟨#[98]⟩,oS ⟨#[97,46,42]⟩,oS ⟨#[91,97,98,93]⟩]),oA 16 0,oZ 17 ap [oT 16,oN 4],oB 18 (.iaddr 1 (oT 15) (oT 17)),oC 19 1 18,
 oA 20 0,oZ 21 ap [oT 20,oN 3],oB 22 (.eql false false [.int] (oT 21) (oN 2))] [oB 23 (.build [oi,oe,oe,oe,oe,ob,on] [(0,1,oN 2),(3,1,oT 19),(5,1,oT 22)]),.op none none (.store (some 6) 7 (oT 6) (oT 23))]) (.keep [6] [6] (.ret))) (.skip)))))))) (.keep [0,1,2,6] [6] (oX [oA 24 0,oA 25 1,oA 26 2,oZ 27 cM [oT 24,oT 25,oT 26],
 .op none none (.store (some 6) 7 (oT 6) (oT 27))] [6] [6] (.ret))))
def qt:List aI:= [.cell 6 true 7]
def Hp:List Nat:= [2006006]
theorem GS:aR Tryz.prog kP Hp ra qt 28:=aA ay (by kernel_rfl)
def px:CC:=oX [oB 6 (.alloc aH [oi,oe,oe,oe,oe,ob,on])] [0,1,2,6] [6] (oX [oA 9 0,oZ 10 ap [oT 9,oN 12],oA 7 10] [0,1,2,6,7] [6] (iB 2 (oX [oA 11 1,oB 12 (.cmp .lss (oT 11) (oN 1))] [0,1,2,6,7,12] [6] (.ite (oT 12) (.reg [oA 13 7,oB 14 (.arith .rem (oT 13) (oN 8)),oA 7 14]) (.skip))) (.keep [0,1,2,6,7] [6] (iB 4 (oX [
 oA 15 7] [0,1,2,6,7,15] [6] (.block 0 (iB 6 (oX [oB 17 (.eql false false [.int] (oT 15) (oN 0)),oA 16 17] [0,1,2,6,7,15,16] [6] (.ite (oT 16) (.skip) (oX [oB 18 (.eql false false [.int] (oT 15) (oN 1)),oA 16 18] [0,1,2,6,7,15,16] [6] (.ite (oT 16) (.skip) (oX [oB 19 (.eql false false [.int] (oT 15) (oN 2)),oA 16 19] [0,1,2,6,7,15,16] [6] (.ite (oT 16) (.skip) (.reg [
 oB 20 (.eql false false [.int] (oT 15) (oN 3)),oA 16 20]))))))) (.keep [0,1,2,6,7,15,16] [6] (.ite (oT 16) (.seq (.regd [oB 21 (.bslice aF 1 [oS ⟨#[119,111,114,100]⟩,oS ⟨#[119,111,114,100]⟩,oS ⟨#[116,97,103]⟩]),oA 22 0,oZ 23 ap [oT 22,oN 3],oB 24 (.iaddr 1 (oT 21) (oT 23)),oC 25 1 24,
 oB 26 (.bslice aF 1 [oS ⟨#[97]⟩,oS ⟨#[98]⟩,oS ⟨#[97,46,42]⟩,oS ⟨#[91,97,98,93]⟩,oS ⟨#[88]⟩,oS ⟨#[]⟩,oS ⟨#[99,63]⟩,oS ⟨#[97,124,98]⟩]),oA 27 0,oZ 28 ap [oT 27,oN 8],oB 29 (.iaddr 1 (oT 26) (oT 28)),oC 30 1 29,oA 31 0,oZ 32 ap [oT 31,oN 3],oB 33 (.eql false false [.int] (oT 32) (oN 2))] [
 oB 34 (.build [oi,oe,oe,oe,oe,ob,on] [(0,1,oN 2),(1,1,oT 25),(3,1,oT 30),(5,1,oT 33)]),.op none none (.store (some 6) 7 (oT 6) (oT 34))]) (.keep [6] [6] (.ret))) (oX [oB 36 (.eql false false [.int] (oT 15) (oN 4)),oA 35 36] [0,1,2,6,7,15,35] [6] (.ite (oT 35) (oX [oB 37 (.bslice aF 1 [oS ⟨#[112]⟩,oS ⟨#[113]⟩]),oA 38 0,oZ 39 ap [oT 38,oN 2],
 oB 40 (.iaddr 1 (oT 37) (oT 39)),oC 41 1 40,oB 42 (.build [oi,oe,oe,oe,oe,ob,on] [(0,1,oN 3),(1,1,oS ⟨#[102,101,97,116]⟩),(3,1,oT 41)]),.op none none (.store (some 6) 7 (oT 6) (oT 42))] [6] [6] (.ret)) (oX [oB 44 (.eql false false [.int] (oT 15) (oN 5)),oA 43 44] [0,1,2,6,7,15,43] [6] (.ite (oT 43) (.seq (oX [oA 45 2,oB 46 (.len (oT 45)),
 oB 47 (.cmp .gtr (oT 46) (oN 0))] [0,2,6,47] [6] (.ite (oT 47) (.seq (.regd [oB 48 (.bslice aF 1 [oS ⟨#[119,111,114,100]⟩,oS ⟨#[116,97,103]⟩]),oA 49 0,oZ 50 ap [oT 49,oN 2],oB 51 (.iaddr 1 (oT 48) (oT 50)),oC 52 1 51,oA 53 2,oA 54 0,oA 55 2,oB 56 (.len (oT 55)),oZ 57 ap [oT 54,oT 56],oB 58 (.iaddr 1 (oT 53) (oT 57)),oC 59 1 58,
 oB 60 (.bslice aF 1 [oS ⟨#[119,111,114,100]⟩,oS ⟨#[116,97,103]⟩]),oA 61 0,oZ 62 ap [oT 61,oN 2],oB 63 (.iaddr 1 (oT 60) (oT 62)),oC 64 1 63] [oB 65 (.build [oi,oe,oe,oe,oe,ob,on] [(0,1,oN 4),(1,1,oT 52),(4,1,oT 59),(2,1,oT 64)]),.op none none (.store (some 6) 7 (oT 6) (oT 65))]) (.keep [6] [6] (.ret))) (.skip))) (.keep [6] [6] (oX [
 oB 66 (.build [oi,oe,oe,oe,oe,ob,on] [(0,1,oN 2),(1,1,oS ⟨#[116,97,103]⟩),(3,1,oS ⟨#[89]⟩)]),.op none none (.store (some 6) 7 (oT 6) (oT 66))] [6] [6] (.ret)))) (iB 18 (oX [oB 68 (.eql false false [.int] (oT 15) (oN 6)),oA 67 68] [0,1,2,6,7,15,67] [6] (.ite (oT 67) (.skip) (.reg [oB 69 (.eql false false [.int] (oT 15) (oN 7)),oA 67 69]))) (.keep [0,1,2,6,7,15,67] [6] (.ite (oT 67) (oX [
 oA 70 0,oZ 71 ap [oT 70,oN 3],oZ 72 gq [oT 71],oB 73 (.build [oi,oe,oe,oe,oe,ob,on] [(0,1,oN 5),(1,1,oT 72)]),oB 8 (.alloc aH [oi,oe,oe,oe,oe,ob,on]),oF 7 8 73] [0,6,8] [6,8] (iB 21 (oX [oA 74 0,oZ 75 ap [oT 74,oN 2],oB 76 (.eql false false [.int] (oT 75) (oN 1))] [0,6,8,76] [6,8] (.ite (oT 76) (.regd [
 oB 77 (.bslice aF 1 [oS ⟨#[49]⟩,oS ⟨#[50]⟩]),oA 78 0,oZ 79 ap [oT 78,oN 2],oB 80 (.iaddr 1 (oT 77) (oT 79)),oC 81 1 80,oE 82 2 8,.op none none (.store (some 8) 1 (oT 82) (oS ⟨#[110]⟩))] [oE 83 3 8,.op none none (.store (some 8) 1 (oT 83) (oT 81))]) (.skip))) (.keep [6,8] [6,8] (oX [oD 84 7 8,.op none none (.store (some 6) 7 (oT 6) (oT 84))] [6] [6] (.ret)))))
 (iB 24 (oX [oB 86 (.eql false false [.int] (oT 15) (oN 8)),oA 85 86] [0,1,2,6,7,15,85] [6] (.ite (oT 85) (.skip) (.reg [oB 87 (.eql false false [.int] (oT 15) (oN 9)),oA 85 87]))) (.keep [0,1,2,6,7,85] [6] (.ite (oT 85) (oX [oA 88 0,oA 89 1,oB 90 (.arith .sub (oT 89) (oN 1)),oA 91 2,oZ 92 cM [oT 88,oT 90,oT 91],oB 93 (.bslice aH 7 [oT 92]),
 oB 94 (.build [oi,oe,oe,oe,oe,ob,on] [(0,1,oN 6),(6,1,oT 93)]),.op none none (.store (some 6) 7 (oT 6) (oT 94))] [6] [6] (.ret)) (.skip)))))))))))))))) (.keep [0,1,2,6,7] [6] (oX [oA 95 7,oB 96 (.arith .add (oN 7) (oT 95)),oB 97 (.arith .sub (oT 96) (oN 10)),oA 98 0,oA 99 1,oB 100 (.arith .sub (oT 99) (oN 1)),oA 101 2,oZ 102 cM [oT 98,oT 100,oT 101],oA 103 0,oA 104 1,
 oB 105 (.arith .sub (oT 104) (oN 1)),oA 106 2,oZ 107 cM [oT 103,oT 105,oT 106],oB 108 (.bslice aH 7 [oT 102,oT 107]),oB 109 (.build [oi,oe,oe,oe,oe,ob,on] [(0,1,oT 97),(6,1,oT 108)]),.op none none (.store (some 6) 7 (oT 6) (oT 109))] [6] [6] (.ret)))))))
def pg:List aI:= [.cell 6 true 7]
def EK:List Nat:= [2006006,2006006,2083008,2082008]
theorem Ey:aR Tryz.prog cM EK px pg 110:=aA ay (by kernel_rfl)
def m5:CC:=oX [oB 6 (.alloc ag [oi,oi,oe,oe,oe,oe,ob,on,oe,oe,oi,oi,on])] [0,1,2,6] [6] (oX [oA 10 0,oZ 11 ap [oT 10,oN 14],oA 7 11] [0,1,2,6,7] [6] (iB 2 (oX [oA 12 1,oB 13 (.cmp .lss (oT 12) (oN 1))] [0,1,2,6,7,13] [6] (.ite (oT 13) (.reg [oA 14 7,oB 15 (.arith .rem (oT 14) (oN 7)),oA 7 15]) (.skip))) (.keep [0,1,2,6,7] [6] (iB 4 (.block 0 (oX [
 oA 17 7,oB 18 (.cmp .lss (oT 17) (oN 5)),oA 16 18] [0,1,2,6,7,16] [6] (.ite (oT 16) (oX [oA 19 0,oA 20 2,oZ 21 kP [oT 19,oN 1,oT 20],oB 22 (.build [oi,oi,oe,oe,oe,oe,ob,on,oe,oe,oi,oi,on] [(0,1,oN 1),(1,7,oT 21)]),oB 8 (.alloc ag [oi,oi,oe,oe,oe,oe,ob,on,oe,oe,oi,oi,on]),oF 13 8 22] [0,2,6,8] [6,8] (iB 7 (oX [oA 23 2,oB 24 (.len (oT 23)),
 oB 25 (.cmp .gtr (oT 24) (oN 0)),oA 26 25,oH 27 26 (.mv (oT 0)),oH 28 26 (.call ap [oT 27,oN 2]),oH 29 26 (.eql false false [.int] (oT 28) (oN 1)),oB 30 (.pick (oT 26) (oT 29) (.const ob))] [0,2,6,8,30] [6,8] (.ite (oT 30) (.reg [oA 31 2,oA 32 0,oA 33 2,oB 34 (.len (oT 33)),oZ 35 ap [oT 32,oT 34],oB 36 (.iaddr 1 (oT 31) (oT 35)),oC 37 1 36,oE 38 8 8,
 oF 1 38 37]) (.skip))) (.keep [6,8] [6,8] (oX [oD 39 13 8,.op none none (.store (some 6) 13 (oT 6) (oT 39))] [6] [6] (.ret))))) (oX [oA 41 7,oB 42 (.cmp .lss (oT 41) (oN 7)),oA 40 42] [0,1,2,6,7,40] [6] (.ite (oT 40) (oX [oA 43 7,oB 44 (.arith .add (oN 2) (oT 43)),oB 45 (.arith .sub (oT 44) (oN 5)),oA 46 0,oZ 47 ap [oT 46,oN 3],oZ 48 gq [oT 47],
 oB 49 (.build [oi,oi,oe,oe,oe,oe,ob,on,oe,oe,oi,oi,on] [(0,1,oT 45),(9,1,oT 48)]),.op none none (.store (some 6) 13 (oT 6) (oT 49))] [6] [6] (.ret)) (oX [oA 51 7,oB 52 (.cmp .lss (oT 51) (oN 10)),oA 50 52] [0,1,2,6,7,50] [6] (.ite (oT 50) (oX [oA 53 0,oA 54 1,oB 55 (.arith .sub (oT 54) (oN 1)),oA 56 2,oZ 57 bC [oT 53,oT 55,oT 56],oA 58 0,oA 59 1,
 oB 60 (.arith .sub (oT 59) (oN 1)),oA 61 2,oZ 62 bC [oT 58,oT 60,oT 61],oB 63 (.bslice ag 13 [oT 57,oT 62]),oB 64 (.build [oi,oi,oe,oe,oe,oe,ob,on,oe,oe,oi,oi,on] [(0,1,oN 4),(12,1,oT 63)]),.op none none (.store (some 6) 13 (oT 6) (oT 64))] [6] [6] (.ret)) (oX [oA 66 7,oB 67 (.cmp .lss (oT 66) (oN 12)),oA 65 67] [0,1,2,6,65] [6] (.ite (oT 65) (oX [oA 68 0,oA 69 1,
 oB 70 (.arith .sub (oT 69) (oN 1)),oA 71 2,oZ 72 bC [oT 68,oT 70,oT 71],oA 73 0,oA 74 1,oB 75 (.arith .sub (oT 74) (oN 1)),oA 76 2,oZ 77 bC [oT 73,oT 75,oT 76],oB 78 (.bslice ag 13 [oT 72,oT 77]),oB 79 (.build [oi,oi,oe,oe,oe,oe,ob,on,oe,oe,oi,oi,on] [(0,1,oN 5),(12,1,oT 78)]),.op none none (.store (some 6) 13 (oT 6) (oT 79))] [6] [6] (.ret))
 (.skip)))))))))) (.keep [0,1,2,6] [6] (oX [oB 80 (.build [oi,oi] [(0,1,oN 0),(1,1,oN 1)]),oB 81 (.build [oi,oi] [(0,1,oN 0),(1,1,oN (-1))]),oB 82 (.build [oi,oi] [(0,1,oN 1),(1,1,oN (-1))]),oB 83 (.build [oi,oi] [(0,1,oN 2),(1,1,oN 2)]),oB 84 (.build [oi,oi] [(0,1,oN 0),(1,1,oN 2)]),oB 85 (.build [oi,oi] [(0,1,oN 1),(1,1,oN 3)]),oB 86 (.build [oi,oi] [(0,1,oN 0),(1,1,oN 0)]),
 oB 87 (.bslice Jg 2 [oT 80,oT 81,oT 82,oT 83,oT 84,oT 85,oT 86]),oA 88 0,oZ 89 ap [oT 88,oN 7],oB 90 (.iaddr 2 (oT 87) (oT 89)),oD 91 2 90,oB 9 (.alloc Jg [oi,oi]),oF 2 9 91] [0,1,2,6,9] [6,9] (.seq (.regd [oE 92 0 9,oC 93 1 92,oE 94 1 9,oC 95 1 94,oA 96 0,oA 97 1,oB 98 (.arith .sub (oT 97) (oN 1)),oA 99 2,oZ 100 bC [oT 96,oT 98,oT 99],
 oB 101 (.bslice ag 13 [oT 100])] [oB 102 (.build [oi,oi,oe,oe,oe,oe,ob,on,oe,oe,oi,oi,on] [(0,1,oN 6),(10,1,oT 93),(11,1,oT 95),(12,1,oT 101)]),.op none none (.store (some 6) 13 (oT 6) (oT 102))]) (.keep [6] [6] (.ret)))))))))
def mz:List aI:= [.cell 6 true 13]
def Bk:List Nat:= [2006006]
theorem AZ:aR Tryz.prog bC Bk m5 mz 103:=aA ay (by kernel_rfl)
-- m_bind range i=16 n=15 c=17 i2=26 id=0: live [1:labels, 2:p, 4:, 5:kids, 14:] changed [5] res [2, 4, 25]
def Dv:CC:=oX [oB 2 (.box ag false (oT 0)),oB 4 (.alloc ag [oi,oi,oe,oe,oe,oe,ob,on,oe,oe,oi,oi,on])] [1,2,4] [2,4,25] (oX [oE 8 1 2,oD 9 7 8,oA 10 1,oZ 11 gp [oT 9,oT 10],oE 12 1 2,oF 7 12 11] [1,2,4] [2,4,25] (oX [oB 5 (.mv (.const on))] [1,2,4,5] [2,4,25] (.seq (oX [oE 13 12 2,oC 14 1 13,oB 15 (.len (oT 14)),
 oB 16 (.mv (oN 0))] [1,2,4,5,14,15,16] [2,4,25] (bi 0 16 15 17 1 (oX [oB 18 (.iaddr 13 (oT 14) (oT 16)),oD 19 13 18,oB 7 (.alloc ag [oi,oi,oe,oe,oe,oe,ob,on,oe,oe,oi,oi,on]),oF 13 7 19] [1,2,4,5,7,14,15,16] [2,4,7,25] (.reg [oA 20 5,oD 21 13 7,oA 22 1,oZ 23 mM [oT 21,oT 22],oB 24 (.bslice ag 13 [oT 23]),oB 25 (.append none ag 13 184 (oT 20) (oT 24)),
 oA 5 25])) 26)) (.keep [2,4,5] [2,4,25] (oX [oA 27 5,oE 28 12 2,oF 1 28 27] [2,4] [2,4,25] (oX [oD 29 13 2,oF 13 4 29] [4] [4,25] (.ret)))))))
def Ck:List aI:= [.cell 4 true 13]
def SC:List Nat:= []
theorem Sl:aR Tryz.prog mM SC Dv Ck 30:=aA ay (by kernel_rfl)
-- m_replace range i=15 n=14 c=16 i2=24 id=0: live [2:x, 4:, 13:] changed [] res [2, 4, 40]
-- m_replace range i=31 n=30 c=32 i2=41 id=2: live [1:labels, 2:x, 4:, 7:kids, 29:] changed [7] res [2, 4, 40]
def uC:CC:=oX [oB 2 (.box aH false (oT 0)),oB 4 (.alloc aH [oi,oe,oe,oe,oe,ob,on])] [1,2,4] [2,4,40] (.seq (oX [oE 10 0 2,oC 11 1 10,oB 12 (.eql false false [.int] (oT 11) (oN 4))] [1,2,4,12] [2,4,40] (.ite (oT 12) (.seq (oX [oA 13 1,oB 14 (.len (oT 13)),oB 15 (.mv (oN 0))] [2,4,13,14,15] [2,4,40] (bi 0 15 14 16 1 (oX [oB 17 (.iaddr 1 (oT 13) (oT 15)),
 oC 18 1 17,oA 6 18] [2,4,6,13,14,15] [2,4,40] (oX [oA 19 6,oE 20 4 2,oC 21 1 20,oB 22 (.eql false false [.str] (oT 19) (oT 21))] [2,4,13,14,15,22] [2,4,40] (.ite (oT 22) (oX [oD 23 7 2,oF 7 4 23] [4] [4,40] (.ret)) (.skip)))) 24)) (.keep [2,4] [2,4,40] (oX [oE 25 1 2,oC 26 1 25,oB 27 (.build [oi,oe,oe,oe,oe,ob,on] [(0,1,oN 2),(1,1,oT 26),(3,1,oS ⟨#[97,124,88]⟩)]),
 oF 7 4 27] [4] [4,40] (.ret)))) (.skip))) (.keep [1,2,4] [2,4,40] (oX [oB 7 (.mv (.const on))] [1,2,4,7] [2,4,40] (.seq (oX [oE 28 6 2,oC 29 1 28,oB 30 (.len (oT 29)),oB 31 (.mv (oN 0))] [1,2,4,7,29,30,31] [2,4,40] (bi 2 31 30 32 3 (oX [oB 33 (.iaddr 7 (oT 29) (oT 31)),oD 34 7 33,oB 9 (.alloc aH [oi,oe,oe,oe,oe,ob,on]),oF 7 9 34] [1,2,4,7,9,29,30,31] [2,4,9,40] (.reg [oA 35 7,
 oD 36 7 9,oA 37 1,oZ 38 gp [oT 36,oT 37],oB 39 (.bslice aH 7 [oT 38]),oB 40 (.append none aH 7 104 (oT 35) (oT 39)),oA 7 40])) 41)) (.keep [2,4,7] [2,4,40] (oX [oA 42 7,oE 43 6 2,oF 1 43 42] [2,4] [2,4,40] (oX [oD 44 7 2,oF 7 4 44] [4] [4,40] (.ret))))))))
def tW:List aI:= [.cell 4 true 7]
def LF:List Nat:= []
theorem Ln:aR Tryz.prog gp LF uC tW 45:=aA ay (by kernel_rfl)
-- m_Bound range i=19 n=18 c=20 i2=28 id=0: live [1:out, 2:p, 17:] changed [] res [1, 43]
-- m_Bound range i=37 n=36 c=38 i2=44 id=2: live [1:out, 35:] changed [1] res [1, 43]
def rb:CC:=oX [oB 2 (.box ag true (oT 0)),oB 4 (.mv (.const on))] [1,2] [1,43] (iB 1 (oX [oE 9 0 2,oC 10 1 9,oB 11 (.eql false false [.int] (oT 10) (oN 1)),oA 12 11,oH 13 12 (.faddr 8 (oT 2)),oH 14 12 (.load false 1 (oT 13)),oH 15 12 (.eql true false [.str] (oT 14) (oS ⟨#[]⟩)),oB 16 (.pick (oT 12) (oT 15) (.const ob))] [1,2,16] [1,43] (.ite (oT 16) (.seq (oX [
 oA 17 1,oB 18 (.len (oT 17)),oB 19 (.mv (oN 0))] [1,2,17,18,19] [1,43] (bi 0 19 18 20 1 (oX [oB 21 (.iaddr 1 (oT 17) (oT 19)),oC 22 1 21,oA 6 22] [1,2,6,17,18,19] [1,43] (oX [oA 23 6,oE 24 8 2,oC 25 1 24,oB 26 (.eql false false [.str] (oT 23) (oT 25))] [1,2,17,18,19,26] [1,43] (.ite (oT 26) (oX [oA 27 1,oA 4 27] [4] [1,33,43] (.ret)) (.skip)))) 28)) (.keep [1,2] [1,43] (oX [
 oA 29 1,oE 30 8 2,oC 31 1 30,oB 32 (.bslice aF 1 [oT 31]),oB 33 (.append none aF 1 16 (oT 29) (oT 32)),oA 4 33] [4] [1,33,43] (.ret)))) (.skip))) (.keep [1,2] [1,43] (.seq (oX [oE 34 12 2,oC 35 1 34,oB 36 (.len (oT 35)),oB 37 (.mv (oN 0))] [1,35,36,37] [1,43] (bi 2 37 36 38 3 (oX [oB 39 (.iaddr 13 (oT 35) (oT 37)),oD 40 13 39,
 oB 8 (.alloc ag [oi,oi,oe,oe,oe,oe,ob,on,oe,oe,oi,oi,on]),oF 13 8 40] [1,8,35,36,37] [1,8,43] (.reg [oD 41 13 8,oA 42 1,oZ 43 f7 [oT 41,oT 42],oA 1 43])) 44)) (.keep [1] [1,43] (oX [oA 45 1,oA 4 45] [4] [1,33,43] (.ret))))))
def qu:List aI:= [.tmp 4]
def PK:List Nat:= [2]
theorem GT:aR Tryz.prog f7 PK rb qu 46:=aA ay (by kernel_rfl)
-- m_Tape_Constraint while id=0: live [0:t, 6:, 11:x, 12:n] changed [12] res [6, 11, 111]
def jD:CC:=oX [oB 6 (.alloc aq [oi,oe,oe,oe,oe,oe,ob,oi,oi,on,on])] [0,1,2,6] [6,111] (oX [oA 14 0,oZ 15 ap [oT 14,oN 13],oA 7 15] [0,1,2,6,7] [6,111] (iB 2 (oX [oA 16 1,oB 17 (.cmp .lss (oT 16) (oN 1))] [0,1,2,6,7,17] [6,111] (.ite (oT 17) (.reg [oA 18 7,oB 19 (.arith .rem (oT 18) (oN 10)),oA 7 19]) (.skip)))
 (.keep [0,1,2,6,7] [6,111] (.seq (.regd [oA 20 2,oA 21 0,oA 22 2,oB 23 (.len (oT 22)),oZ 24 ap [oT 21,oT 23],oB 25 (.iaddr 1 (oT 20) (oT 24)),oC 26 1 25,oA 27 2,oA 28 0,oA 29 2,oB 30 (.len (oT 29)),oZ 31 ap [oT 28,oT 30],oB 32 (.iaddr 1 (oT 27) (oT 31)),oC 33 1 32,oA 8 26] [oA 9 33]) (.keep [0,1,2,6,7,8,9] [6,111] (iB 5 (oX [
 oA 34 7] [0,1,2,6,7,8,9,34] [6,111] (.block 0 (oX [oB 36 (.eql false false [.int] (oT 34) (oN 0)),oA 35 36] [0,1,2,6,7,8,9,34,35] [6,111] (.ite (oT 35) (oX [oA 37 8,oB 38 (.build [oi,oe,oe,oe,oe,oe,ob,oi,oi,on,on] [(0,1,oN 1),(1,1,oT 37)]),.op none none (.store (some 6) 11 (oT 6) (oT 38))] [6] [6,111] (.ret)) (oX [oB 40 (.eql false false [.int] (oT 34) (oN 1)),
 oA 39 40] [0,1,2,6,7,8,9,34,39] [6,111] (.ite (oT 39) (.seq (.regd [oA 41 8,oB 42 (.bslice aF 1 [oS ⟨#[97]⟩,oS ⟨#[98,124,99]⟩,oS ⟨#[46]⟩]),oA 43 0,oZ 44 ap [oT 43,oN 3],oB 45 (.iaddr 1 (oT 42) (oT 44)),oC 46 1 45,oA 47 0,oZ 48 ap [oT 47,oN 3],oB 49 (.eql false false [.int] (oT 48) (oN 2))] [
 oB 50 (.build [oi,oe,oe,oe,oe,oe,ob,oi,oi,on,on] [(0,1,oN 2),(1,1,oT 41),(3,1,oS ⟨#[119,111,114,100]⟩),(5,1,oT 46),(6,1,oT 49)]),.op none none (.store (some 6) 11 (oT 6) (oT 50))]) (.keep [6] [6,111] (.ret))) (oX [oB 52 (.eql false false [.int] (oT 34) (oN 2)),oA 51 52] [0,1,2,6,7,8,9,34,51] [6,111] (.ite (oT 51) (oX [oA 53 8,oA 54 9,
 oB 55 (.bslice aF 1 [oS ⟨#[119,111,114,100]⟩,oS ⟨#[116,97,103]⟩]),oA 56 0,oZ 57 ap [oT 56,oN 2],oB 58 (.iaddr 1 (oT 55) (oT 57)),oC 59 1 58,oB 60 (.build [oi,oe,oe,oe,oe,oe,ob,oi,oi,on,on] [(0,1,oN 3),(1,1,oT 53),(3,1,oS ⟨#[119,111,114,100]⟩),(2,1,oT 54),(4,1,oT 59)]),.op none none (.store (some 6) 11 (oT 6) (oT 60))] [6] [6,111] (.ret)) (oX [
 oB 62 (.eql false false [.int] (oT 34) (oN 3)),oA 61 62] [0,1,2,6,7,8,9,34,61] [6,111] (.ite (oT 61) (oX [oA 63 0,oZ 64 ap [oT 63,oN 5],oB 65 (.arith .sub (oT 64) (oN 2)),oA 10 65] [0,6,8,9,10] [6,111] (oX [oA 66 8,oA 67 9,oA 68 10,oA 69 10,oA 70 0,oZ 71 ap [oT 70,oN 4],oB 72 (.arith .add (oT 69) (oT 71)),
 oB 73 (.build [oi,oe,oe,oe,oe,oe,ob,oi,oi,on,on] [(0,1,oN 4),(1,1,oT 66),(2,1,oT 67),(7,1,oT 68),(8,1,oT 72)]),.op none none (.store (some 6) 11 (oT 6) (oT 73))] [6] [6,111] (.ret))) (oX [oB 75 (.eql false false [.int] (oT 34) (oN 4)),oA 74 75] [0,1,2,6,7,8,9,34,74] [6,111] (.ite (oT 74) (oX [oA 76 8,oA 77 9,oA 78 0,oZ 79 ap [oT 78,oN 3],oZ 80 gq [oT 79],
 oB 81 (.build [oi,oe,oe,oe,oe,oe,ob,oi,oi,on,on] [(0,1,oN 5),(1,1,oT 76),(2,1,oT 77),(3,1,oT 80)]),.op none none (.store (some 6) 11 (oT 6) (oT 81))] [6] [6,111] (.ret)) (oX [oB 83 (.eql false false [.int] (oT 34) (oN 5)),oA 82 83] [0,1,2,6,7,8,9,34,82] [6,111] (.ite (oT 82) (oX [oA 84 8,oA 85 9,oB 86 (.build [oi,oe,oe,oe,oe,oe,ob,oi,oi,on,on] [(0,1,oN 6),(1,1,oT 84),(2,1,oT 85)]),
 .op none none (.store (some 6) 11 (oT 6) (oT 86))] [6] [6,111] (.ret)) (oX [oB 88 (.eql false false [.int] (oT 34) (oN 6)),oA 87 88] [0,1,2,6,7,8,9,34,87] [6,111] (.ite (oT 87) (oX [oA 89 8,oA 90 9,oB 91 (.build [oi,oe,oe,oe,oe,oe,ob,oi,oi,on,on] [(0,1,oN 7),(1,1,oT 89),(2,1,oT 90)]),.op none none (.store (some 6) 11 (oT 6) (oT 91))] [6] [6,111] (.ret)) (oX [
 oB 93 (.eql false false [.int] (oT 34) (oN 7)),oA 92 93] [0,1,2,6,7,8,9,34,92] [6,111] (.ite (oT 92) (oX [oA 94 8,oA 95 9,oB 96 (.build [oi,oe,oe,oe,oe,oe,ob,oi,oi,on,on] [(0,1,oN 8),(1,1,oT 94),(2,1,oT 95)]),oB 11 (.alloc aq [oi,oe,oe,oe,oe,oe,ob,oi,oi,on,on]),oF 11 11 96] [0,6,11] [6,11,111] (.seq (oX [oA 97 0,oZ 98 ap [oT 97,oN 3],
 oA 12 98] [0,6,11,12] [6,11,111] (.block 1 (.loop 1 (.seq (oX [oA 99 12,oB 100 (.cmp .gtr (oT 99) (oN 0))] [0,6,11,12,100] [6,11,111] (.ite (oT 100) (.skip) (.exit 1))) (.keep [0,6,11,12] [6,11,111] (.seq (.block 2 (.regd [oE 103 9 11,oC 104 1 103,oB 105 (.bslice aF 1 [oS ⟨#[111,98,106]⟩,oS ⟨#[100,101,116]⟩,oS ⟨#[]⟩]),oA 106 0,oZ 107 ap [oT 106,oN 3],
 oB 108 (.iaddr 1 (oT 105) (oT 107)),oC 109 1 108,oB 110 (.bslice aF 1 [oT 109])] [oB 111 (.append (some 111) aF 1 16 (oT 104) (oT 110)),oE 112 9 11,.op none none (.store (some 11) 1 (oT 112) (oT 111))])) (.keep [0,6,11,12] [6,11,111] (.reg [oA 101 12,oB 102 (.arith .sub (oT 101) (oN 1)),oA 12 102])))))))) (.keep [6,11] [6,11,111] (oX [oD 113 11 11,
 .op none none (.store (some 6) 11 (oT 6) (oT 113))] [6] [6,111] (.ret))))) (oX [oB 115 (.eql false false [.int] (oT 34) (oN 8)),oA 114 115] [0,1,2,6,7,8,9,34,114] [6,111] (.ite (oT 114) (oX [oA 116 8,oA 117 9,oB 118 (.bslice aF 1 [oS ⟨#[83]⟩,oS ⟨#[78,80]⟩,oS ⟨#[86,80]⟩]),oA 119 0,oZ 120 ap [oT 119,oN 3],oB 121 (.iaddr 1 (oT 118) (oT 120)),oC 122 1 121,
 oB 123 (.build [oi,oe,oe,oe,oe,oe,ob,oi,oi,on,on] [(0,1,oN 9),(1,1,oT 116),(2,1,oT 117),(3,1,oT 122)]),.op none none (.store (some 6) 11 (oT 6) (oT 123))] [6] [6,111] (.ret)) (oX [oB 125 (.eql false false [.int] (oT 34) (oN 9)),oA 124 125] [0,1,2,6,7,8,34,124] [6,111] (.ite (oT 124) (oX [oA 126 0,oZ 127 ap [oT 126,oN 3],oA 13 127] [0,6,8,13] [6,111] (oX [oA 128 8,oA 129 13,
 oA 130 13,oA 131 0,oZ 132 ap [oT 131,oN 2],oB 133 (.arith .add (oT 130) (oT 132)),oB 134 (.build [oi,oe,oe,oe,oe,oe,ob,oi,oi,on,on] [(0,1,oN 10),(1,1,oT 128),(7,1,oT 129),(8,1,oT 133)]),.op none none (.store (some 6) 11 (oT 6) (oT 134))] [6] [6,111] (.ret))) (oX [oB 136 (.eql false false [.int] (oT 34) (oN 10)),oA 135 136] [0,1,2,6,7,135] [6,111] (.ite (oT 135) (oX [oA 137 0,
 oA 138 1,oB 139 (.arith .sub (oT 138) (oN 1)),oA 140 2,oZ 141 bx [oT 137,oT 139,oT 140],oB 142 (.bslice aq 11 [oT 141]),oB 143 (.build [oi,oe,oe,oe,oe,oe,ob,oi,oi,on,on] [(0,1,oN 11),(10,1,oT 142)]),.op none none (.store (some 6) 11 (oT 6) (oT 143))] [6] [6,111] (.ret)) (.skip))))))))))))))))))))))))) (.keep [0,1,2,6,7] [6,111] (oX [oA 144 7,
 oB 145 (.arith .add (oN 12) (oT 144)),oB 146 (.arith .sub (oT 145) (oN 11)),oA 147 0,oA 148 1,oB 149 (.arith .sub (oT 148) (oN 1)),oA 150 2,oZ 151 bx [oT 147,oT 149,oT 150],oA 152 0,oA 153 1,oB 154 (.arith .sub (oT 153) (oN 1)),oA 155 2,oZ 156 bx [oT 152,oT 154,oT 155],oB 157 (.bslice aq 11 [oT 151,oT 156]),
 oB 158 (.build [oi,oe,oe,oe,oe,oe,ob,oi,oi,on,on] [(0,1,oT 146),(10,1,oT 157)]),.op none none (.store (some 6) 11 (oT 6) (oT 158))] [6] [6,111] (.ret)))))))))
def jc:List aI:= [.cell 6 true 11]
def wT:List Nat:= [2006006,2112011,1111111]
theorem wr:aR Tryz.prog bx wT jD jc 159:=aA ay (by kernel_rfl)
def nR:CC:=oX [oB 2 (.alloc db [oi,ob,oe])] [0,2] [2] (oX [oA 3 0,oZ 4 ap [oT 3,oN 3],oB 5 (.arith .add (oN 1) (oT 4)),oA 6 0,oZ 7 ap [oT 6,oN 3],oB 8 (.eql false false [.int] (oT 7) (oN 2)),oA 9 0,oZ 10 ap [oT 9,oN 3],oZ 11 gq [oT 10],oB 12 (.build [oi,ob,oe] [(0,1,oT 5),(1,1,oT 8),(2,1,oT 11)]),oF 3 2 12] [2] [2] (.ret))
def nz:List aI:= [.cell 2 true 3]
def Db:List Nat:= []
theorem CH:aR Tryz.prog ir Db nR nz 13:=aA ay (by kernel_rfl)
-- m_Tape_Query while id=0: live [0:t, 4:, 7:q, 8:n] changed [8] res [4, 7, 18, 49]
def pz:CC:=oX [oB 4 (.alloc gJ [oi,oi,oe,oe,oe,oe,ob,on,oe,oe,oi,oi,on,oi,oe,oe,oe,oe,oe,ob,oi,oi,on,on,on,oi])] [0,1,4] [4,18,49] (oX [oB 5 (.mv (.const on))] [0,1,4,5] [4,18,49] (iB 2 (oX [oA 9 0,oZ 10 ap [oT 9,oN 2],oB 11 (.eql false false [.int] (oT 10) (oN 1))] [0,1,4,5,11] [4,18,49] (.ite (oT 11) (.reg [
 oB 12 (.bslice aF 1 [oS ⟨#[120]⟩,oS ⟨#[121]⟩]),oA 5 12]) (.skip))) (.keep [0,1,4,5] [4,18,49] (oX [oA 13 0,oA 14 1,oA 15 5,oZ 16 bC [oT 13,oT 14,oT 15],oB 6 (.alloc ag [oi,oi,oe,oe,oe,oe,ob,on,oe,oe,oi,oi,on]),oF 13 6 16] [0,4,6] [4,6,18,49] (oX [oD 17 13 6,oZ 18 f7 [oT 17,.const on],.frz 18 1,oA 5 18] [0,4,5,6] [4,6,18,49] (oX [oD 19 13 6,oA 20 5,
 oZ 21 mM [oT 19,oT 20],oA 22 0,oZ 23 ap [oT 22,oN 4],oB 24 (.build [oi,oi,oe,oe,oe,oe,ob,on,oe,oe,oi,oi,on,oi,oe,oe,oe,oe,oe,ob,oi,oi,on,on,on,oi] [(0,13,oT 21),(25,1,oT 23)]),oB 7 (.alloc gJ [oi,oi,oe,oe,oe,oe,ob,on,oe,oe,oi,oi,on,oi,oe,oe,oe,oe,oe,ob,oi,oi,on,on,on,oi]),oF 26 7 24] [0,4,5,7] [4,7,18,49] (iB 7 (oX [oA 25 5,oB 26 (.len (oT 25)),
 oB 27 (.cmp .gtr (oT 26) (oN 0)),oA 28 27,oH 29 28 (.mv (oT 0)),oH 30 28 (.call ap [oT 29,oN 2]),oH 31 28 (.eql false false [.int] (oT 30) (oN 1)),oB 32 (.pick (oT 28) (oT 31) (.const ob))] [0,4,5,7,32] [4,7,18,49] (.ite (oT 32) (.reg [oA 33 0,oA 34 5,oZ 35 bx [oT 33,oN 2,oT 34],oE 36 13 7,oF 11 36 35]) (.skip))) (.keep [0,4,7] [4,7,18,49] (iB 9 (oX [
 oA 37 0,oZ 38 ap [oT 37,oN 4],oB 39 (.arith .quo (oT 38) (oN 2)),oA 8 39] [0,4,7,8] [4,7,18,49] (.block 0 (.loop 1 (.seq (oX [oA 40 8,oB 41 (.cmp .gtr (oT 40) (oN 0))] [0,4,7,8,41] [4,7,18,49] (.ite (oT 41) (.skip) (.exit 0))) (.keep [0,4,7,8] [4,7,18,49] (.seq (.block 1 (.regd [oE 44 24 7,oC 45 1 44,oA 46 0,oZ 47 ir [oT 46],oB 48 (.bslice db 3 [oT 47])] [
 oB 49 (.append (some 49) db 3 32 (oT 45) (oT 48)),oE 50 24 7,.op none none (.store (some 7) 1 (oT 50) (oT 49))])) (.keep [0,4,7,8] [4,7,18,49] (.reg [oA 42 8,oB 43 (.arith .sub (oT 42) (oN 1)),oA 8 43])))))))) (.keep [4,7] [4,7,18,49] (oX [oD 51 26 7,oF 26 4 51] [4] [4,18,49] (.ret))))))))))))
def ph:List aI:= [.cell 4 true 26]
def EL:List Nat:= [1049049,2050007]
theorem Ez:aR Tryz.prog jl EL pz ph 52:=aA ay (by kernel_rfl)
end Go.Gv

namespace Go.Gv
open Cod (enc dec)
structure Cond where
 op:Int
 name:B
 arg:B
 val:B
 lab:B
 fold:Bool
 kids:List Cond
mutual
def HG:Cond→D
 | .mk op n a v l f ks=> .agg [enc op,enc n,enc a,enc v,enc l,enc f, .list 7 (uR ks)]
def uR:List Cond→List D
 | []=> []
 | k::ks=> HG k::uR ks
end
mutual
def I7:D→Option Cond
 | .agg [x0,x1,x2,x3,x4,x5,x6]=> (dec x0).bind fun op=> (dec x1).bind fun n=> (dec x2).bind fun a=> (dec x3).bind fun v=> (dec x4).bind fun l=> (dec x5).bind fun f=> (NZ x6).bind fun ks=> some (.mk op n a v l f ks)
 | _=> none
def NZ:D→Option (List Cond)
 | .list n es=> if n=7 then w9 es else none
 | .v (.slice none 0 0)=> some []
 | _=> none
def w9:List D→Option (List Cond)
 | []=> some []
 | d::ds=> (I7 d).bind fun x=> (w9 ds).bind fun xs=> some (x::xs)
end
theorem Dp: ∀l:List Cond,uR l=l.map HG
 | []=> rfl
 | _::l=> by rw[uR,Dp l];rfl
theorem Q7: ∀c:Cond,(HG c).kn=true
 | .mk .. => rfl
theorem NT: ∀c:Cond,(HG c).cells.length=7
 | .mk .. => rfl
mutual
theorem N4: ∀c:Cond,I7 (HG c)=some c
 | .mk op n a v l f ks=> by
   have h:NZ (.list 7 (uR ks))=some ks:=by rw[NZ,if_pos rfl];exact JX ks
   simp only[HG,I7,Cod.dec_enc,Option.bind_some,h]
theorem JX: ∀l:List Cond,w9 (uR l)=some l
 | []=> by simp only[uR,w9]
 | c::l=> by simp only[uR,w9,N4 c,JX l,Option.bind_some]
end
mutual
theorem Rd: ∀ (d:D) (c:Cond),I7 d=some c→FrzTo cF d (HG c)
 | .agg [x0,x1,x2,x3,x4,x5,x6],c,h=> by
   simp only[I7,Option.bind_eq_some_iff,Option.some.injEq] at h
   obtain⟨op,h0,n,h1,a,h2,v,h3,l,h4,f,h5,ks,h6,rfl⟩:=h
   rw[HG]
   exact LeL.agg (.cons (Cod.le _ _ h0) (.cons (Cod.le _ _ h1) (.cons (Cod.le _ _ h2) (.cons (Cod.le _ _ h3) (.cons (Cod.le _ _ h4) (.cons (Cod.le _ _ h5) (.cons (Rb x6 ks h6) .nil)))))))
theorem Rb: ∀ (d:D) (l:List Cond),NZ d=some l→FrzTo cF d (.list 7 (uR l))
 | .list n es,l,h=> by
   simp only[NZ] at h
   split at h
   ·rename_i hn
    subst hn
    have hl:=N3 es l h
    refine .list hl.1 (fun e he=> ?_) hl.2
    rw[Dp] at he
    obtain⟨x,hx,rfl⟩:=List.mem_map.1 he
    exact⟨Q7 x,NT x⟩
   ·cases h
 | .v (.slice none 0 0),l,h=> by
   simp only[NZ,Option.some.injEq] at h
   subst h
   exact .nil _
theorem N3: ∀ (es:List D) (l:List Cond),w9 es=some l→LeL es (uR l)
 | [],l,h=> by
   simp only[w9,Option.some.injEq] at h
   subst h
   exact .nil
 | d::ds,l,h=> by
   simp only[w9,Option.bind_eq_some_iff,Option.some.injEq] at h
   obtain⟨x,h1,xs,h2,rfl⟩:=h
   rw[uR]
   exact .cons (Rd d x h1) (N3 ds xs h2)
end
instance:Cod Cond where
 wd:=7
 enc:=HG
 dec:=I7
 kn:=Q7
 wid:=NT
 dec_enc:=N4
 le:=Rd
theorem JU (ks:List Cond):D.list 7 (uR ks)=enc ks:=by rw[Dp];rfl
theorem NP (op:Int) (n a v l:B) (f:Bool) (ks:List Cond):enc (Cond.mk op n a v l f ks)= .agg [enc op,enc n,enc a,enc v,enc l,enc f,enc ks]:=by
 rw[←JU]
 show HG _=_
 rw[HG]
structure Pat where
 op:Int
 cond:Cond
 lab:B
 reg:B
 mn:Int
 mx:Int
 kids:List Pat
def xd:Cond→List D
 | .mk op n a v l f ks=> [enc op,enc n,enc a,enc v,enc l,enc f,enc ks]
theorem HV: ∀c:Cond,(xd c).length=7
 | .mk .. => rfl
mutual
def EP:Pat→D
 | .mk op c l r mn mx ks=> .agg (enc op:: (xd c++ [enc l,enc r,enc mn,enc mx, .list 13 (uP ks)]))
def uP:List Pat→List D
 | []=> []
 | k::ks=> EP k::uP ks
end
mutual
def NY:D→Option Pat
 | .agg [x0,y0,y1,y2,y3,y4,y5,y6,x1,x2,x3,x4,x5]=> (dec x0).bind fun op=> (dec (D.agg [y0,y1,y2,y3,y4,y5,y6])).bind fun c=> (dec x1).bind fun l=> (dec x2).bind fun r=> (dec x3).bind fun mn=> (dec x4).bind fun mx=> (D1 x5).bind fun ks=> some (.mk op c l r mn mx ks)
 | _=> none
def D1:D→Option (List Pat)
 | .list n es=> if n=13 then w7 es else none
 | .v (.slice none 0 0)=> some []
 | _=> none
def w7:List D→Option (List Pat)
 | []=> some []
 | d::ds=> (NY d).bind fun x=> (w7 ds).bind fun xs=> some (x::xs)
end
theorem Dn: ∀l:List Pat,uP l=l.map EP
 | []=> rfl
 | _::l=> by rw[uP,Dn l];rfl
theorem Q5: ∀c:Pat,(EP c).kn=true
 | .mk .. => rfl
theorem NR: ∀c:Pat,(EP c).cells.length=13
 | .mk op c l r mn mx ks=> by simp[EP,D.cells,HV]
mutual
theorem NX: ∀c:Pat,NY (EP c)=some c
 | .mk op (.mk cop n a v cl f cks) l r mn mx ks=> by
   have h:D1 (.list 13 (uP ks))=some ks:=by rw[D1,if_pos rfl];exact JV ks
   have hc:dec (D.agg [enc cop,enc n,enc a,enc v,enc cl,enc f,enc cks])=some (Cond.mk cop n a v cl f cks):=by rw[←NP];exact Cod.dec_enc _
   simp only[EP,xd,List.cons_append,List.nil_append,NY,Cod.dec_enc,Option.bind_some,h,hc]
theorem JV: ∀l:List Pat,w7 (uP l)=some l
 | []=> by simp only[uP,w7]
 | c::l=> by simp only[uP,w7,NX c,JV l,Option.bind_some]
end
theorem S8 {y0 y1 y2 y3 y4 y5 y6:D} {c:Cond} (h:dec (D.agg [y0,y1,y2,y3,y4,y5,y6])=some c):LeL [y0,y1,y2,y3,y4,y5,y6] (xd c):=by
 have h':I7 (D.agg [y0,y1,y2,y3,y4,y5,y6])=some c:=h
 simp only[I7,Option.bind_eq_some_iff,Option.some.injEq] at h'
 obtain⟨op,h0,n,h1,a,h2,v,h3,l,h4,f,h5,ks,h6,rfl⟩:=h'
 have hk:=Rb y6 ks h6
 rw[JU] at hk
 exact .cons (Cod.le _ _ h0) (.cons (Cod.le _ _ h1) (.cons (Cod.le _ _ h2) (.cons (Cod.le _ _ h3) (.cons (Cod.le _ _ h4) (.cons (Cod.le _ _ h5) (.cons hk .nil))))))
theorem LeL.append {a b c d:List D} (h:LeL a b) (k:LeL c d):LeL (a++c) (b++d):=by
 refine⟨by simp[h.1,k.1],fun i x y hx hy=> ?_⟩
 rw[List.getElem?_append] at hx hy
 by_cases hi:i < a.length
 ·rw[if_pos hi] at hx
  rw[if_pos (by rw[←h.1];exact hi)] at hy
  exact h.2 i x y hx hy
 ·rw[if_neg hi] at hx
  rw[if_neg (by rw[←h.1];exact hi),←h.1] at hy
  exact k.2 _ x y hx hy
mutual
theorem Ra: ∀ (d:D) (c:Pat),NY d=some c→FrzTo cF d (EP c)
 | .agg [x0,y0,y1,y2,y3,y4,y5,y6,x1,x2,x3,x4,x5],c,h=> by
   simp only[NY,Option.bind_eq_some_iff,Option.some.injEq] at h
   obtain⟨op,h0,c,h1,l,h2,r,h3,mn,h4,mx,h5,ks,h6,rfl⟩:=h
   rw[EP]
   exact LeL.agg (.cons (Cod.le _ _ h0) ((S8 h1).append (.cons (Cod.le _ _ h2) (.cons (Cod.le _ _ h3) (.cons (Cod.le _ _ h4) (.cons (Cod.le _ _ h5) (.cons (Wy x5 ks h6) .nil)))))))
theorem Wy: ∀ (d:D) (l:List Pat),D1 d=some l→FrzTo cF d (.list 13 (uP l))
 | .list n es,l,h=> by
   simp only[D1] at h
   split at h
   ·rename_i hn
    subst hn
    have hl:=NW es l h
    refine .list hl.1 (fun e he=> ?_) hl.2
    rw[Dn] at he
    obtain⟨x,hx,rfl⟩:=List.mem_map.1 he
    exact⟨Q5 x,NR x⟩
   ·cases h
 | .v (.slice none 0 0),l,h=> by
   simp only[D1,Option.some.injEq] at h
   subst h
   exact .nil _
theorem NW: ∀ (es:List D) (l:List Pat),w7 es=some l→LeL es (uP l)
 | [],l,h=> by
   simp only[w7,Option.some.injEq] at h
   subst h
   exact .nil
 | d::ds,l,h=> by
   simp only[w7,Option.bind_eq_some_iff,Option.some.injEq] at h
   obtain⟨x,h1,xs,h2,rfl⟩:=h
   rw[uP]
   exact .cons (Ra d x h1) (NW ds xs h2)
end
instance:Cod Pat where
 wd:=13
 enc:=EP
 dec:=NY
 kn:=Q5
 wid:=NR
 dec_enc:=NX
 le:=Ra
theorem SW (ks:List Pat):D.list 13 (uP ks)=enc ks:=by rw[Dn];rfl
theorem LT (op:Int) (c:Cond) (l r:B) (mn mx:Int) (ks:List Pat):enc (Pat.mk op c l r mn mx ks)= .agg (enc op:: (xd c++ [enc l,enc r,enc mn,enc mx,enc ks])):=by
 rw[←SW]
 show EP _=_
 rw[EP]
theorem HL: ∀es:List D,w9 es=es.mapM (dec (X:=Cond))
 | []=> by simp[w9]
 | d::es=> by
   rw[w9,List.mapM_cons,HL es]
   rfl
theorem YX: ∀d:D,NZ d=dec (X:=List Cond) d:=fun d=> by
 unfold NZ
 split
 ·rename_i n es
  show _=if n=7 then es.mapM (dec (X:=Cond)) else none
  rw[HL]
 ·rfl
 ·rename_i h1 h2
  show _=(match d with
   | .list n es=> if n=7 then es.mapM (dec (X:=Cond)) else none
   | .v (.slice none 0 0)=> some []
   | _=> none)
  split
  ·exact absurd rfl (h1 _ _)
  ·exact absurd rfl h2
  ·rfl
theorem HJ: ∀es:List D,w7 es=es.mapM (dec (X:=Pat))
 | []=> by simp[w7]
 | d::es=> by
   rw[w7,List.mapM_cons,HJ es]
   rfl
theorem Wz: ∀d:D,D1 d=dec (X:=List Pat) d:=fun d=> by
 unfold D1
 split
 ·rename_i n es
  show _=if n=13 then es.mapM (dec (X:=Pat)) else none
  rw[HJ]
 ·rfl
 ·rename_i h1 h2
  show _=(match d with
   | .list n es=> if n=13 then es.mapM (dec (X:=Pat)) else none
   | .v (.slice none 0 0)=> some []
   | _=> none)
  split
  ·exact absurd rfl (h1 _ _)
  ·exact absurd rfl h2
  ·rfl
@[simp] theorem Bs (s:Cond):Cond.mk s.op s.name s.arg s.val s.lab s.fold s.kids=s:=by cases s;rfl
@[simp] theorem NQ (s:Cond):enc s= .agg [enc s.op,enc s.name,enc s.arg,enc s.val,enc s.lab,enc s.fold,enc s.kids]:=by cases s;exact NP ..
@[simp] theorem qd3:Cod.wd Cond=7:=id rfl
@[simp] theorem Wx (x0 x1 x2 x3 x4 x5 x6:D):dec (X:=Cond) (.agg [x0,x1,x2,x3,x4,x5,x6])=((dec x0).bind fun x0=> (dec x1).bind fun x1=> (dec x2).bind fun x2=> (dec x3).bind fun x3=> (dec x4).bind fun x4=> (dec x5).bind fun x5=> (dec x6).bind fun x6=> some ⟨x0,x1,x2,x3,x4,x5,x6⟩):=by
 show I7 _=_
 simp only[I7,YX]
@[simp] theorem qff (s:Pat):Pat.mk s.op s.cond s.lab s.reg s.mn s.mx s.kids=s:=by cases s;rfl
@[simp] theorem LU (s:Pat):enc s= .agg [enc s.op,enc s.cond.op,enc s.cond.name,enc s.cond.arg,enc s.cond.val,enc s.cond.lab,enc s.cond.fold,enc s.cond.kids,enc s.lab,enc s.reg,enc s.mn,enc s.mx,enc s.kids]:=by
 obtain⟨op,⟨a,b,c,d,e,f,g⟩,l,r,mn,mx,ks⟩:=s
 exact LT ..
@[simp] theorem qf4:Cod.wd Pat=13:=id rfl
@[simp] theorem qfm (x0 y0 y1 y2 y3 y4 y5 y6 x1 x2 x3 x4 x5:D):dec (X:=Pat) (.agg [x0,y0,y1,y2,y3,y4,y5,y6,x1,x2,x3,x4,x5])=
 ((dec x0).bind fun x0=> (dec y0).bind fun y0=> (dec y1).bind fun y1=> (dec y2).bind fun y2=> (dec y3).bind fun y3=> (dec y4).bind fun y4=> (dec y5).bind fun y5=> (dec y6).bind fun y6=>
   (dec x1).bind fun x1=> (dec x2).bind fun x2=> (dec x3).bind fun x3=> (dec x4).bind fun x4=> (dec x5).bind fun x5=> some ⟨x0,⟨y0,y1,y2,y3,y4,y5,y6⟩,x1,x2,x3,x4,x5⟩):=by
 show NY _=_
 simp only[NY,Wz,Wx,Option.bind_assoc,Option.bind_some]
end Go.Gv

namespace Go.Gv
theorem cC {α:Type} {l:List α} {k:Nat} {a:α} (h:l[k]?=some a):l.take (k+1)=l.take k++ [a]:=by
 rw[List.take_add_one,h];rfl
theorem dv {α:Type} {l:List α} {k:Nat} {a:α} (h:l[k]?=some a):l.drop k=a::l.drop (k+1):=by
 obtain⟨hk,rfl⟩:=List.getElem?_eq_some_iff.1 h
 exact List.drop_eq_getElem_cons hk
theorem cn {α:Type} {l:List α} {k:Nat} {a:α} (h:l[k]?=some a):a∈l:=List.mem_of_getElem? h
theorem QR {α:Type} {l:List α} {k:Nat} {a:α} (h:l[k]?=some a):k < l.length:=(List.getElem?_eq_some_iff.1 h).1
theorem cP {α:Type} {l:List α} {k:Nat} (h:k < l.length): ∃a,l[k]?=some a:=⟨l[k],List.getElem?_eq_getElem h⟩
def qcX (a b:Span):Prop:=a.b < b.b∨a.b=b.b∧a.e < b.e
instance (a b:Span):Decidable (qcX a b):=by unfold qcX;infer_instance
theorem YC (a:Span): ¬qcX a a:=by unfold qcX;omega
theorem Span.ext' {a b:Span} (h:a.b=b.b) (k:a.e=b.e):a=b:=by cases a;cases b;simp at h k;simp[h,k]
def SS (l:List Span):Prop:=l.Pairwise qcX
theorem SS.nil:SS []:=List.Pairwise.nil
def IsNorm (l r:List Span):Prop:=SS r∧ ∀x,x∈r↔x∈l
theorem IsNorm.nil:IsNorm [] []:=⟨SS.nil,fun _=> Iff.rfl⟩
theorem IsNorm.congr {l l' r:List Span} (h:IsNorm l r) (hl: ∀x,x∈l↔x∈l'):IsNorm l' r:=⟨h.1,fun x=> (h.2 x).trans (hl x)⟩
theorem Uy: ∀ {r l:List Span},SS r→(∀x∈r,x∈l)→r.length≤l.length
 | [],l,_,_=> Nat.zero_le _
 | x::r,l,h,hl=> by
   have h':=List.pairwise_cons.1 h
   have hx:=hl x (by simp)
   have:=Uy (l:=l.erase x) h'.2 fun y hy=> (List.mem_erase_of_ne (fun(e:y=x)=> YC x (by have:=h'.1 y hy;rwa [e] at this))).2 (hl y (by simp[hy]))
   rw[List.length_erase_of_mem hx] at this
   have:=List.length_pos_of_mem hx
   simp;omega
theorem IsNorm.len {l r:List Span} (h:IsNorm l r):r.length≤l.length:=Uy h.1 fun x hx=> (h.2 x).1 hx
theorem IsNorm.same {l l' r:List Span} (h:IsNorm l r) (hl: ∀x,x∈l'↔x∈l):IsNorm l' r:=⟨h.1,fun x=> (h.2 x).trans (hl x).symm⟩
def wW {X:Type} :List X→(X→Bool)→Int
 | [],_=> -1
 | x::l,p=> if p x then 0 else if wW l p < 0 then -1 else wW l p+1
theorem Dc {X:Type} {p:X→Bool} : ∀ {l:List X},(∀y∈l,p y=false)→wW l p= -1
 | [],_=> rfl
 | x::l,h=> by
   have:=Dc (l:=l) (fun y hy=> h y (by simp[hy]))
   simp[wW,h x (by simp),this]
theorem LG {X:Type} {p:X→Bool} : ∀ {l:List X} {k:Nat} {x:X},l[k]?=some x→p x=true→(∀y∈l.take k,p y=false)→wW l p=k
 | [],k,x,hx,_,_=> by simp at hx
 | z::l,0,x,hx,hp,_=> by
   simp at hx
   subst hx
   simp[wW,hp]
 | z::l,k+1,x,hx,hp,hb=> by
   have hz:=hb z (by simp)
   have ih:=LG (l:=l) (k:=k) (by simpa using hx) hp (fun y hy=> hb y (by simp[hy]))
   simp[wW,hz,ih]
   omega
theorem PL {X:Type} (p:X→Bool) (l:List X): (wW l p= -1∧ ∀y∈l,p y=false)∨ ∃k x,wW l p=(k:Nat)∧l[k]?=some x∧p x=true∧ ∀y∈l.take k,p y=false:=by
 induction l with
 | nil=> exact .inl ⟨rfl,by simp⟩
 | cons z l ih=>
   by_cases hz:p z=true
   ·exact .inr ⟨0,z,by simp[wW,hz],by simp,hz,by simp⟩
   ·have hz:p z=false:=by simpa using hz
    rcases ih with⟨h1,h2⟩ | ⟨k,x,h1,h2,h3,h4⟩
    ·refine .inl ⟨by simp[wW,hz,h1],fun y hy=> ?_⟩
     rcases List.mem_cons.1 hy with rfl | hy
     ·exact hz
     ·exact h2 y hy
    ·refine .inr ⟨k+1,x,?_,by simpa using h2,h3,fun y hy=> ?_⟩
     ·simp[wW,hz,h1];omega
     ·rw[List.take_succ_cons] at hy
      rcases List.mem_cons.1 hy with rfl | hy
      ·exact hz
      ·exact h4 y hy
theorem QZ {X:Type} (p:X→Bool) (l:List X):decide (0≤wW l p)=l.any p:=by
 rcases PL p l with⟨h1,h2⟩ | ⟨k,x,h1,h2,h3,h4⟩
 ·have:l.any p=false:=by simpa using h2
  rw[h1,this];rfl
 ·have:l.any p=true:=List.any_eq_true.2 ⟨x,cn h2,h3⟩
  rw[h1,this];simp
theorem SS.filter {l:List Span} (h:SS l) (p:Span→Bool):SS (l.filter p):=List.Pairwise.filter p h
theorem IsNorm.filter {l r:List Span} (h:IsNorm l r) (p:Span→Bool):IsNorm (l.filter p) (r.filter p):=⟨h.1.filter p,fun x=> by simp[h.2 x]⟩
end Go.Gv

namespace Go.Gv
instance:Inhabited Cond:=⟨⟨0,⟨#[]⟩,⟨#[]⟩,⟨#[]⟩,⟨#[]⟩,false, []⟩⟩
instance:Inhabited Pat:=⟨⟨0,default,⟨#[]⟩,⟨#[]⟩,0,0, []⟩⟩
def Cond0:Cond:=⟨0,⟨#[]⟩,⟨#[]⟩,⟨#[]⟩,⟨#[]⟩,false, []⟩
mutual
def fb:Pat→Nat | .mk _ _ _ _ _ _ ks=> M6 ks+1
def M6:List Pat→Nat | []=> 0 | k::ks=> max (fb k) (M6 ks)
end
mutual
def iN:Cond→Nat | .mk _ _ _ _ _ _ ks=> jZ ks+1
def jZ:List Cond→Nat | []=> 0 | k::ks=> max (iN k) (jZ ks)
end
mutual
def xM:Pat→Nat | .mk _ _ _ _ _ _ ks=> gf ks+1
def gf:List Pat→Nat | []=> 0 | k::ks=> xM k+gf ks
end
theorem QM (p:Pat):fb p=M6 p.kids+1:=by cases p;rw[fb]
theorem xr (p:Cond):iN p=jZ p.kids+1:=by cases p;rw[iN]
theorem rL (p:Pat):xM p=gf p.kids+1:=by cases p;rw[xM]
theorem JB {k:Pat} : ∀ {ks:List Pat},k∈ks→fb k≤M6 ks
 | a::ks,h=> by
   rw[M6]
   rcases List.mem_cons.1 h with rfl | h
   ·omega
   ·have:=JB h;omega
theorem Dx {k:Cond} : ∀ {ks:List Cond},k∈ks→iN k≤jZ ks
 | a::ks,h=> by
   rw[jZ]
   rcases List.mem_cons.1 h with rfl | h
   ·omega
   ·have:=Dx h;omega
theorem mD {p k:Pat} (h:k∈p.kids):fb k < fb p:=by have:=JB h;rw[QM p];omega
theorem Oe {p k:Cond} (h:k∈p.kids):iN k < iN p:=by have:=Dx h;rw[xr p];omega
theorem xn {C:Pat→Prop} (h: ∀p,(∀k∈p.kids,C k)→C p) (p:Pat):C p:=by
 generalize hn:fb p=n
 induction n using Nat.strongRecOn generalizing p with
 | _ n ih=> exact h p fun k hk=> ih (fb k) (by rw[←hn];exact mD hk) k rfl
mutual
def fg (f:Pat→Bool):Pat→Bool | .mk op c l r mn mx ks=> f ⟨op,c,l,r,mn,mx,ks⟩ && Br f ks
def Br (f:Pat→Bool):List Pat→Bool | []=> true | k::ks=> fg f k && Br f ks
end
theorem HD (f:Pat→Bool): ∀ks:List Pat,Br f ks=ks.all (fg f)
 | []=> by rw[Br];rfl
 | k::ks=> by rw[Br,HD f ks,List.all_cons]
theorem f8 (f:Pat→Bool) (p:Pat):fg f p=(f p && p.kids.all (fg f)):=by cases p;rw[fg,HD]
mutual
def cJ:Pat→Int→Bool | .mk _ _ _ _ _ _ ks,d=> decide (d≤100) && sM ks (d+1)
def sM:List Pat→Int→Bool | [],_=> true | k::ks,d=> cJ k d && sM ks d
end
theorem Au (d:Int): ∀ks:List Pat,sM ks d=ks.all (cJ · d)
 | []=> by rw[sM];rfl
 | k::ks=> by rw[sM,Au d ks,List.all_cons]
theorem lN (p:Pat) (d:Int):cJ p d=(decide (d≤100) && p.kids.all (cJ · (d+1))):=by cases p;rw[cJ,Au]
theorem KD (p:Pat): ∀d d':Int,d'≤d→cJ p d=true→cJ p d'=true:=by
 induction p using xn with | _ p ih=> ?_
 intro d d' h
 rw[lN,lN]
 simp only[Bool.and_eq_true,decide_eq_true_eq,List.all_eq_true]
 exact fun⟨h1,h2⟩=> ⟨by omega,fun k hk=> ih k hk (d+1) (d'+1) (by omega) (h2 k hk)⟩
def Dz (p:Pat):Prop:=(p.op=1∧p.reg=⟨#[]⟩∧p.mn=0∧p.mx=0∧p.kids= [])∨
 ((p.op=2∨p.op=3)∧p.cond=Cond0∧p.lab=⟨#[]⟩∧p.mn=0∧p.mx=0∧p.kids= [])∨
 ((p.op=4∨p.op=5)∧p.cond=Cond0∧p.lab=⟨#[]⟩∧p.reg=⟨#[]⟩∧p.mn=0∧p.mx=0∧2≤p.kids.length)∨
 (p.op=6∧p.cond=Cond0∧p.lab=⟨#[]⟩∧p.reg=⟨#[]⟩∧p.kids.length=1)
noncomputable def nc (p:Pat):Bool:= @decide (Dz p) (Classical.propDecidable _)
theorem CO (p:Pat):nc p=true↔Dz p:= @decide_eq_true_iff (Dz p) (Classical.propDecidable _)
def CN (p:Pat):Bool:=decide (p.op=6→0≤p.mn∧p.mn≤16∧(p.mx= -1∨p.mn≤p.mx∧p.mx≤16))
def A3 (v:B→Bool) (p:Pat):Bool:=decide (((p.op=2∨p.op=3)→v p.reg=true)∧(p.lab≠ ⟨#[]⟩→v p.lab=true))
noncomputable def sU (v:B→Bool) (p:Pat):Bool:=cJ p 1 && fg nc p && fg (A3 v) p && fg CN p
theorem M4 {v:B→Bool} {p k:Pat} (h:sU v p=true) (hk:k∈p.kids):sU v k=true:=by
 unfold sU at*
 rw[f8,f8,f8 CN,lN] at h
 simp only[Bool.and_eq_true,List.all_eq_true] at h
 obtain⟨⟨⟨⟨_,h1⟩,_,h2⟩,_,h3⟩,_,h4⟩:=h
 rw[h2 k hk,h3 k hk,h4 k hk,KD k _ 1 (by omega) (h1 k hk)]
 rfl
theorem Jy {v:B→Bool} {p:Pat} (h:sU v p=true):nc p=true∧A3 v p=true∧CN p=true:=by
 unfold sU at*
 rw[f8,f8,f8 CN] at h
 simp only[Bool.and_eq_true] at h
 exact⟨h.1.1.2.1,h.1.2.1,h.2.1⟩
def DI (p:Pat) (n:Int):Int:=if p.kids= [] then 1 else if p.op=6 then(if p.mx= -1 then min (n* (p.mn+1)) 1000 else if p.mx=0 then n else min (n*p.mx) 1000) else n
mutual
def l9:Pat→Int | .mk op c l r mn mx ks=> DI ⟨op,c,l,r,mn,mx,ks⟩ (iA ks 0)
def iA:List Pat→Int→Int | [],n=> n | k::ks,n=> iA ks (min (n+l9 k) 1000)
end
theorem sL (p:Pat):l9 p=DI p (iA p.kids 0):=by cases p;rw[l9]
theorem OZ (a b:List Pat) (n:Int):iA (a++b) n=iA b (iA a n):=by
 induction a generalizing n with
 | nil=> rfl
 | cons k a ih=> simp only[List.cons_append,iA];exact ih _
mutual
def aY:Pat→List Pat | .mk op c l r mn mx ks=> if op=1 then[⟨op,c,l,r,mn,mx,ks⟩] else wx ks
def wx:List Pat→List Pat | []=> [] | k::ks=> aY k++wx ks
end
theorem DT: ∀ks:List Pat,wx ks=ks.flatMap aY
 | []=> by rw[wx];rfl
 | k::ks=> by rw[wx,DT ks,List.flatMap_cons]
theorem bz (p:Pat):aY p=if p.op=1 then[p] else p.kids.flatMap aY:=by cases p;rw[aY,DT]
theorem PE (p:Pat): (aY p).length≤xM p:=by
 induction p using xn with | _ p ih=> ?_
 rw[bz,rL]
 split
 ·simp
 ·have: ∀ks:List Pat,(∀k∈ks,(aY k).length≤xM k)→(ks.flatMap aY).length≤gf ks:=by
   intro ks
   induction ks with
   | nil=> intro _;simp[gf]
   | cons k ks ih=>
     intro h
     rw[List.flatMap_cons,List.length_append,gf]
     have h1:=h k (by simp)
     have h2:=ih fun x hx=> h x (by simp[hx])
     omega
  have:=this p.kids ih
  omega
theorem tF: ∀ (ks:List Pat) (n:Int),0≤n→n≤1000→(∀k∈ks,0≤l9 k)→0≤iA ks n∧iA ks n≤1000
 | [],n,h0,h1,_=> by rw[iA];exact⟨h0,h1⟩
 | k::ks,n,h0,h1,h=> by
   rw[iA]
   have:=h k (by simp)
   exact tF ks _ (by omega) (by omega) fun x hx=> h x (by simp[hx])
theorem RZ {v:B→Bool} (p:Pat):sU v p=true→0≤l9 p∧l9 p≤1000:=by
 induction p using xn with | _ p ih=> ?_
 intro h
 have hk:=tF p.kids 0 (by omega) (by omega) fun k hk=> (ih k hk (M4 h hk)).1
 have hn:=(Jy h).2.2
 unfold CN at hn
 rw[decide_eq_true_eq] at hn
 rw[sL]
 generalize iA p.kids 0=n at hk
 unfold DI
 split
 ·omega
 ·split
  ·rename_i h6
   have hn:=hn h6
   split
   ·have:0≤n* (p.mn+1):=Int.mul_nonneg hk.1 (by omega)
    omega
   ·split
    ·exact hk
    ·have:0≤n*p.mx:=Int.mul_nonneg hk.1 (by omega)
     omega
  ·exact hk
end Go.Gv

namespace Go.Gv
def qdK:B:=⟨#[115]⟩
def Zc:B:=⟨#[110,112]⟩
def qfF:B:=⟨#[116]⟩
def qdJ:B:=⟨#[120]⟩
def qdI:B:=⟨#[121]⟩
def rS:List B:= [qdK,Zc,qfF]
def Reps:List (Int×Int):= [(0,1),(0, -1),(1, -1),(2,2),(0,2),(1,3),(0,0)]
def qb4 (lb:List B) (p:Pat):Prop:=(p.op=1∧(p.lab=⟨#[]⟩∨p.lab∈lb)∧p.reg=⟨#[]⟩∧p.mn=0∧p.mx=0∧p.kids= [])∨((p.op=2∨p.op=3)∧p.cond=Cond0∧p.lab=⟨#[]⟩∧p.reg∈rS∧p.mn=0∧p.mx=0∧p.kids= [])
def WP (lb:List B):Nat→Pat→Prop
 | 0,p=> qb4 lb p
 | n+1,p=> qb4 lb p∨((p.op=4∨p.op=5)∧p.cond=Cond0∧p.lab=⟨#[]⟩∧p.reg=⟨#[]⟩∧p.mn=0∧p.mx=0∧ ∃a b,p.kids= [a,b]∧WP lb n a∧WP lb n b)∨
   (p.op=6∧p.cond=Cond0∧p.lab=⟨#[]⟩∧p.reg=⟨#[]⟩∧(p.mn,p.mx) ∈Reps∧ ∃a,p.kids= [a]∧WP lb n a)
theorem qb8 {lb:List B} {n:Nat} {p:Pat} (h:qb4 lb p):WP lb n p:=by
 cases n
 ·exact h
 ·exact .inl h
def J3 (lb:List B):Prop:= ∀l∈lb,l=qdJ∨l=qdI
theorem vr {lb:List B} {n:Nat} {p:Pat} (h:WP lb n p):qb4 lb p∨ ∃m,n=m+1∧(((p.op=4∨p.op=5)∧p.cond=Cond0∧p.lab=⟨#[]⟩∧p.reg=⟨#[]⟩∧p.mn=0∧p.mx=0∧ ∃a b,p.kids= [a,b]∧WP lb m a∧WP lb m b)∨
 (p.op=6∧p.cond=Cond0∧p.lab=⟨#[]⟩∧p.reg=⟨#[]⟩∧(p.mn,p.mx) ∈Reps∧ ∃a,p.kids= [a]∧WP lb m a)):=by
 cases n with
 | zero=> exact .inl h
 | succ m=> exact h.elim .inl fun h=> .inr ⟨m,rfl,h⟩
theorem Ff {lb:List B} {C:Nat→Pat→Prop} (h: ∀n p,WP lb n p→(∀k∈p.kids,∃m,n=m+1∧WP lb m k∧C m k)→C n p): ∀n p,WP lb n p→C n p:=by
 intro n
 induction n with
 | zero=>
   intro p hp
   refine h 0 p hp fun k hk=> ?_
   rcases hp with hp | hp
   ·rw[hp.2.2.2.2.2] at hk;simp at hk
   ·rw[hp.2.2.2.2.2.2] at hk;simp at hk
 | succ m ih=>
   intro p hp
   refine h (m+1) p hp fun k hk=> ⟨m,rfl,?_⟩
   have:WP lb m k:=by
    rcases hp with(hp | hp) | hp | hp
    ·rw[hp.2.2.2.2.2] at hk;simp at hk
    ·rw[hp.2.2.2.2.2.2] at hk;simp at hk
    ·obtain⟨a,b,e,ha,hb⟩:=hp.2.2.2.2.2.2
     rw[e] at hk
     simp at hk
     rcases hk with rfl | rfl
     ·exact ha
     ·exact hb
    ·obtain⟨a,e,ha⟩:=hp.2.2.2.2.2
     rw[e] at hk
     simp at hk
     subst hk
     exact ha
   exact⟨this,ih k this⟩
theorem Qs {v:B→Bool} {lb:List B} (hl:J3 lb) (hv:v qdK=true∧v Zc=true∧v qfF=true∧v qdJ=true∧v qdI=true): ∀n p,WP lb n p→n≤90→sU v p=true:=by
 have key: ∀n p,WP lb n p→(n≤90→ ∀d:Int,d+n≤100→cJ p d=true)∧fg nc p=true∧fg (A3 v) p=true∧fg CN p=true:=by
  refine Ff fun n p hp ih=> ?_
  have hnode:nc p=true∧A3 v p=true∧CN p=true:=by
   rw[CO]
   unfold Dz A3 CN
   rw[decide_eq_true_eq,decide_eq_true_eq]
   have hr: (p.mn,p.mx) ∈Reps→0≤p.mn∧p.mn≤16∧(p.mx= -1∨p.mn≤p.mx∧p.mx≤16):=by
    intro h
    simp[Reps] at h
    omega
   have ht:p.reg∈rS→v p.reg=true:=by
    intro h
    simp[rS] at h
    rcases h with h | h | h <;> rw[h]
    ·exact hv.1
    ·exact hv.2.1
    ·exact hv.2.2.1
   rcases vr hp with(⟨h1,h2,h3,h4,h5,h6⟩ | ⟨h1,h2,h3,h4,h5,h6,h7⟩) | ⟨m,_,(⟨h1,h2,h3,h4,h5,h6,a,b,h7,_⟩ | ⟨h1,h2,h3,h4,h5,a,h7,_⟩)⟩
   ·refine⟨.inl ⟨h1,h3,h4,h5,h6⟩,⟨fun h=> by omega,fun hne=> ?_⟩,fun h=> by omega⟩
    rcases h2 with h2 | h2
    ·exact absurd h2 hne
    ·rcases hl _ h2 with h | h <;> rw[h]
     ·exact hv.2.2.2.1
     ·exact hv.2.2.2.2
   ·exact⟨.inr (.inl ⟨h1,h2,h3,h5,h6,h7⟩),⟨fun _=> ht h4,fun h=> absurd h3 h⟩,fun h=> by omega⟩
   ·exact⟨.inr (.inr (.inl ⟨h1,h2,h3,h4,h5,h6,by rw[h7];simp⟩)),⟨fun h=> by omega,fun h=> absurd h3 h⟩,fun h=> by omega⟩
   ·exact⟨.inr (.inr (.inr ⟨h1,h2,h3,h4,by rw[h7];simp⟩)),⟨fun h=> by omega,fun h=> absurd h3 h⟩,fun _=> hr h5⟩
  refine⟨fun hn d hd=> ?_,?_,?_,?_⟩
  ·rw[lN,Bool.and_eq_true,decide_eq_true_eq,List.all_eq_true]
   refine⟨by omega,fun k hk=> ?_⟩
   obtain⟨m,e,_,h,_⟩:=ih k hk
   exact h (by omega) _ (by omega)
  ·rw[f8,Bool.and_eq_true,List.all_eq_true]
   exact⟨hnode.1,fun k hk=> by obtain⟨m,e,_,h⟩:=ih k hk;exact h.2.1⟩
  ·rw[f8,Bool.and_eq_true,List.all_eq_true]
   exact⟨hnode.2.1,fun k hk=> by obtain⟨m,e,_,h⟩:=ih k hk;exact h.2.2.1⟩
  ·rw[f8,Bool.and_eq_true,List.all_eq_true]
   exact⟨hnode.2.2,fun k hk=> by obtain⟨m,e,_,h⟩:=ih k hk;exact h.2.2.2⟩
 intro n p hp hn
 obtain⟨h1,h2,h3,h4⟩:=key n p hp
 unfold sU
 rw[h1 hn 1 (by omega),h2,h3,h4]
 rfl
theorem Qr {lb:List B} : ∀n p,WP lb n p→n≤5→1≤l9 p∧l9 p≤3^n∧xM p+1≤2^ (n+1):=by
 refine Ff fun n p hp ih hn=> ?_
 have hb: (1:Int)≤3^n∧1≤2^n:=⟨Int.pow_pos (by omega),Nat.one_le_two_pow⟩
 rcases vr hp with(⟨h1,h2,h3,h4,h5,h6⟩ | ⟨h1,h2,h3,h4,h5,h6,h7⟩) | ⟨m,rfl,(⟨h1,h2,h3,h4,h5,h6,a,b,h7,_⟩ | ⟨h1,h2,h3,h4,h5,a,h7,_⟩)⟩
 ·rw[sL,DI,if_pos h6,rL,h6,gf,Nat.pow_succ];omega
 ·rw[sL,DI,if_pos h7,rL,h7,gf,Nat.pow_succ];omega
 ·obtain⟨m1,e1,_,a1⟩:=ih a (by rw[h7];simp)
  obtain⟨m2,e2,_,a2⟩:=ih b (by rw[h7];simp)
  have e1:m1=m:=by omega
  have e2:m2=m:=by omega
  subst e1;subst e2
  have a1:=a1 (by omega)
  have a2:=a2 (by omega)
  rw[sL,DI,if_neg (by rw[h7];simp),if_neg (by omega),rL,h7]
  simp only[iA,gf]
  rw[Int.pow_succ,Nat.pow_succ]
  rw[Nat.pow_succ] at a1 a2 ⊢
  have h2: (0:Int)≤3^m2:=by omega
  have: (3:Int) ^m2≤243:=by
   have:m2=0∨m2=1∨m2=2∨m2=3∨m2=4:=by omega
   rcases this with rfl | rfl | rfl | rfl | rfl <;> decide
  omega
 ·obtain⟨m1,e1,_,a1⟩:=ih a (by rw[h7];simp)
  have e1:m1=m:=by omega
  subst e1
  have a1:=a1 (by omega)
  rw[sL,DI,if_neg (by rw[h7];simp),if_pos h1,rL,h7]
  simp only[iA,gf]
  rw[Int.pow_succ,Nat.pow_succ]
  rw[Nat.pow_succ] at a1 ⊢
  have: (3:Int) ^m1≤243:=by
   have:m1=0∨m1=1∨m1=2∨m1=3∨m1=4:=by omega
   rcases this with rfl | rfl | rfl | rfl | rfl <;> decide
  simp only[Reps,List.mem_cons,Prod.mk.injEq,List.not_mem_nil,or_false] at h5
  rw[show min (0+l9 a) 1000=l9 a by omega]
  rcases h5 with⟨e1,e2⟩ | ⟨e1,e2⟩ | ⟨e1,e2⟩ | ⟨e1,e2⟩ | ⟨e1,e2⟩ | ⟨e1,e2⟩ | ⟨e1,e2⟩ <;> rw[e1,e2] <;> simp <;> omega
end Go.Gv

namespace Go.Gv
theorem JA (a b:List Pat):gf (a++b)=gf a+gf b:=by
 induction a with
 | nil=> simp[gf]
 | cons k a ih=> simp only[List.cons_append,gf];omega
end Go.Gv

namespace Go.Gv
def CS:Nat→Cond→Prop
 | 0,c=> c.kids= []
 | n+1,c=> c.kids.length≤2∧ ∀k∈c.kids,CS n k
theorem P7 {n:Nat} {c:Cond} (h:c.kids= []):CS n c:=by
 cases n
 ·exact h
 ·exact⟨by rw[h];exact Nat.zero_le _,fun k hk=> by rw[h] at hk;simp at hk⟩
theorem qbb {n m:Nat} {c a:Cond} (hm:n=m+1) (h:c.kids= [a]) (ha:CS m a):CS n c:=by
 subst hm
 refine⟨by rw[h];exact Nat.le_succ _,fun k hk=> ?_⟩
 rw[h] at hk
 have:k=a:=by simpa using hk
 subst this
 exact ha
theorem qba {n m:Nat} {c a b:Cond} (hm:n=m+1) (h:c.kids= [a,b]) (ha:CS m a) (hb:CS m b):CS n c:=by
 subst hm
 refine⟨by rw[h];exact Nat.le_refl _,fun k hk=> ?_⟩
 rw[h] at hk
 have:k=a∨k=b:=by simpa using hk
 rcases this with rfl | rfl
 ·exact ha
 ·exact hb
theorem YZ {n:Nat} {c d:Cond} (h:c.kids=d.kids) (hd:CS n d):CS n c:=by
 cases n
 ·exact h.trans hd
 ·exact⟨by rw[h];exact hd.1,fun k hk=> hd.2 k (by rw[←h];exact hk)⟩
theorem qbc {n:Nat} {c:Cond} (h:CS n c):c.kids.length≤2:=by
 cases n
 ·have:c.kids= []:=h
  rw[this];exact Nat.zero_le _
 ·exact h.1
def PD:Nat→Pat→Prop
 | 0,p=> (∃m,CS m p.cond)∧p.kids= []
 | n+1,p=> (∃m,CS m p.cond)∧p.kids.length≤2∧ ∀k∈p.kids,PD n k
theorem UW {n:Nat} {p:Pat} (hc: ∃m,CS m p.cond) (h:p.kids= []):PD n p:=by
 cases n
 ·exact⟨hc,h⟩
 ·exact⟨hc,by rw[h];exact Nat.zero_le _,fun k hk=> by rw[h] at hk;simp at hk⟩
theorem qad {n m:Nat} {p a:Pat} (hm:n=m+1) (hc: ∃m,CS m p.cond) (h:p.kids= [a]) (ha:PD m a):PD n p:=by
 subst hm
 refine⟨hc,by rw[h];exact Nat.le_succ _,fun k hk=> ?_⟩
 rw[h] at hk
 have:k=a:=by simpa using hk
 subst this
 exact ha
theorem UV {n m:Nat} {p a b:Pat} (hm:n=m+1) (hc: ∃m,CS m p.cond) (h:p.kids= [a,b]) (ha:PD m a) (hb:PD m b):PD n p:=by
 subst hm
 refine⟨hc,by rw[h];exact Nat.le_refl _,fun k hk=> ?_⟩
 rw[h] at hk
 have:k=a∨k=b:=by simpa using hk
 rcases this with rfl | rfl
 ·exact ha
 ·exact hb
theorem Rf: ∃m,CS m Cond0:=⟨0,rfl⟩
theorem Ym {n:Nat} {p:Pat} (h:PD n p): ∃m,CS m p.cond:=by cases n <;> exact h.1
theorem qae {n:Nat} {p:Pat} (h:PD n p):p.kids.length≤2:=by
 cases n
 ·rw[h.2];exact Nat.zero_le _
 ·exact h.2.1
theorem qaf {n:Nat} {p k:Pat} (h:PD n p) (hk:k∈p.kids): ∃m,n=m+1∧PD m k:=by
 cases n
 ·rw[h.2] at hk;simp at hk
 ·exact⟨_,rfl,h.2.2 k hk⟩
theorem qbd {n:Nat} {p k:Cond} (h:CS n p) (hk:k∈p.kids): ∃m,n=m+1∧CS m k:=by
 cases n
 ·have h:p.kids= []:=h
  rw[h] at hk;simp at hk
 ·exact⟨_,rfl,h.2 k hk⟩
end Go.Gv

namespace Go.Gv
open Go.Proofs
def HX:CC:=oX [oB 4 (.mv (oN 0))] [0,1] [] (.seq (oX [oA 5 1,oB 6 (.cmp .lss (oT 5) (oN 1))] [0,1,6] [] (.ite (oT 6) (oX [oB 4 (.mv (oN 0))] [4] [] (.ret)) (.skip))) (.keep [0,1] [] (oX [oA 7 0,oA 8 1,oB 9 (.arith .rem (oT 7) (oT 8)),oA 0 9] [0,1] [] (.seq (oX [oA 10 0,oB 11 (.cmp .lss (oT 10) (oN 0))] [0,1,11] [] (.ite (oT 11) (.reg [oA 12 0,oA 13 1,
 oB 14 (.arith .add (oT 12) (oT 13)),oA 0 14]) (.skip))) (.keep [0] [] (oX [oA 15 0,oA 4 15] [4] [] (.ret)))))))
def Gi:List aI:= [.tmp 4]
def VH:List Nat:= []
theorem U9:aR Tryz.prog hX VH HX Gi 16:=aA ay (by kernel_rfl)
-- r04_ValidName while id=0: live [0:s, 3:i] changed [3] res []
def Dw:CC:=oX [oB 2 (.mv (oS ⟨#[]⟩))] [0] [] (oX [oB 3 (.bslice aF 1 [oS ⟨#[115]⟩,oS ⟨#[110,112]⟩,oS ⟨#[116]⟩]),oA 4 0,oZ 5 hX [oT 4,oN 3],oB 6 (.iaddr 1 (oT 3) (oT 5)),oC 7 1 6,oA 2 7] [2] [] (.ret))
def Cl:List aI:= [.tmp 2]
def SD:List Nat:= []
theorem Sm:aR Tryz.prog gq SD Dw Cl 8:=aA ay (by kernel_rfl)
def qZ:CC:=oX [oB 4 (.mv (oN 0))] [0,1] [] (.seq (.seq (.regd [oA 5 0,oG 6 5,oE 7 1 6,oC 8 1 7,oA 9 0,oG 10 9,oE 11 0 10,oC 12 1 11,oB 13 (.len (oT 12))] [oB 14 (.cmp .geq (oT 8) (oT 13))]) (.keep [0,1,14] [] (.ite (oT 14) (oX [oB 4 (.mv (oN 0))] [4] [] (.ret)) (.skip)))) (.keep [0,1] [] (oX [oA 15 0,oG 16 15,oE 17 1 16,oC 18 1 17,
 oB 19 (.arith .add (oT 18) (oN 1)),oG 20 15,oE 21 1 20,oF 1 21 19] [0,1] [] (.seq (.regd [oA 22 0,oG 23 22,oE 24 0 23,oC 25 1 24,oA 26 0,oG 27 26,oE 28 1 27,oC 29 1 28,oB 30 (.arith .sub (oT 29) (oN 1)),oB 31 (.iaddr 1 (oT 25) (oT 30)),oC 32 1 31,oA 33 1] [oZ 34 hX [oT 32,oT 33],oA 4 34]) (.keep [4] [] (.ret))))))
def vS:List aI:= [.tmp 4]
def Ho:List Nat:= []
theorem GR:aR Tryz.prog ap Ho qZ vS 35:=aA ay (by kernel_rfl)
def HW:CC:=oX [oB 2 (.mv (.const (.pointer none)))] [0] [] (.seq (oX [oA 3 0,oB 4 (.len (oT 3)),oB 5 (.cmp .gtr (oT 4) (oN 120))] [0,5] [] (.ite (oT 5) (.reg [oA 6 0,oB 7 (.slice 1 (oT 6) none (some (oN 120))),oA 0 7]) (.skip))) (.keep [0] [] (oX [oA 8 0,oB 9 (.build [on,oi] [(0,1,oT 8)]),oB 10 (.box xL false (oT 9)),oA 2 10] [2] [10] (.ret))))
def Gh:List aI:= [.tmp 2]
def VF:List Nat:= [999]
theorem U7:aR Tryz.prog Bq VF HW Gh 11:=aA ay (by kernel_rfl)
end Go.Gv

namespace Go.Gv
open Cod (enc dec)
variable {S:Nat→Spc}
def CP (x n:Int):Int:=if n < 1 then 0 else if x.tmod n < 0 then x.tmod n+n else x.tmod n
abbrev rI:Spc:=dG (a2 Int Int) (fun x=> x.2≤1000000000) enc fun x y=> y=CP x.1 x.2
theorem XL:Walk HX Gi S (a2 Int Int) (fun x=> x.2≤1000000000) enc fun x y=> y=CP x.1 x.2:=by
 rintro⟨a,b⟩ hl
 simp at hl
 simp[HX,Gi,CP]
 refine⟨fun h1 h2=> by omega,fun h1=> ⟨by omega,fun h2=> ⟨?_,?_⟩,fun h2=> ?_⟩⟩
 ·have:=Int.lt_tmod_of_pos a (b:=b) (by omega)
  simp[InR];omega
 ·rw[if_neg (by omega),if_pos h2]
 ·rw[if_neg (by omega),if_neg (by omega)]
end Go.Gv
