/- A part of the framework and of the walks: C12 W95. -/
import Derived.Test.YtaiffcbkmgfklaaGreatDoorGu10
import Derived.Test.YtaiffcbkmgfklaaGreatDoorGu22
import Derived.Test.YtaiffcbkmgfklaaGreatDoorGu18
import Derived.Test.YtaiffcbkmgfklaaGreatDoorGu20
set_option linter.unusedSimpArgs false
set_option linter.unusedVariables false
set_option maxRecDepth 100000

namespace Go.Gv
open Go.Proofs
-- r23_parser_or while id=0: live [0:p, 2:, 3:l] changed [3] res [0, 2, 6, 13]
def nJ:CC:=oX [oB 2 (.alloc aH [oi,oe,oe,oe,oe,ob,on])] [0,2] [0,2,6,13] (oX [oA 4 0,oZ 5 fC [oT 4],oB 6 (.mslice aH 7 [oT 5]),oA 3 6] [0,2,3] [0,2,6,13] (.seq (.block 0 (.loop 1 (.seq (oX [oA 7 0,oZ 8 ah [oT 7,oS ⟨#[124]⟩]] [0,2,3,8] [0,2,6,13] (.ite (oT 8) (.skip) (.exit 0))) (.keep [0,2,3] [0,2,6,13] (.block 1 (.reg [oA 9 3,
 oA 10 0,oZ 11 fC [oT 10],oB 12 (.bslice aH 7 [oT 11]),oB 13 (.append (some 6) aH 7 104 (oT 9) (oT 12)),oA 3 13])))))) (.keep [2,3] [0,2,6,13] (.seq (oX [oA 14 3,oB 15 (.len (oT 14)),oB 16 (.eql false false [.int] (oT 15) (oN 1))] [2,3,16] [0,2,6,13] (.ite (oT 16) (oX [oA 17 3,oB 18 (.iaddr 7 (oT 17) (oN 0)),oD 19 7 18,oF 7 2 19] [2] [0,2,6,13] (.ret)) (.skip)))
 (.keep [2,3] [0,2,6,13] (oX [oA 20 3,oB 21 (.build [oi,oe,oe,oe,oe,ob,on] [(0,1,oN 8),(6,1,oT 20)]),oF 7 2 21] [2] [0,2,6,13] (.ret)))))))
def nn:List aI:= [.cell 2 true 7]
def CR:List Nat:= [100006,1013006]
theorem Cv:aR Tryz.prog d5 CR nJ nn 22:=aA ay (by kernel_rfl)
-- r23_parser_and while id=0: live [0:p, 2:, 3:l] changed [3] res [0, 2, 6, 13]
def mW:CC:=oX [oB 2 (.alloc aH [oi,oe,oe,oe,oe,ob,on])] [0,2] [0,2,6,13] (oX [oA 4 0,oZ 5 cf [oT 4],oB 6 (.mslice aH 7 [oT 5]),oA 3 6] [0,2,3] [0,2,6,13] (.seq (.block 0 (.loop 1 (.seq (oX [oA 7 0,oZ 8 ah [oT 7,oS ⟨#[38]⟩]] [0,2,3,8] [0,2,6,13] (.ite (oT 8) (.skip) (.exit 0))) (.keep [0,2,3] [0,2,6,13] (.block 1 (.reg [oA 9 3,
 oA 10 0,oZ 11 cf [oT 10],oB 12 (.bslice aH 7 [oT 11]),oB 13 (.append (some 6) aH 7 104 (oT 9) (oT 12)),oA 3 13])))))) (.keep [2,3] [0,2,6,13] (.seq (oX [oA 14 3,oB 15 (.len (oT 14)),oB 16 (.eql false false [.int] (oT 15) (oN 1))] [2,3,16] [0,2,6,13] (.ite (oT 16) (oX [oA 17 3,oB 18 (.iaddr 7 (oT 17) (oN 0)),oD 19 7 18,oF 7 2 19] [2] [0,2,6,13] (.ret)) (.skip)))
 (.keep [2,3] [0,2,6,13] (oX [oA 20 3,oB 21 (.build [oi,oe,oe,oe,oe,ob,on] [(0,1,oN 7),(6,1,oT 20)]),oF 7 2 21] [2] [0,2,6,13] (.ret)))))))
def mr:List aI:= [.cell 2 true 7]
def Be:List Nat:= [100006,1013006]
theorem AT:aR Tryz.prog fC Be mW mr 22:=aA ay (by kernel_rfl)
def mT:CC:=oX [oB 2 (.alloc aH [oi,oe,oe,oe,oe,ob,on])] [0,2] [0,2] (.seq (.block 0 (oX [oA 10 0,oZ 11 ah [oT 10,oS ⟨#[33]⟩],oA 9 11] [0,2,9] [0,2] (.ite (oT 9) (oX [oA 12 0,oZ 13 cf [oT 12],oB 14 (.bslice aH 7 [oT 13]),oB 15 (.build [oi,oe,oe,oe,oe,ob,on] [(0,1,oN 6),(6,1,oT 14)]),oF 7 2 15] [2] [0,2] (.ret)) (oX [oA 17 0,
 oZ 18 ah [oT 17,oS ⟨#[40]⟩],oA 16 18] [0,2,16] [0,2] (.ite (oT 16) (oX [oA 19 0,oZ 20 d5 [oT 19],oB 3 (.alloc aH [oi,oe,oe,oe,oe,ob,on]),oF 7 3 20] [0,2,3] [0,2,3] (oX [oA 21 0,oZ 22 af [oT 21,.const (.int .u8 111),oS ⟨#[41]⟩]] [2,3] [0,2,3] (oX [oD 23 7 3,oF 7 2 23] [2] [0,2] (.ret)))) (.skip)))))) (.keep [0,2] [0,2] (oX [oA 24 0,
 oZ 25 af [oT 24,.const (.int .u8 110),oS ⟨#[]⟩],oA 4 25] [0,2,4] [0,2] (.seq (.block 1 (oX [oA 27 4,oB 28 (.eql false false [.str] (oT 27) (oS ⟨#[105,110]⟩)),oA 29 28,oH 30 29 (.mv (oT 0)),oH 31 29 (.call ah [oT 30,oS ⟨#[40]⟩]),oB 32 (.pick (oT 29) (oT 31) (.const ob)),oA 26 32] [0,2,4,26] [0,2] (.ite (oT 26) (oX [oA 33 0,
 oZ 34 af [oT 33,.const (.int .u8 110),oS ⟨#[]⟩],oB 35 (.build [oi,oe,oe,oe,oe,ob,on] [(0,1,oN 5),(1,1,oT 34)]),oB 5 (.alloc aH [oi,oe,oe,oe,oe,ob,on]),oF 7 5 35] [0,2,5] [0,2,5] (.seq (oX [oA 36 0,oZ 37 ah [oT 36,oS ⟨#[44]⟩]] [0,2,5,37] [0,2,5] (.ite (oT 37) (oX [oA 38 0,oZ 39 af [oT 38,.const (.int .u8 110),oS ⟨#[]⟩],oE 40 2 5,
 oF 1 40 39] [0,2,5] [0,2,5] (oX [oA 41 0,oZ 42 af [oT 41,.const (.int .u8 111),oS ⟨#[61]⟩]] [0,2,5] [0,2,5] (.reg [oA 43 0,oZ 44 af [oT 43,.const (.int .u8 115),oS ⟨#[]⟩],oE 45 3 5,oF 1 45 44]))) (.skip))) (.keep [0,2,5] [0,2,5] (oX [oA 46 0,oZ 47 af [oT 46,.const (.int .u8 111),oS ⟨#[41]⟩]] [2,5] [0,2,5] (oX [oD 48 7 5,
 oF 7 2 48] [2] [0,2] (.ret)))))) (oX [oA 50 0,oZ 51 ah [oT 50,oS ⟨#[33,61]⟩],oA 49 51] [0,2,4,49] [0,2] (.ite (oT 49) (oX [oA 52 4,oA 53 0,oZ 54 af [oT 53,.const (.int .u8 115),oS ⟨#[]⟩],oB 55 (.build [oi,oe,oe,oe,oe,ob,on] [(0,1,oN 2),(1,1,oT 52),(3,1,oT 54)]),oB 6 (.alloc aH [oi,oe,oe,oe,oe,ob,on]),oF 7 6 55] [0,2,6] [0,2,6] (oX [oA 56 0,
 oZ 57 bG [oT 56],oE 58 5 6,oF 1 58 57] [2,6] [0,2,6] (oX [oD 59 7 6,oB 60 (.bslice aH 7 [oT 59]),oB 61 (.build [oi,oe,oe,oe,oe,ob,on] [(0,1,oN 6),(6,1,oT 60)]),oF 7 2 61] [2] [0,2] (.ret)))) (oX [oA 63 0,oZ 64 bF [oT 63,.const (.int .u8 110),oS ⟨#[99,111,110,116,97,105,110,115]⟩],oA 62 64] [0,2,4,62] [0,2] (.ite (oT 62) (oX [oA 65 0,oG 66 65,
 oE 67 1 66,oC 68 1 67,oB 69 (.arith .add (oT 68) (oN 1)),oG 70 65,oE 71 1 70,oF 1 71 69] [0,2,4] [0,2] (oX [oA 72 4,oA 73 0,oZ 74 af [oT 73,.const (.int .u8 115),oS ⟨#[]⟩],oB 75 (.build [oi,oe,oe,oe,oe,ob,on] [(0,1,oN 3),(1,1,oT 72),(3,1,oT 74)]),oF 7 2 75] [2] [0,2] (.ret))) (.skip)))))))) (.keep [0,2,4] [0,2] (oX [oA 76 0,
 oZ 77 af [oT 76,.const (.int .u8 111),oS ⟨#[61]⟩]] [0,2,4] [0,2] (.seq (oX [oA 78 0,oG 79 78,oE 80 3 79,oC 81 1 80,oB 82 (.eql false false [.int] (oT 81) (oN 0)),oA 83 82,oH 84 83 (.mv (oT 0)),oH 85 83 (.call am [oT 84]),oH 86 83 (.fld false 1 0 (oT 85)),oH 87 83 (.eql false false [.int] (oT 86) (.const (.int .u8 110))),
 oB 88 (.pick (oT 83) (oT 87) (.const ob))] [0,2,4,88] [0,2] (.ite (oT 88) (oX [oA 89 4,oA 90 0,oZ 91 af [oT 90,.const (.int .u8 110),oS ⟨#[]⟩],oB 92 (.build [oi,oe,oe,oe,oe,ob,on] [(0,1,oN 4),(1,1,oT 89),(4,1,oT 91)]),oB 7 (.alloc aH [oi,oe,oe,oe,oe,ob,on]),oF 7 7 92] [0,2,7] [0,2,7] (oX [oA 93 0,
 oZ 94 af [oT 93,.const (.int .u8 111),oS ⟨#[46]⟩]] [0,2,7] [0,2,7] (oX [oA 95 0,oZ 96 af [oT 95,.const (.int .u8 110),oS ⟨#[]⟩],oE 97 2 7,oF 1 97 96] [2,7] [0,2,7] (oX [oD 98 7 7,oF 7 2 98] [2] [0,2] (.ret))))) (.skip))) (.keep [0,2,4] [0,2] (oX [oA 99 4,oA 100 0,oZ 101 af [oT 100,.const (.int .u8 115),oS ⟨#[]⟩],
 oB 102 (.build [oi,oe,oe,oe,oe,ob,on] [(0,1,oN 2),(1,1,oT 99),(3,1,oT 101)]),oB 8 (.alloc aH [oi,oe,oe,oe,oe,ob,on]),oF 7 8 102] [0,2,8] [0,2,8] (oX [oA 103 0,oZ 104 bG [oT 103],oE 105 5 8,oF 1 105 104] [2,8] [0,2,8] (oX [oD 106 7 8,oF 7 2 106] [2] [0,2] (.ret))))))))))))
def mo:List aI:= [.cell 2 true 7]
def Bb:List Nat:= []
theorem AQ:aR Tryz.prog cf Bb mT mo 107:=aA ay (by kernel_rfl)
-- r23_parser_gor while id=0: live [0:p, 2:, 3:l] changed [3] res [0, 2, 6, 13]
def mU:CC:=oX [oB 2 (.alloc aq [oi,oe,oe,oe,oe,oe,ob,oi,oi,on,on])] [0,2] [0,2,6,13] (oX [oA 4 0,oZ 5 eI [oT 4],oB 6 (.mslice aq 11 [oT 5]),oA 3 6] [0,2,3] [0,2,6,13] (.seq (.block 0 (.loop 1 (.seq (oX [oA 7 0,oZ 8 ah [oT 7,oS ⟨#[124]⟩]] [0,2,3,8] [0,2,6,13] (.ite (oT 8) (.skip) (.exit 0)))
 (.keep [0,2,3] [0,2,6,13] (.block 1 (.reg [oA 9 3,oA 10 0,oZ 11 eI [oT 10],oB 12 (.bslice aq 11 [oT 11]),oB 13 (.append (some 6) aq 11 160 (oT 9) (oT 12)),oA 3 13])))))) (.keep [2,3] [0,2,6,13] (.seq (oX [oA 14 3,oB 15 (.len (oT 14)),oB 16 (.eql false false [.int] (oT 15) (oN 1))] [2,3,16] [0,2,6,13] (.ite (oT 16) (oX [oA 17 3,
 oB 18 (.iaddr 11 (oT 17) (oN 0)),oD 19 11 18,oF 11 2 19] [2] [0,2,6,13] (.ret)) (.skip))) (.keep [2,3] [0,2,6,13] (oX [oA 20 3,oB 21 (.build [oi,oe,oe,oe,oe,oe,ob,oi,oi,on,on] [(0,1,oN 13),(10,1,oT 20)]),oF 11 2 21] [2] [0,2,6,13] (.ret)))))))
def mp:List aI:= [.cell 2 true 11]
def Bc:List Nat:= [100006,1013006]
theorem AR:aR Tryz.prog dz Bc mU mp 22:=aA ay (by kernel_rfl)
-- r23_parser_gand while id=0: live [0:p, 2:, 3:l] changed [3] res [0, 2, 6, 13]
def lD:CC:=oX [oB 2 (.alloc aq [oi,oe,oe,oe,oe,oe,ob,oi,oi,on,on])] [0,2] [0,2,6,13] (oX [oA 4 0,oZ 5 bO [oT 4],oB 6 (.mslice aq 11 [oT 5]),oA 3 6] [0,2,3] [0,2,6,13] (.seq (.block 0 (.loop 1 (.seq (oX [oA 7 0,oZ 8 ah [oT 7,oS ⟨#[38]⟩]] [0,2,3,8] [0,2,6,13] (.ite (oT 8) (.skip) (.exit 0)))
 (.keep [0,2,3] [0,2,6,13] (.block 1 (.reg [oA 9 3,oA 10 0,oZ 11 bO [oT 10],oB 12 (.bslice aq 11 [oT 11]),oB 13 (.append (some 6) aq 11 160 (oT 9) (oT 12)),oA 3 13])))))) (.keep [2,3] [0,2,6,13] (.seq (oX [oA 14 3,oB 15 (.len (oT 14)),oB 16 (.eql false false [.int] (oT 15) (oN 1))] [2,3,16] [0,2,6,13] (.ite (oT 16) (oX [oA 17 3,
 oB 18 (.iaddr 11 (oT 17) (oN 0)),oD 19 11 18,oF 11 2 19] [2] [0,2,6,13] (.ret)) (.skip))) (.keep [2,3] [0,2,6,13] (oX [oA 20 3,oB 21 (.build [oi,oe,oe,oe,oe,oe,ob,oi,oi,on,on] [(0,1,oN 12),(10,1,oT 20)]),oF 11 2 21] [2] [0,2,6,13] (.ret)))))))
def ld:List aI:= [.cell 2 true 11]
def zK:List Nat:= [100006,1013006]
theorem zo:aR Tryz.prog eI zK lD ld 22:=aA ay (by kernel_rfl)
-- r23_parser_gnot range i=28 n=27 c=29 i2=41 id=1: live [0:p, 2:, 4:name, 5:op, 26:] changed [5] res [0, 2]
def lC:CC:=oX [oB 2 (.alloc aq [oi,oe,oe,oe,oe,oe,ob,oi,oi,on,on])] [0,2] [0,2] (.seq (.block 0 (oX [oA 10 0,oZ 11 ah [oT 10,oS ⟨#[33]⟩],oA 9 11] [0,2,9] [0,2] (.ite (oT 9) (oX [oA 12 0,oZ 13 bO [oT 12],oB 14 (.bslice aq 11 [oT 13]),oB 15 (.build [oi,oe,oe,oe,oe,oe,ob,oi,oi,on,on] [(0,1,oN 11),(10,1,oT 14)]),
 oF 11 2 15] [2] [0,2] (.ret)) (oX [oA 17 0,oZ 18 ah [oT 17,oS ⟨#[40]⟩],oA 16 18] [0,2,16] [0,2] (.ite (oT 16) (oX [oA 19 0,oZ 20 dz [oT 19],oB 3 (.alloc aq [oi,oe,oe,oe,oe,oe,ob,oi,oi,on,on]),oF 11 3 20] [0,2,3] [0,2,3] (oX [oA 21 0,oZ 22 af [oT 21,.const (.int .u8 111),oS ⟨#[41]⟩]] [2,3] [0,2,3] (oX [oD 23 11 3,
 oF 11 2 23] [2] [0,2] (.ret)))) (.skip)))))) (.keep [0,2] [0,2] (oX [oA 24 0,oZ 25 af [oT 24,.const (.int .u8 110),oS ⟨#[]⟩],oA 4 25] [0,2,4] [0,2] (oX [oB 5 (.mv (oN 0))] [0,2,4,5] [0,2] (.seq (oX [oZ 26 ba [],oB 27 (.len (oT 26)),oB 28 (.mv (oN 0))] [0,2,4,5,26,27,28] [0,2] (bi 1 28 27 29 2 (oX [oA 30 28,oB 31 (.iaddr 1 (oT 26) (oT 28)),oC 32 1 31,
 oA 6 30,oA 7 32] [0,2,4,5,6,7,26,27,28] [0,2] (oX [oA 33 7,oB 34 (.eql true false [.str] (oT 33) (oS ⟨#[]⟩)),oA 35 34,oH 36 35 (.mv (oT 7)),oH 37 35 (.mv (oT 4)),oH 38 35 (.eql false false [.str] (oT 36) (oT 37)),oB 39 (.pick (oT 35) (oT 38) (.const ob))] [0,2,4,5,6,26,27,28,39] [0,2] (.ite (oT 39) (.reg [oA 40 6,oA 5 40]) (.skip)))) 41)) (.keep [0,2,4,5] [0,2] (.seq (oX [oA 42 5,
 oB 43 (.cmp .gtr (oT 42) (oN 0)),oA 44 43,oH 45 44 (.mv (oT 0)),oH 46 44 (.call ah [oT 45,oS ⟨#[40]⟩]),oB 47 (.pick (oT 44) (oT 46) (.const ob))] [0,2,4,5,47] [0,2] (.ite (oT 47) (oX [oA 48 0,oA 49 5,oZ 50 gm [oT 48,oT 49],oF 11 2 50] [2] [0,2] (.ret)) (.skip))) (.keep [0,2,4] [0,2] (oX [oA 51 4,
 oB 52 (.build [oi,oe,oe,oe,oe,oe,ob,oi,oi,on,on] [(0,1,oN 2),(1,1,oT 51)]),oB 8 (.alloc aq [oi,oe,oe,oe,oe,oe,ob,oi,oi,on,on]),oF 11 8 52] [0,2,8] [0,2,8] (oX [oA 53 0,oZ 54 af [oT 53,.const (.int .u8 111),oS ⟨#[46]⟩]] [0,2,8] [0,2,8] (oX [oA 55 0,oZ 56 af [oT 55,.const (.int .u8 110),oS ⟨#[]⟩],oE 57 3 8,oF 1 57 56] [0,2,8] [0,2,8] (oX [oA 58 0,
 oZ 59 af [oT 58,.const (.int .u8 111),oS ⟨#[61]⟩]] [0,2,8] [0,2,8] (.seq (oX [oA 60 0,oG 61 60,oE 62 3 61,oC 63 1 62,oB 64 (.eql false false [.int] (oT 63) (oN 0)),oA 65 64,oH 66 65 (.mv (oT 0)),oH 67 65 (.call am [oT 66]),oH 68 65 (.fld false 1 0 (oT 67)),oH 69 65 (.eql false false [.int] (oT 68) (.const (.int .u8 110))),
 oB 70 (.pick (oT 65) (oT 69) (.const ob))] [0,2,8,70] [0,2,8] (.ite (oT 70) (oX [oA 71 0,oZ 72 af [oT 71,.const (.int .u8 110),oS ⟨#[]⟩],oE 73 0 8,.op none none (.store none 1 (oT 73) (oN 3)),oE 74 2 8,oF 1 74 72] [0,2,8] [0,2,8] (oX [oA 75 0,oZ 76 af [oT 75,.const (.int .u8 111),oS ⟨#[46]⟩]] [0,2,8] [0,2,8] (oX [oA 77 0,
 oZ 78 af [oT 77,.const (.int .u8 110),oS ⟨#[]⟩],oE 79 4 8,oF 1 79 78] [2,8] [0,2,8] (oX [oD 80 11 8,oF 11 2 80] [2] [0,2] (.ret))))) (.skip))) (.keep [0,2,8] [0,2,8] (oX [oA 81 0,oZ 82 af [oT 81,.const (.int .u8 115),oS ⟨#[]⟩],oE 83 5 8,oF 1 83 82] [0,2,8] [0,2,8] (oX [oA 84 0,oZ 85 bG [oT 84],oE 86 6 8,oF 1 86 85] [2,8] [0,2,8] (oX [
 oD 87 11 8,oF 11 2 87] [2] [0,2] (.ret))))))))))))))))))
def lc:List aI:= [.cell 2 true 11]
def zJ:List Nat:= []
theorem zn:aR Tryz.prog bO zJ lC lc 88:=aA ay (by kernel_rfl)
def jq:CC:=oX [oB 2 (.mv (oN 0))] [0] [0] (.seq (oX [oA 3 0,oZ 4 ah [oT 3,oS ⟨#[45]⟩]] [0,4] [0] (.ite (oT 4) (oX [oA 5 0,oA 6 0,oZ 7 am [oT 6],oB 8 (.fld false 1 2 (oT 7)),oZ 9 bb [oT 5,oN 100000,oT 8],oB 10 (.neg (oT 9)),oA 2 10] [2] [0] (.ret)) (.skip))) (.keep [0] [0] (oX [oA 11 0,oA 12 0,
 oZ 13 am [oT 12],oB 14 (.fld false 1 2 (oT 13)),oZ 15 bb [oT 11,oN 100000,oT 14],oA 2 15] [2] [0] (.ret))))
def iU:List aI:= [.tmp 2]
def wB:List Nat:= []
theorem v6:aR Tryz.prog dT wB jq iU 16:=aA ay (by kernel_rfl)
-- r23_parser_call while id=0: live [0:p, 4:, 5:x] changed [] res [0, 4, 5, 69]
def lF:CC:=oX [oB 4 (.alloc aq [oi,oe,oe,oe,oe,oe,ob,oi,oi,on,on])] [0,1,4] [0,4,69] (oX [oA 6 1,oA 7 0,oZ 8 af [oT 7,.const (.int .u8 110),oS ⟨#[]⟩],oB 9 (.build [oi,oe,oe,oe,oe,oe,ob,oi,oi,on,on] [(0,1,oT 6),(1,1,oT 8)]),oB 5 (.alloc aq [oi,oe,oe,oe,oe,oe,ob,oi,oi,on,on]),oF 11 5 9] [0,1,4,5] [0,4,5,69] (iB 2 (oX [oA 10 1,
 oB 11 (.eql true false [.int] (oT 10) (oN 1)),oA 12 11,oH 13 12 (.mv (oT 1)),oH 14 12 (.eql true false [.int] (oT 13) (oN 10)),oB 15 (.pick (oT 12) (oT 14) (.const ob))] [0,1,4,5,15] [0,4,5,69] (.ite (oT 15) (oX [oA 16 0,oZ 17 af [oT 16,.const (.int .u8 111),oS ⟨#[44]⟩]] [0,1,4,5] [0,4,5,69] (.reg [oA 18 0,oZ 19 af [oT 18,.const (.int .u8 110),oS ⟨#[]⟩],
 oE 20 2 5,oF 1 20 19])) (.skip))) (.keep [0,1,4,5] [0,4,5,69] (iB 5 (oX [oA 21 1] [0,4,5,21] [0,4,5,69] (.block 0 (oX [oB 23 (.eql false false [.int] (oT 21) (oN 4)),oA 22 23] [0,4,5,21,22] [0,4,5,69] (.ite (oT 22) (oX [oA 24 0,oZ 25 af [oT 24,.const (.int .u8 111),oS ⟨#[44]⟩]] [0,4,5] [0,4,5,69] (oX [oA 26 0,oZ 27 dT [oT 26],oE 28 7 5,
 oF 1 28 27] [0,4,5] [0,4,5,69] (oX [oA 29 0,oZ 30 af [oT 29,.const (.int .u8 111),oS ⟨#[44]⟩]] [0,4,5] [0,4,5,69] (.reg [oA 31 0,oZ 32 dT [oT 31],oE 33 8 5,oF 1 33 32])))) (oX [oB 35 (.eql false false [.int] (oT 21) (oN 10)),oA 34 35] [0,4,5,21,34] [0,4,5,69] (.ite (oT 34) (oX [oA 36 0,
 oZ 37 af [oT 36,.const (.int .u8 111),oS ⟨#[44]⟩]] [0,4,5] [0,4,5,69] (oX [oA 38 0,oA 39 0,oZ 40 am [oT 39],oB 41 (.fld false 1 2 (oT 40)),oZ 42 bb [oT 38,oN 100000,oT 41],oE 43 7 5,oF 1 43 42] [0,4,5] [0,4,5,69] (oX [oA 44 0,oZ 45 af [oT 44,.const (.int .u8 111),oS ⟨#[44]⟩]] [0,4,5] [0,4,5,69] (.reg [oA 46 0,oA 47 0,
 oZ 48 am [oT 47],oB 49 (.fld false 1 2 (oT 48)),oZ 50 bb [oT 46,oN 100000,oT 49],oE 51 8 5,oF 1 51 50])))) (.seq (oX [oB 53 (.eql false false [.int] (oT 21) (oN 5)),oA 52 53] [0,4,5,21,52] [0,4,5,69] (.ite (oT 52) (.skip) (.reg [oB 54 (.eql false false [.int] (oT 21) (oN 9)),oA 52 54]))) (.keep [0,4,5,21,52] [0,4,5,69] (.ite (oT 52) (oX [oA 55 0,
 oZ 56 af [oT 55,.const (.int .u8 111),oS ⟨#[44]⟩]] [0,4,5] [0,4,5,69] (.reg [oA 57 0,oZ 58 af [oT 57,.const (.int .u8 110),oS ⟨#[]⟩],oE 59 3 5,oF 1 59 58])) (oX [oB 61 (.eql false false [.int] (oT 21) (oN 8)),oA 60 61] [0,4,5,60] [0,4,5,69] (.ite (oT 60) (.block 1 (.loop 1 (.seq (oX [oA 62 0,
 oZ 63 ah [oT 62,oS ⟨#[44]⟩]] [0,4,5,63] [0,4,5,69] (.ite (oT 63) (.skip) (.exit 1))) (.keep [0,4,5] [0,4,5,69] (.block 2 (.regd [oE 64 9 5,oC 65 1 64,oA 66 0,oB 67 (.callb 0 af [oT 66,.const (.int .u8 115),oS ⟨#[]⟩]),oB 68 (.bslice aF 1 [oT 67])] [oB 69 (.append (some 69) aF 1 16 (oT 65) (oT 68)),oE 70 9 5,
 .op none none (.store (some 5) 1 (oT 70) (oT 69))])))))) (.skip)))))))))))) (.keep [0,4,5] [0,4,5,69] (oX [oA 71 0,oZ 72 af [oT 71,.const (.int .u8 111),oS ⟨#[41]⟩]] [4,5] [0,4,5,69] (oX [oD 73 11 5,oF 11 4 73] [4] [0,4,69] (.ret))))))))
def lg:List aI:= [.cell 4 true 11]
def zM:List Nat:= [3067000,1069069,2070005]
theorem zq:aR Tryz.prog gm zM lF lg 74:=aA ay (by kernel_rfl)
def nM:CC:=oX [oB 0 (.mv (.const on))] [] [] (oX [oB 1 (.bslice aF 1 [oS ⟨#[]⟩,oS ⟨#[98,111,117,110,100]⟩,oS ⟨#[]⟩,oS ⟨#[]⟩,oS ⟨#[100,105,115,116,97,110,99,101]⟩,oS ⟨#[115,97,109,101]⟩,oS ⟨#[104,101,97,100]⟩,oS ⟨#[97,110,99,101,115,116,111,114]⟩,oS ⟨#[112,97,116,104]⟩,oS ⟨#[110,111,100,101]⟩,oS ⟨#[100,101,112,116,104]⟩]),oA 0 1] [0] [] (.ret))
def nr:List aI:= [.tmp 0]
def CZ:List Nat:= []
theorem CB:aR Tryz.prog ba CZ nM nr 2:=aA ay (by kernel_rfl)
-- r23_Format range i=32 n=31 c=33 i2=39 id=0: live [1:q, 30:] changed [] res []
-- r23_Format range i=56 n=55 c=57 i2=85 id=2: live [1:q, 5:out, 54:] changed [5] res []
def qM:CC:=oX [oB 1 (.box aq true (oT 0)),oB 2 (.mv (.const ob))] [1] [] (oX [oD 6 11 1,oZ 7 dt [oT 6,oN 0],oA 5 7,oB 8 (.ext (oT 5) 0),oB 9 (.ext (oT 5) 1),oA 3 8,oA 4 9] [1,3,4] [] (oX [oA 10 3,oB 11 (.cmp .leq (oT 10) (oN 60)),oA 12 11,oH 13 12 (.mv (oT 4)),oH 14 12 (.cmp .leq (oT 13) (oN 20)),oB 15 (.pick (oT 12) (oT 14) (.const ob)),
 oA 16 15,oH 17 16 (.load true 11 (oT 1)),oH 18 16 (.call dr [oT 17,.const (.bool true)]),oB 19 (.pick (oT 16) (oT 18) (.const ob)),oA 2 19] [2] [] (.ret)))
def qf:List aI:= [.tmp 2]
def G9:List Nat:= [1]
theorem Gy:aR Tryz.prog kM G9 qM qf 20:=aA ay (by kernel_rfl)
-- r23_globNodes range i=17 n=16 c=18 i2=38 id=0: live [1:deep, 6:n, 7:d, 15:] changed [6, 7] res []
def nL:CC:=oX [oB 2 (.box aq true (oT 0)),oB 4 (.mv (oN 0)),oB 5 (.mv (oN 0))] [1,2] [] (.seq (oX [oA 12 1,oB 13 (.cmp .gtr (oT 12) (oN 60))] [1,2,13] [] (.ite (oT 13) (oX [oB 4 (.mv (oN 61)),oB 5 (.mv (oN 61))] [4,5] [] (.ret)) (.skip))) (.keep [1,2] [] (oX [oB 6 (.mv (oN 1)),oB 7 (.mv (oN 0))] [1,2,6,7] [] (.seq (oX [oE 14 10 2,oC 15 1 14,
 oB 16 (.len (oT 15)),oB 17 (.mv (oN 0))] [1,6,7,15,16,17] [] (bi 0 17 16 18 1 (oX [oB 19 (.iaddr 11 (oT 15) (oT 17)),oD 20 11 19,oB 9 (.alloc aq [oi,oe,oe,oe,oe,oe,ob,oi,oi,on,on]),oF 11 9 20] [1,6,7,9,15,16,17] [9] (oX [oD 22 11 9,oA 23 1,oB 24 (.arith .add (oT 23) (oN 1)),oZ 25 dt [oT 22,oT 24],oA 21 25,oB 26 (.ext (oT 21) 0),oB 27 (.ext (oT 21) 1),
 oA 10 26,oA 11 27] [1,6,7,10,11,15,16,17] [] (oX [oA 28 6,oA 29 10,oB 30 (.arith .add (oT 28) (oT 29)),oA 31 7,oA 32 11,oB 33 (.mm true [oT 31,oT 32]),oA 6 30,oA 7 33] [1,6,7,15,16,17] [] (oX [oA 34 6,oB 35 (.cmp .gtr (oT 34) (oN 60))] [1,6,7,15,16,17,35] [] (.ite (oT 35) (oX [oA 36 7,oB 37 (.arith .add (oT 36) (oN 1)),oB 4 (.mv (oN 61)),oA 5 37] [4,5] [] (.ret)) (.skip)))))) 38))
 (.keep [6,7] [] (oX [oA 39 6,oA 40 7,oB 41 (.arith .add (oT 40) (oN 1)),oA 4 39,oA 5 41] [4,5] [] (.ret)))))))
def nq:List aI:= [.tmp 4, .tmp 5]
def CX:List Nat:= [2]
theorem Cz:aR Tryz.prog dt CX nL nq 42:=aA ay (by kernel_rfl)
-- r23_globShape range i=138 n=137 c=139 i2=145 id=1: live [136:] changed [] res []
def bg:CC:=oX [oB 2 (.box aq true (oT 0)),oB 4 (.mv (.const ob))] [1,2] [] (oX [oB 5 (.mv (.const (.bool true))),oB 6 (.mv (.const ob)),oB 7 (.mv (.const ob)),oB 8 (.mv (.const ob)),oB 9 (.mv (.const ob)),oB 10 (.mv (.const ob)),oB 11 (.mv (.const ob)),oB 12 (.mv (.const ob)),oB 13 (.mv (oN 0)),
 oB 14 (.mv (oN 0))] [1,2,5,6,7,8,9,10,11,12,13,14] [] (.seq (oX [oE 17 0 2,oC 18 1 17] [1,2,5,6,7,8,9,10,11,12,13,14,18] [] (.block 0 (oX [oB 20 (.eql false false [.int] (oT 18) (oN 0)),oA 19 20] [1,2,5,6,7,8,9,10,11,12,13,14,18,19] [] (.ite (oT 19) (.seq (oX [oA 21 1,oB 22 (.not (oT 21))] [2,6,7,8,9,10,11,12,13,14,22] [] (.ite (oT 22) (oX [oB 4 (.mv (.const ob))] [4] [] (.ret)) (.skip)))
 (.keep [2,6,7,8,9,10,11,12,13,14] [] (.reg [oB 5 (.mv (.const ob))]))) (oX [oB 24 (.eql false false [.int] (oT 18) (oN 1)),oA 23 24] [2,5,6,7,8,9,10,11,12,13,14,18,23] [] (.ite (oT 23) (.skip) (oX [oB 26 (.eql false false [.int] (oT 18) (oN 2)),oA 25 26] [2,5,6,7,8,9,10,11,12,13,14,18,25] [] (.ite (oT 25) (.reg [oB 7 (.mv (.const (.bool true))),oB 9 (.mv (.const (.bool true))),
 oB 10 (.mv (.const (.bool true)))]) (oX [oB 28 (.eql false false [.int] (oT 18) (oN 3)),oA 27 28] [2,5,6,7,8,9,10,11,12,13,14,18,27] [] (.ite (oT 27) (.reg [oB 6 (.mv (.const (.bool true))),oB 7 (.mv (.const (.bool true))),oB 8 (.mv (.const (.bool true)))]) (oX [oB 30 (.eql false false [.int] (oT 18) (oN 4)),oA 29 30] [2,5,6,7,8,9,10,11,12,13,14,18,29] [] (.ite (oT 29) (.reg [
 oB 6 (.mv (.const (.bool true))),oB 11 (.mv (.const (.bool true)))]) (.seq (oX [oB 32 (.eql false false [.int] (oT 18) (oN 5)),oA 31 32] [2,5,6,7,8,9,10,11,12,13,14,18,31] [] (.ite (oT 31) (.skip) (.reg [oB 33 (.eql false false [.int] (oT 18) (oN 9)),oA 31 33]))) (.keep [2,5,6,7,8,9,10,11,12,13,14,18,31] [] (.ite (oT 31) (.reg [oB 6 (.mv (.const (.bool true))),
 oB 7 (.mv (.const (.bool true)))]) (.seq (oX [oB 35 (.eql false false [.int] (oT 18) (oN 6)),oA 34 35] [2,5,6,7,8,9,10,11,12,13,14,18,34] [] (.ite (oT 34) (.skip) (.reg [oB 36 (.eql false false [.int] (oT 18) (oN 7)),oA 34 36]))) (.keep [2,5,6,7,8,9,10,11,12,13,14,18,34] [] (.ite (oT 34) (.reg [oB 6 (.mv (.const (.bool true)))]) (oX [oB 38 (.eql false false [.int] (oT 18) (oN 8)),
 oA 37 38] [2,5,6,7,8,9,10,11,12,13,14,18,37] [] (.ite (oT 37) (.reg [oB 6 (.mv (.const (.bool true))),oB 12 (.mv (.const (.bool true)))]) (oX [oB 40 (.eql false false [.int] (oT 18) (oN 10)),oA 39 40] [2,5,6,7,8,9,10,11,12,13,14,18,39] [] (.ite (oT 39) (.reg [oB 11 (.mv (.const (.bool true)))]) (oX [oB 42 (.eql false false [.int] (oT 18) (oN 11)),
 oA 41 42] [2,6,7,8,9,10,11,12,18,41] [] (.ite (oT 41) (.reg [oB 5 (.mv (.const ob)),oB 13 (.mv (oN 1)),oB 14 (.mv (oN 1))]) (.seq (oX [oB 44 (.eql false false [.int] (oT 18) (oN 12)),oA 43 44] [2,6,7,8,9,10,11,12,18,43] [] (.ite (oT 43) (.skip) (.reg [oB 45 (.eql false false [.int] (oT 18) (oN 13)),oA 43 45]))) (.keep [2,6,7,8,9,10,11,12,43] [] (.ite (oT 43) (.reg [oB 5 (.mv (.const ob)),
 oB 13 (.mv (oN 2)),oB 14 (.mv (oN 1000))]) (oX [oB 4 (.mv (.const ob))] [4] [] (.ret))))))))))))))))))))))))))))) (.keep [2,5,6,7,8,9,10,11,12,13,14] [] (.seq (oX [oA 46 5,oB 47 (.not (oT 46)),oA 48 47,oH 49 48 (.faddr 1 (oT 2)),oH 50 48 (.load false 1 (oT 49)),oH 51 48 (.eql true false [.str] (oT 50) (oS ⟨#[]⟩)),oB 52 (.pick (oT 48) (oT 51) (.const ob)),oA 53 52,oI 54 53 (.mv (oT 6)),
 oI 55 53 (.not (oT 54)),oI 56 53 (.mv (oT 55)),oH 57 56 (.faddr 2 (oT 2)),oH 58 56 (.load false 1 (oT 57)),oH 59 56 (.eql true false [.str] (oT 58) (oS ⟨#[]⟩)),oI 60 53 (.pick (oT 56) (oT 59) (.const ob)),oB 61 (.pick (oT 53) (.const (.bool true)) (oT 60)),oA 62 61,oI 63 62 (.mv (oT 7)),oI 64 62 (.not (oT 63)),oI 65 62 (.mv (oT 64)),oH 66 65 (.faddr 3 (oT 2)),
 oH 67 65 (.load false 1 (oT 66)),oH 68 65 (.eql true false [.str] (oT 67) (oS ⟨#[]⟩)),oI 69 62 (.pick (oT 65) (oT 68) (.const ob)),oB 70 (.pick (oT 62) (.const (.bool true)) (oT 69)),oA 71 70,oI 72 71 (.mv (oT 8)),oI 73 71 (.not (oT 72)),oI 74 71 (.mv (oT 73)),oH 75 74 (.faddr 4 (oT 2)),oH 76 74 (.load false 1 (oT 75)),oH 77 74 (.eql true false [.str] (oT 76) (oS ⟨#[]⟩)),
 oI 78 71 (.pick (oT 74) (oT 77) (.const ob)),oB 79 (.pick (oT 71) (.const (.bool true)) (oT 78)),oA 80 79,oI 81 80 (.mv (oT 9)),oI 82 80 (.not (oT 81)),oI 83 80 (.mv (oT 82)),oH 84 83 (.faddr 5 (oT 2)),oH 85 83 (.load false 1 (oT 84)),oH 86 83 (.eql true false [.str] (oT 85) (oS ⟨#[]⟩)),oI 87 80 (.pick (oT 83) (oT 86) (.const ob)),oB 88 (.pick (oT 80) (.const (.bool true)) (oT 87)),
 oA 89 88,oI 90 89 (.mv (oT 10)),oI 91 89 (.not (oT 90)),oI 92 89 (.mv (oT 91)),oH 93 92 (.faddr 6 (oT 2)),oH 94 92 (.load false 1 (oT 93)),oI 95 89 (.pick (oT 92) (oT 94) (.const ob)),oB 96 (.pick (oT 89) (.const (.bool true)) (oT 95)),oA 97 96,oI 98 97 (.mv (oT 11)),oI 99 97 (.not (oT 98)),oI 100 97 (.mv (oT 99)),oH 101 100 (.faddr 7 (oT 2)),oH 102 100 (.load false 1 (oT 101)),
 oH 103 100 (.eql true false [.int] (oT 102) (oN 0)),oH 104 100 (.mv (oT 103)),oI 105 104 (.faddr 8 (oT 2)),oI 106 104 (.load false 1 (oT 105)),oI 107 104 (.eql true false [.int] (oT 106) (oN 0)),oH 108 100 (.pick (oT 104) (.const (.bool true)) (oT 107)),oI 109 97 (.pick (oT 100) (oT 108) (.const ob)),oB 110 (.pick (oT 97) (.const (.bool true)) (oT 109)),oA 111 110,
 oI 112 111 (.mv (oT 12)),oI 113 111 (.not (oT 112)),oI 114 111 (.mv (oT 113)),oH 115 114 (.faddr 9 (oT 2)),oH 116 114 (.load false 1 (oT 115)),oH 117 114 (.len (oT 116)),oH 118 114 (.cmp .gtr (oT 117) (oN 0)),oI 119 111 (.pick (oT 114) (oT 118) (.const ob)),oB 120 (.pick (oT 111) (.const (.bool true)) (oT 119)),oA 121 120,oI 122 121 (.faddr 10 (oT 2)),
 oI 123 121 (.load false 1 (oT 122)),oI 124 121 (.len (oT 123)),oI 125 121 (.mv (oT 13)),oI 126 121 (.cmp .lss (oT 124) (oT 125)),oB 127 (.pick (oT 121) (.const (.bool true)) (oT 126)),oA 128 127,oI 129 128 (.faddr 10 (oT 2)),oI 130 128 (.load false 1 (oT 129)),oI 131 128 (.len (oT 130)),oI 132 128 (.mv (oT 14)),oI 133 128 (.cmp .gtr (oT 131) (oT 132)),
 oB 134 (.pick (oT 128) (.const (.bool true)) (oT 133))] [2,134] [] (.ite (oT 134) (oX [oB 4 (.mv (.const ob))] [4] [] (.ret)) (.skip))) (.keep [2] [] (.seq (oX [oE 135 10 2,oC 136 1 135,oB 137 (.len (oT 136)),oB 138 (.mv (oN 0))] [136,137,138] [] (bi 1 138 137 139 2 (oX [oB 140 (.iaddr 11 (oT 136) (oT 138)),oD 141 11 140,
 oB 16 (.alloc aq [oi,oe,oe,oe,oe,oe,ob,oi,oi,on,on]),oF 11 16 141] [16,136,137,138] [16] (oX [oD 142 11 16,oZ 143 dr [oT 142,.const ob],oB 144 (.not (oT 143))] [136,137,138,144] [] (.ite (oT 144) (oX [oB 4 (.mv (.const ob))] [4] [] (.ret)) (.skip)))) 145)) (.keep [] [] (oX [oB 4 (.mv (.const (.bool true)))] [4] [] (.ret)))))))))
def be:List aI:= [.tmp 4]
def CW:List Nat:= [2]
theorem Cy:aR Tryz.prog dr CW bg be 146:=aA ay (by kernel_rfl)
-- r23_malformed range i=26 n=25 c=27 i2=32 id=0: live [24:] changed [] res []
def nK:CC:=oX [oB 1 (.box aH true (oT 0)),oB 2 (.mv (.const ob))] [1] [] (.seq (oX [oD 8 7 1,oZ 9 oQ [oT 8],oA 7 9,oB 10 (.ext (oT 7) 0),oB 11 (.ext (oT 7) 1),oA 3 10,oA 4 11] [1,3,4] [] (oX [oA 12 3,oB 13 (.cmp .gtr (oT 12) (oN 60)),oA 14 13,oI 15 14 (.mv (oT 4)),oI 16 14 (.cmp .gtr (oT 15) (oN 20)),
 oB 17 (.pick (oT 14) (.const (.bool true)) (oT 16)),oA 18 17,oI 19 18 (.load true 7 (oT 1)),oI 20 18 (.call oP [oT 19]),oI 21 18 (.not (oT 20)),oB 22 (.pick (oT 18) (.const (.bool true)) (oT 21))] [1,22] [] (.ite (oT 22) (oX [oB 2 (.mv (.const (.bool true)))] [2] [] (.ret)) (.skip)))) (.keep [1] [] (.seq (oX [oE 23 6 1,oC 24 1 23,oB 25 (.len (oT 24)),
 oB 26 (.mv (oN 0))] [24,25,26] [] (bi 0 26 25 27 1 (oX [oB 28 (.iaddr 7 (oT 24) (oT 26)),oD 29 7 28,oB 6 (.alloc aH [oi,oe,oe,oe,oe,ob,on]),oF 7 6 29] [6,24,25,26] [6] (oX [oD 30 7 6,oZ 31 dn [oT 30]] [24,25,26,31] [] (.ite (oT 31) (oX [oB 2 (.mv (.const (.bool true)))] [2] [] (.ret)) (.skip)))) 32)) (.keep [] [] (oX [oB 2 (.mv (.const ob))] [2] [] (.ret))))))
def np:List aI:= [.tmp 2]
def CV:List Nat:= [1]
theorem Cx:aR Tryz.prog dn CV nK np 33:=aA ay (by kernel_rfl)
-- r23_pattern range i=152 n=151 c=153 i2=188 id=3: live [1:p, 3:out, 150:] changed [3] res []
def a9:CC:=oX [oB 1 (.box ag true (oT 0)),oB 2 (.mv (oS ⟨#[]⟩))] [1] [] (oX [oB 3 (.mv (oS ⟨#[]⟩))] [1,3] [] (.seq (oX [oE 7 0 1,oC 8 1 7] [1,3,8] [] (.block 0 (oX [oB 10 (.eql false false [.int] (oT 8) (oN 1)),oA 9 10] [1,3,8,9] [] (.ite (oT 9) (.seq (oX [oE 11 8 1,oC 12 1 11,oB 13 (.eql true false [.str] (oT 12) (oS ⟨#[]⟩))] [1,3,13] [] (.ite (oT 13) (.reg [
 oE 14 8 1,oC 15 1 14,oB 16 (.scat (oT 15) (oS ⟨#[58]⟩)),oA 3 16]) (.skip))) (.keep [1,3] [] (.seq (.block 1 (oX [oE 18 1 1,oE 19 0 18,oC 20 1 19,oB 21 (.eql false false [.int] (oT 20) (oN 1)),oA 17 21] [1,3,17] [] (.ite (oT 17) (oX [oA 22 3,oB 23 (.scat (oT 22) (oS ⟨#[91,93]⟩)),oA 2 23] [2] [] (.ret)) (oX [oE 25 1 1,oE 26 0 25,oC 27 1 26,
 oB 28 (.eql false false [.int] (oT 27) (oN 2)),oA 29 28,oH 30 29 (.faddr 1 (oT 1)),oH 31 29 (.faddr 1 (oT 30)),oH 32 29 (.load false 1 (oT 31)),oH 33 29 (.eql false false [.str] (oT 32) (oS ⟨#[]⟩)),oB 34 (.pick (oT 29) (oT 33) (.const ob)),oA 24 34] [1,3,24] [] (.ite (oT 24) (oX [oA 35 3,oE 36 1 1,oE 37 3 36,oC 38 1 37,oE 39 1 1,oE 40 5 39,oC 41 1 40,
 oZ 42 a7 [oT 38,oT 41],oB 43 (.scat (oT 35) (oT 42)),oA 2 43] [2] [] (.ret)) (.skip)))))) (.keep [1,3] [] (oX [oA 44 3,oB 45 (.scat (oT 44) (oS ⟨#[91]⟩)),oE 46 1 1,oD 47 7 46,oZ 48 b9 [oT 47],oB 49 (.scat (oT 45) (oT 48)),oB 50 (.scat (oT 49) (oS ⟨#[93]⟩)),oA 2 50] [2] [] (.ret)))))) (oX [oB 52 (.eql false false [.int] (oT 8) (oN 2)),
 oA 51 52] [1,3,8,51] [] (.ite (oT 51) (oX [oE 53 9 1,oC 54 1 53,oB 55 (.scat (oS ⟨#[60]⟩) (oT 54)),oB 56 (.scat (oT 55) (oS ⟨#[62]⟩)),oA 2 56] [2] [] (.ret)) (oX [oB 58 (.eql false false [.int] (oT 8) (oN 3)),oA 57 58] [1,3,8,57] [] (.ite (oT 57) (oX [oE 59 9 1,oC 60 1 59,oB 61 (.scat (oS ⟨#[60,47]⟩) (oT 60)),oB 62 (.scat (oT 61) (oS ⟨#[62]⟩)),oA 2 62] [2] [] (.ret)) (oX [
 oB 64 (.eql false false [.int] (oT 8) (oN 6)),oA 63 64] [1,3,63] [] (.ite (oT 63) (oX [oE 65 12 1,oC 66 1 65,oB 67 (.iaddr 13 (oT 66) (oN 0)),oD 68 13 67,oB 4 (.alloc ag [oi,oi,oe,oe,oe,oe,ob,on,oe,oe,oi,oi,on]),oF 13 4 68] [1,4] [4] (.seq (.regd [oD 69 13 4,oZ 70 cN [oT 69],oE 71 0 4,oC 72 1 71,oB 73 (.eql false false [.int] (oT 72) (oN 5))] [oA 74 73,
 oI 75 74 (.faddr 0 (oT 4)),oI 76 74 (.load false 1 (oT 75)),oI 77 74 (.eql false false [.int] (oT 76) (oN 4)),oB 78 (.pick (oT 74) (.const (.bool true)) (oT 77)),oZ 79 aW [oT 70,oT 78],oA 3 79]) (.keep [1,3] [] (.seq (.block 2 (oX [oE 81 10 1,oC 82 1 81,oB 83 (.eql false false [.int] (oT 82) (oN 0)),oA 84 83,oH 85 84 (.faddr 11 (oT 1)),oH 86 84 (.load false 1 (oT 85)),
 oH 87 84 (.eql false false [.int] (oT 86) (oN 1)),oB 88 (.pick (oT 84) (oT 87) (.const ob)),oA 80 88] [1,3,80] [] (.ite (oT 80) (oX [oA 89 3,oB 90 (.scat (oT 89) (oS ⟨#[63]⟩)),oA 2 90] [2] [] (.ret)) (oX [oE 92 10 1,oC 93 1 92,oB 94 (.eql false false [.int] (oT 93) (oN 0)),oA 95 94,oH 96 95 (.faddr 11 (oT 1)),oH 97 95 (.load false 1 (oT 96)),
 oH 98 95 (.eql false false [.int] (oT 97) (oN (-1))),oB 99 (.pick (oT 95) (oT 98) (.const ob)),oA 91 99] [1,3,91] [] (.ite (oT 91) (oX [oA 100 3,oB 101 (.scat (oT 100) (oS ⟨#[42]⟩)),oA 2 101] [2] [] (.ret)) (oX [oE 103 10 1,oC 104 1 103,oB 105 (.eql false false [.int] (oT 104) (oN 1)),oA 106 105,oH 107 106 (.faddr 11 (oT 1)),oH 108 106 (.load false 1 (oT 107)),
 oH 109 106 (.eql false false [.int] (oT 108) (oN (-1))),oB 110 (.pick (oT 106) (oT 109) (.const ob)),oA 102 110] [1,3,102] [] (.ite (oT 102) (oX [oA 111 3,oB 112 (.scat (oT 111) (oS ⟨#[43]⟩)),oA 2 112] [2] [] (.ret)) (oX [oE 114 10 1,oC 115 1 114,oE 116 11 1,oC 117 1 116,oB 118 (.eql false false [.int] (oT 115) (oT 117)),oA 113 118] [1,3,113] [] (.ite (oT 113) (oX [oA 119 3,
 oB 120 (.scat (oT 119) (oS ⟨#[123]⟩)),oE 121 10 1,oC 122 1 121,oZ 123 aN [oT 122],oB 124 (.scat (oT 120) (oT 123)),oB 125 (.scat (oT 124) (oS ⟨#[125]⟩)),oA 2 125] [2] [] (.ret)) (oX [oE 127 11 1,oC 128 1 127,oB 129 (.eql false false [.int] (oT 128) (oN (-1))),oA 126 129] [1,3,126] [] (.ite (oT 126) (oX [oA 130 3,oB 131 (.scat (oT 130) (oS ⟨#[123]⟩)),oE 132 10 1,
 oC 133 1 132,oZ 134 aN [oT 133],oB 135 (.scat (oT 131) (oT 134)),oB 136 (.scat (oT 135) (oS ⟨#[44,125]⟩)),oA 2 136] [2] [] (.ret)) (.skip)))))))))))) (.keep [1,3] [] (.seq (.regd [oA 137 3,oB 138 (.scat (oT 137) (oS ⟨#[123]⟩)),oE 139 10 1,oC 140 1 139,oZ 141 aN [oT 140],oB 142 (.scat (oT 138) (oT 141)),oB 143 (.scat (oT 142) (oS ⟨#[44]⟩)),oE 144 11 1,
 oC 145 1 144,oZ 146 aN [oT 145]] [oB 147 (.scat (oT 143) (oT 146)),oB 148 (.scat (oT 147) (oS ⟨#[125]⟩)),oA 2 148]) (.keep [2] [] (.ret)))))))) (.skip))))))))))) (.keep [1,3] [] (.seq (oX [oE 149 12 1,oC 150 1 149,oB 151 (.len (oT 150)),oB 152 (.mv (oN 0))] [1,3,150,151,152] [] (bi 3 152 151 153 4 (oX [oA 154 152,oB 155 (.iaddr 13 (oT 150) (oT 152)),oD 156 13 155,
 oB 6 (.alloc ag [oi,oi,oe,oe,oe,oe,ob,on,oe,oe,oi,oi,on]),oA 5 154,oF 13 6 156] [1,3,5,6,150,151,152] [6] (.seq (oX [oA 157 5,oB 158 (.cmp .gtr (oT 157) (oN 0)),oA 159 158,oH 160 159 (.faddr 0 (oT 1)),oH 161 159 (.load false 1 (oT 160)),oH 162 159 (.eql false false [.int] (oT 161) (oN 5)),
 oB 163 (.pick (oT 159) (oT 162) (.const ob))] [1,3,5,6,150,151,152,163] [6] (.ite (oT 163) (.reg [oA 164 3,oB 165 (.scat (oT 164) (oS ⟨#[32,124]⟩)),oA 3 165]) (.skip))) (.keep [1,3,5,6,150,151,152] [6] (.seq (oX [oA 166 5,oB 167 (.cmp .gtr (oT 166) (oN 0))] [1,3,6,150,151,152,167] [6] (.ite (oT 167) (.reg [oA 168 3,oB 169 (.scat (oT 168) (oS ⟨#[32]⟩)),oA 3 169]) (.skip)))
 (.keep [1,3,6,150,151,152] [6] (.regd [oA 170 3,oD 171 13 6,oZ 172 cN [oT 171],oE 173 0 6,oC 174 1 173,oB 175 (.eql false false [.int] (oT 174) (oN 5)),oA 176 175,oI 177 176 (.faddr 0 (oT 1)),oI 178 176 (.load false 1 (oT 177)),oI 179 176 (.eql false false [.int] (oT 178) (oN 4)),oI 180 176 (.mv (oT 179)),oH 181 180 (.faddr 0 (oT 6)),oH 182 180 (.load false 1 (oT 181)),
 oH 183 180 (.eql false false [.int] (oT 182) (oN 4)),oI 184 176 (.pick (oT 180) (oT 183) (.const ob)),oB 185 (.pick (oT 176) (.const (.bool true)) (oT 184)),oZ 186 aW [oT 172,oT 185]] [oB 187 (.scat (oT 170) (oT 186)),oA 3 187])))))) 188)) (.keep [3] [] (oX [oA 189 3,oA 2 189] [2] [] (.ret)))))))
def a8:List aI:= [.tmp 2]
def G6:List Nat:= [1]
theorem Gu:aR Tryz.prog cN G6 a9 a8 190:=aA ay (by kernel_rfl)
-- r23_constraint range i=66 n=65 c=67 i2=103 id=1: live [1:g, 3:out, 64:] changed [3] res []
-- r23_constraint range i=162 n=161 c=163 i2=171 id=3: live [3:out, 160:] changed [3] res []
def aL:CC:=oX [oB 1 (.box aq true (oT 0)),oB 2 (.mv (oS ⟨#[]⟩))] [1] [] (oX [oB 3 (.mv (oS ⟨#[]⟩))] [1,3] [] (.seq (oX [oE 9 0 1,oC 10 1 9] [1,3,10] [] (.block 0 (oX [oB 12 (.eql false false [.int] (oT 10) (oN 2)),oA 11 12] [1,3,10,11] [] (.ite (oT 11) (.seq (.regd [oE 13 1 1,oC 14 1 13,oB 15 (.scat (oT 14) (oS ⟨#[46]⟩)),oE 16 3 1,oC 17 1 16,
 oB 18 (.scat (oT 15) (oT 17)),oB 19 (.scat (oT 18) (oS ⟨#[61]⟩)),oE 20 5 1,oC 21 1 20,oE 22 6 1,oC 23 1 22,oZ 24 a7 [oT 21,oT 23]] [oB 25 (.scat (oT 19) (oT 24)),oA 2 25]) (.keep [2] [] (.ret))) (oX [oB 27 (.eql false false [.int] (oT 10) (oN 3)),oA 26 27] [1,3,10,26] [] (.ite (oT 26) (oX [oE 28 1 1,oC 29 1 28,oB 30 (.scat (oT 29) (oS ⟨#[46]⟩)),oE 31 3 1,oC 32 1 31,
 oB 33 (.scat (oT 30) (oT 32)),oB 34 (.scat (oT 33) (oS ⟨#[61]⟩)),oE 35 2 1,oC 36 1 35,oB 37 (.scat (oT 34) (oT 36)),oB 38 (.scat (oT 37) (oS ⟨#[46]⟩)),oE 39 4 1,oC 40 1 39,oB 41 (.scat (oT 38) (oT 40)),oA 2 41] [2] [] (.ret)) (oX [oB 43 (.eql false false [.int] (oT 10) (oN 11)),oA 42 43] [1,3,10,42] [] (.ite (oT 42) (oX [oE 44 10 1,oC 45 1 44,oB 46 (.iaddr 11 (oT 45) (oN 0)),
 oD 47 11 46,oB 4 (.alloc aq [oi,oe,oe,oe,oe,oe,ob,oi,oi,on,on]),oF 11 4 47] [4] [4] (.seq (.regd [oD 48 11 4,oZ 49 aZ [oT 48],oE 50 0 4,oC 51 1 50,oB 52 (.eql false false [.int] (oT 51) (oN 12))] [oA 53 52,oI 54 53 (.faddr 0 (oT 4)),oI 55 53 (.load false 1 (oT 54)),oI 56 53 (.eql false false [.int] (oT 55) (oN 13)),
 oB 57 (.pick (oT 53) (.const (.bool true)) (oT 56)),oZ 58 aW [oT 49,oT 57],oB 59 (.scat (oS ⟨#[33]⟩) (oT 58)),oA 2 59]) (.keep [2] [] (.ret)))) (.seq (oX [oB 61 (.eql false false [.int] (oT 10) (oN 12)),oA 60 61] [1,3,10,60] [] (.ite (oT 60) (.skip) (.reg [oB 62 (.eql false false [.int] (oT 10) (oN 13)),oA 60 62]))) (.keep [1,3,60] [] (.ite (oT 60) (.seq (oX [oE 63 10 1,
 oC 64 1 63,oB 65 (.len (oT 64)),oB 66 (.mv (oN 0))] [1,3,64,65,66] [] (bi 1 66 65 67 2 (oX [oA 68 66,oB 69 (.iaddr 11 (oT 64) (oT 66)),oD 70 11 69,oB 6 (.alloc aq [oi,oe,oe,oe,oe,oe,ob,oi,oi,on,on]),oA 5 68,oF 11 6 70] [1,3,5,6,64,65,66] [6] (.seq (oX [oA 71 5,oB 72 (.cmp .gtr (oT 71) (oN 0))] [1,3,6,64,65,66,72] [6] (.ite (oT 72) (.reg [oA 73 3,oE 74 0 1,oC 75 1 74,
 oB 76 (.arith .sub (oT 75) (oN 12)),oE 77 0 1,oC 78 1 77,oB 79 (.arith .sub (oT 78) (oN 12)),oB 80 (.arith .add (oT 79) (oN 1)),oB 81 (.sslice (oS ⟨#[38,124]⟩) (some (oT 76)) (some (oT 80))),oB 82 (.scat (oS ⟨#[32]⟩) (oT 81)),oB 83 (.scat (oT 82) (oS ⟨#[32]⟩)),oB 84 (.scat (oT 73) (oT 83)),oA 3 84]) (.skip))) (.keep [1,3,6,64,65,66] [6] (.regd [oA 85 3,oD 86 11 6,
 oZ 87 aZ [oT 86],oE 88 0 6,oC 89 1 88,oB 90 (.eql false false [.int] (oT 89) (oN 13)),oA 91 90,oI 92 91 (.faddr 0 (oT 1)),oI 93 91 (.load false 1 (oT 92)),oI 94 91 (.eql false false [.int] (oT 93) (oN 12)),oI 95 91 (.mv (oT 94)),oH 96 95 (.faddr 0 (oT 6)),oH 97 95 (.load false 1 (oT 96)),oH 98 95 (.eql false false [.int] (oT 97) (oN 12)),
 oI 99 91 (.pick (oT 95) (oT 98) (.const ob)),oB 100 (.pick (oT 91) (.const (.bool true)) (oT 99)),oZ 101 aW [oT 87,oT 100]] [oB 102 (.scat (oT 85) (oT 101)),oA 3 102])))) 103)) (.keep [3] [] (oX [oA 104 3,oA 2 104] [2] [] (.ret)))) (.skip)))))))))))) (.keep [1] [] (.seq (.regd [oZ 105 ba [],oE 106 0 1,oC 107 1 106,oB 108 (.iaddr 1 (oT 105) (oT 107)),
 oC 109 1 108,oB 110 (.scat (oT 109) (oS ⟨#[40]⟩)),oE 111 1 1,oC 112 1 111] [oB 113 (.scat (oT 110) (oT 112)),oA 3 113]) (.keep [1,3] [] (.seq (oX [oE 114 0 1,oC 115 1 114,oB 116 (.eql true false [.int] (oT 115) (oN 1)),oA 117 116,oH 118 117 (.faddr 0 (oT 1)),oH 119 117 (.load false 1 (oT 118)),oH 120 117 (.eql true false [.int] (oT 119) (oN 10)),
 oB 121 (.pick (oT 117) (oT 120) (.const ob))] [1,3,121] [] (.ite (oT 121) (.reg [oA 122 3,oE 123 2 1,oC 124 1 123,oB 125 (.scat (oS ⟨#[44]⟩) (oT 124)),oB 126 (.scat (oT 122) (oT 125)),oA 3 126]) (.skip))) (.keep [1,3] [] (.seq (oX [oE 127 0 1,oC 128 1 127,oB 129 (.eql false false [.int] (oT 128) (oN 4)),oA 130 129,oI 131 130 (.faddr 0 (oT 1)),oI 132 130 (.load false 1 (oT 131)),
 oI 133 130 (.eql false false [.int] (oT 132) (oN 10)),oB 134 (.pick (oT 130) (.const (.bool true)) (oT 133))] [1,3,134] [] (.ite (oT 134) (.regd [oA 135 3,oE 136 7 1,oC 137 1 136,oZ 138 aN [oT 137],oB 139 (.scat (oS ⟨#[44]⟩) (oT 138)),oB 140 (.scat (oT 139) (oS ⟨#[44]⟩)),oE 141 8 1,oC 142 1 141,oZ 143 aN [oT 142],oB 144 (.scat (oT 140) (oT 143))] [
 oB 145 (.scat (oT 135) (oT 144)),oA 3 145]) (.skip))) (.keep [1,3] [] (.seq (oX [oE 146 0 1,oC 147 1 146,oB 148 (.eql false false [.int] (oT 147) (oN 5)),oA 149 148,oI 150 149 (.faddr 0 (oT 1)),oI 151 149 (.load false 1 (oT 150)),oI 152 149 (.eql false false [.int] (oT 151) (oN 9)),oB 153 (.pick (oT 149) (.const (.bool true)) (oT 152))] [1,3,153] [] (.ite (oT 153) (.reg [oA 154 3,
 oE 155 3 1,oC 156 1 155,oB 157 (.scat (oS ⟨#[44]⟩) (oT 156)),oB 158 (.scat (oT 154) (oT 157)),oA 3 158]) (.skip))) (.keep [1,3] [] (.seq (oX [oE 159 9 1,oC 160 1 159,oB 161 (.len (oT 160)),oB 162 (.mv (oN 0))] [3,160,161,162] [] (bi 3 162 161 163 4 (oX [oB 164 (.iaddr 1 (oT 160) (oT 162)),oC 165 1 164,oA 8 165] [3,8,160,161,162] [] (.reg [oA 166 3,oA 167 8,
 oZ 168 bl [oT 167],oB 169 (.scat (oS ⟨#[44]⟩) (oT 168)),oB 170 (.scat (oT 166) (oT 169)),oA 3 170])) 171)) (.keep [3] [] (oX [oA 172 3,oB 173 (.scat (oT 172) (oS ⟨#[41]⟩)),oA 2 173] [2] [] (.ret)))))))))))))))
def aK:List aI:= [.tmp 2]
def Bg:List Nat:= [1]
theorem AV:aR Tryz.prog aZ Bg aL aK 174:=aA ay (by kernel_rfl)
-- r23_condition range i=94 n=93 c=95 i2=131 id=1: live [1:x, 3:out, 92:] changed [3] res []
def cg:CC:=oX [oB 1 (.box aH true (oT 0)),oB 2 (.mv (oS ⟨#[]⟩))] [1] [] (oX [oB 3 (.mv (oS ⟨#[]⟩))] [1,3] [] (.seq (oX [oE 7 0 1,oC 8 1 7] [1,3,8] [] (.block 0 (oX [oB 10 (.eql false false [.int] (oT 8) (oN 1)),oA 9 10] [1,3,8,9] [] (.ite (oT 9) (oX [oB 2 (.mv (oS ⟨#[91,93]⟩))] [2] [] (.ret)) (oX [oB 12 (.eql false false [.int] (oT 8) (oN 2)),
 oA 11 12] [1,3,8,11] [] (.ite (oT 11) (.seq (oX [oE 13 1 1,oC 14 1 13,oB 15 (.eql false false [.str] (oT 14) (oS ⟨#[]⟩))] [1,15] [] (.ite (oT 15) (oX [oE 16 3 1,oC 17 1 16,oE 18 5 1,oC 19 1 18,oZ 20 a7 [oT 17,oT 19],oA 2 20] [2] [] (.ret)) (.skip))) (.keep [1] [] (.seq (.regd [oE 21 1 1,oC 22 1 21,oB 23 (.scat (oT 22) (oS ⟨#[61]⟩)),oE 24 3 1,oC 25 1 24,oE 26 5 1,
 oC 27 1 26,oZ 28 a7 [oT 25,oT 27]] [oB 29 (.scat (oT 23) (oT 28)),oA 2 29]) (.keep [2] [] (.ret))))) (oX [oB 31 (.eql false false [.int] (oT 8) (oN 3)),oA 30 31] [1,3,8,30] [] (.ite (oT 30) (.seq (.regd [oE 32 1 1,oC 33 1 32,oB 34 (.scat (oT 33) (oS ⟨#[32,99,111,110,116,97,105,110,115,32]⟩)),oE 35 3 1,oC 36 1 35,oZ 37 bl [oT 36]] [oB 38 (.scat (oT 34) (oT 37)),
 oA 2 38]) (.keep [2] [] (.ret))) (oX [oB 40 (.eql false false [.int] (oT 8) (oN 4)),oA 39 40] [1,3,8,39] [] (.ite (oT 39) (oX [oE 41 1 1,oC 42 1 41,oB 43 (.scat (oT 42) (oS ⟨#[61]⟩)),oE 44 4 1,oC 45 1 44,oB 46 (.scat (oT 43) (oT 45)),oB 47 (.scat (oT 46) (oS ⟨#[46]⟩)),oE 48 2 1,oC 49 1 48,oB 50 (.scat (oT 47) (oT 49)),oA 2 50] [2] [] (.ret)) (oX [
 oB 52 (.eql false false [.int] (oT 8) (oN 5)),oA 51 52] [1,3,8,51] [] (.ite (oT 51) (.seq (oX [oE 53 2 1,oC 54 1 53,oB 55 (.eql false false [.str] (oT 54) (oS ⟨#[]⟩))] [1,55] [] (.ite (oT 55) (oX [oE 56 1 1,oC 57 1 56,oB 58 (.scat (oS ⟨#[105,110,40]⟩) (oT 57)),oB 59 (.scat (oT 58) (oS ⟨#[41]⟩)),oA 2 59] [2] [] (.ret)) (.skip))) (.keep [1] [] (.seq (.regd [oE 60 1 1,oC 61 1 60,
 oB 62 (.scat (oS ⟨#[105,110,40]⟩) (oT 61)),oB 63 (.scat (oT 62) (oS ⟨#[44]⟩)),oE 64 2 1,oC 65 1 64,oB 66 (.scat (oT 63) (oT 65)),oB 67 (.scat (oT 66) (oS ⟨#[61]⟩)),oE 68 3 1,oC 69 1 68,oZ 70 bl [oT 69]] [oB 71 (.scat (oT 67) (oT 70)),oB 72 (.scat (oT 71) (oS ⟨#[41]⟩)),oA 2 72]) (.keep [2] [] (.ret))))) (oX [oB 74 (.eql false false [.int] (oT 8) (oN 6)),
 oA 73 74] [1,3,73] [] (.ite (oT 73) (oX [oE 75 6 1,oC 76 1 75,oB 77 (.iaddr 7 (oT 76) (oN 0)),oD 78 7 77,oB 4 (.alloc aH [oi,oe,oe,oe,oe,ob,on]),oF 7 4 78] [4] [4] (.seq (.regd [oD 79 7 4,oZ 80 b9 [oT 79],oE 81 0 4,oC 82 1 81,oB 83 (.eql false false [.int] (oT 82) (oN 7))] [oA 84 83,oI 85 84 (.faddr 0 (oT 4)),oI 86 84 (.load false 1 (oT 85)),
 oI 87 84 (.eql false false [.int] (oT 86) (oN 8)),oB 88 (.pick (oT 84) (.const (.bool true)) (oT 87)),oZ 89 aW [oT 80,oT 88],oB 90 (.scat (oS ⟨#[33]⟩) (oT 89)),oA 2 90]) (.keep [2] [] (.ret)))) (.skip))))))))))))))) (.keep [1,3] [] (.seq (oX [oE 91 6 1,oC 92 1 91,oB 93 (.len (oT 92)),oB 94 (.mv (oN 0))] [1,3,92,93,94] [] (bi 1 94 93 95 2 (oX [oA 96 94,
 oB 97 (.iaddr 7 (oT 92) (oT 94)),oD 98 7 97,oB 6 (.alloc aH [oi,oe,oe,oe,oe,ob,on]),oA 5 96,oF 7 6 98] [1,3,5,6,92,93,94] [6] (.seq (oX [oA 99 5,oB 100 (.cmp .gtr (oT 99) (oN 0))] [1,3,6,92,93,94,100] [6] (.ite (oT 100) (.reg [oA 101 3,oE 102 0 1,oC 103 1 102,oB 104 (.arith .sub (oT 103) (oN 7)),oE 105 0 1,oC 106 1 105,oB 107 (.arith .sub (oT 106) (oN 7)),
 oB 108 (.arith .add (oT 107) (oN 1)),oB 109 (.sslice (oS ⟨#[38,124]⟩) (some (oT 104)) (some (oT 108))),oB 110 (.scat (oS ⟨#[32]⟩) (oT 109)),oB 111 (.scat (oT 110) (oS ⟨#[32]⟩)),oB 112 (.scat (oT 101) (oT 111)),oA 3 112]) (.skip))) (.keep [1,3,6,92,93,94] [6] (.regd [oA 113 3,oD 114 7 6,oZ 115 b9 [oT 114],oE 116 0 6,oC 117 1 116,
 oB 118 (.eql false false [.int] (oT 117) (oN 8)),oA 119 118,oI 120 119 (.faddr 0 (oT 1)),oI 121 119 (.load false 1 (oT 120)),oI 122 119 (.eql false false [.int] (oT 121) (oN 7)),oI 123 119 (.mv (oT 122)),oH 124 123 (.faddr 0 (oT 6)),oH 125 123 (.load false 1 (oT 124)),oH 126 123 (.eql false false [.int] (oT 125) (oN 7)),oI 127 119 (.pick (oT 123) (oT 126) (.const ob)),
 oB 128 (.pick (oT 119) (.const (.bool true)) (oT 127)),oZ 129 aW [oT 115,oT 128]] [oB 130 (.scat (oT 113) (oT 129)),oA 3 130])))) 131)) (.keep [3] [] (oX [oA 132 3,oA 2 132] [2] [] (.ret)))))))
def ca:List aI:= [.tmp 2]
def CY:List Nat:= [1]
theorem CA:aR Tryz.prog b9 CY cg ca 133:=aA ay (by kernel_rfl)
def nZ:CC:=oX [oB 4 (.mv (oS ⟨#[]⟩))] [0,1] [] (.seq (oX [oA 5 1] [0,5] [] (.ite (oT 5) (oX [oA 6 0,oZ 7 bl [oT 6],oB 8 (.scat (oT 7) (oS ⟨#[37,99]⟩)),oA 4 8] [4] [] (.ret)) (.skip))) (.keep [0] [] (oX [oA 9 0,oZ 10 bl [oT 9],oA 4 10] [4] [] (.ret))))
def nU:List aI:= [.tmp 4]
def IW:List Nat:= []
theorem IL:aR Tryz.prog a7 IW nZ nU 11:=aA ay (by kernel_rfl)
def qJ:CC:=oX [oB 4 (.mv (oS ⟨#[]⟩))] [0,1] [] (.seq (oX [oA 5 1] [0,5] [] (.ite (oT 5) (oX [oA 6 0,oB 7 (.scat (oS ⟨#[40]⟩) (oT 6)),oB 8 (.scat (oT 7) (oS ⟨#[41]⟩)),oA 4 8] [4] [] (.ret)) (.skip))) (.keep [0] [] (oX [oA 9 0,oA 4 9] [4] [] (.ret))))
def qc:List aI:= [.tmp 4]
def G5:List Nat:= []
theorem Gt:aR Tryz.prog aW G5 qJ qc 10:=aA ay (by kernel_rfl)
-- r23_quote while id=0: live [0:s, 3:out, 4:i] changed [3, 4] res []
def uw:CC:=oX [oB 2 (.mv (oS ⟨#[]⟩))] [0] [] (oX [oB 3 (.mv (oS ⟨#[34]⟩))] [0,3] [] (.seq (oX [oB 4 (.mv (oN 0))] [0,3,4] [] (.block 0 (.loop 1 (.seq (oX [oA 5 4,oA 6 0,oB 7 (.slen (oT 6)),oB 8 (.cmp .lss (oT 5) (oT 7))] [0,3,4,8] [] (.ite (oT 8) (.skip) (.exit 0))) (.keep [0,3,4] [] (.seq (.block 1 (.seq (oX [oA 11 0,oA 12 4,oB 13 (.sidx (oT 11) (oT 12)),
 oB 14 (.eql false false [.int] (oT 13) (.const (.int .u8 34)))] [0,3,4,14] [] (.ite (oT 14) (.reg [oA 15 3,oB 16 (.scat (oT 15) (oS ⟨#[34]⟩)),oA 3 16]) (.skip))) (.keep [0,3,4] [] (.reg [oA 17 3,oA 18 0,oA 19 4,oA 20 4,oB 21 (.arith .add (oT 20) (oN 1)),oB 22 (.sslice (oT 18) (some (oT 19)) (some (oT 21))),oB 23 (.scat (oT 17) (oT 22)),oA 3 23])))) (.keep [0,3,4] [] (.reg [oA 9 4,
 oB 10 (.arith .add (oT 9) (oN 1)),oA 4 10])))))))) (.keep [3] [] (oX [oA 24 3,oB 25 (.scat (oT 24) (oS ⟨#[34]⟩)),oA 2 25] [2] [] (.ret)))))
def tQ:List aI:= [.tmp 2]
def Lw:List Nat:= []
theorem Lg:aR Tryz.prog bl Lw uw tQ 26:=aA ay (by kernel_rfl)
-- r23_Same range i=39 n=38 c=40 i2=53 id=0: live [2:a, 3:b] changed [] res []
def xf:CC:=oX [oB 2 (.box gJ true (oT 0)),oB 3 (.box gJ true (oT 1)),oB 4 (.mv (.const ob))] [2,3] [] (.seq (oX [oE 6 0 2,oD 7 13 6,oE 8 0 3,oD 9 13 8,oZ 10 cz [oT 7,oT 9],oB 11 (.not (oT 10)),oA 12 11,oI 13 12 (.faddr 13 (oT 2)),oI 14 12 (.load true 11 (oT 13)),oI 15 12 (.faddr 13 (oT 3)),oI 16 12 (.load true 11 (oT 15)),
 oI 17 12 (.call dO [oT 14,oT 16]),oI 18 12 (.not (oT 17)),oB 19 (.pick (oT 12) (.const (.bool true)) (oT 18)),oA 20 19,oI 21 20 (.faddr 25 (oT 2)),oI 22 20 (.load false 1 (oT 21)),oI 23 20 (.faddr 25 (oT 3)),oI 24 20 (.load false 1 (oT 23)),oI 25 20 (.eql true false [.int] (oT 22) (oT 24)),oB 26 (.pick (oT 20) (.const (.bool true)) (oT 25)),oA 27 26,
 oI 28 27 (.faddr 24 (oT 2)),oI 29 27 (.load false 1 (oT 28)),oI 30 27 (.len (oT 29)),oI 31 27 (.faddr 24 (oT 3)),oI 32 27 (.load false 1 (oT 31)),oI 33 27 (.len (oT 32)),oI 34 27 (.eql true false [.int] (oT 30) (oT 33)),oB 35 (.pick (oT 27) (.const (.bool true)) (oT 34))] [2,3,35] [] (.ite (oT 35) (oX [oB 4 (.mv (.const ob))] [4] [] (.ret)) (.skip))) (.keep [2,3] [] (.seq (oX [
 oE 36 24 2,oC 37 1 36,oB 38 (.len (oT 37)),oB 39 (.mv (oN 0))] [2,3,38,39] [] (bi 0 39 38 40 1 (oX [oA 41 39,oA 5 41] [2,3,5,38,39] [] (.seq (.regd [oE 42 24 2,oC 43 1 42,oA 44 5,oB 45 (.iaddr 3 (oT 43) (oT 44)),oD 46 3 45,oE 47 24 3,oC 48 1 47,oA 49 5,oB 50 (.iaddr 3 (oT 48) (oT 49)),oD 51 3 50] [oB 52 (.eql true true [.int,.bool,.str] (oT 46) (oT 51))])
 (.keep [2,3,38,39,52] [] (.ite (oT 52) (oX [oB 4 (.mv (.const ob))] [4] [] (.ret)) (.skip))))) 53)) (.keep [] [] (oX [oB 4 (.mv (.const (.bool true)))] [4] [] (.ret))))))
def vQ:List aI:= [.tmp 4]
def Nu:List Nat:= [2,3]
theorem M8:aR Tryz.prog qE Nu xf vQ 54:=aA ay (by kernel_rfl)
-- r23_sameGlob range i=87 n=86 c=88 i2=102 id=0: live [2:a, 3:b] changed [] res []
def pk:CC:=oX [oB 2 (.box aq true (oT 0)),oB 3 (.box aq true (oT 1)),oB 4 (.mv (.const ob))] [2,3] [] (.seq (oX [oE 6 0 2,oC 7 1 6,oE 8 0 3,oC 9 1 8,oB 10 (.eql true false [.int] (oT 7) (oT 9)),oA 11 10,oI 12 11 (.faddr 1 (oT 2)),oI 13 11 (.load false 1 (oT 12)),oI 14 11 (.faddr 1 (oT 3)),oI 15 11 (.load false 1 (oT 14)),
 oI 16 11 (.eql true false [.str] (oT 13) (oT 15)),oB 17 (.pick (oT 11) (.const (.bool true)) (oT 16)),oA 18 17,oI 19 18 (.faddr 2 (oT 2)),oI 20 18 (.load false 1 (oT 19)),oI 21 18 (.faddr 2 (oT 3)),oI 22 18 (.load false 1 (oT 21)),oI 23 18 (.eql true false [.str] (oT 20) (oT 22)),oB 24 (.pick (oT 18) (.const (.bool true)) (oT 23)),oA 25 24,oI 26 25 (.faddr 3 (oT 2)),
 oI 27 25 (.load false 1 (oT 26)),oI 28 25 (.faddr 3 (oT 3)),oI 29 25 (.load false 1 (oT 28)),oI 30 25 (.eql true false [.str] (oT 27) (oT 29)),oB 31 (.pick (oT 25) (.const (.bool true)) (oT 30)),oA 32 31,oI 33 32 (.faddr 4 (oT 2)),oI 34 32 (.load false 1 (oT 33)),oI 35 32 (.faddr 4 (oT 3)),oI 36 32 (.load false 1 (oT 35)),oI 37 32 (.eql true false [.str] (oT 34) (oT 36)),
 oB 38 (.pick (oT 32) (.const (.bool true)) (oT 37)),oA 39 38,oI 40 39 (.faddr 5 (oT 2)),oI 41 39 (.load false 1 (oT 40)),oI 42 39 (.faddr 5 (oT 3)),oI 43 39 (.load false 1 (oT 42)),oI 44 39 (.eql true false [.str] (oT 41) (oT 43)),oB 45 (.pick (oT 39) (.const (.bool true)) (oT 44)),oA 46 45,oI 47 46 (.faddr 6 (oT 2)),oI 48 46 (.load false 1 (oT 47)),oI 49 46 (.faddr 6 (oT 3)),
 oI 50 46 (.load false 1 (oT 49)),oI 51 46 (.eql true false [.bool] (oT 48) (oT 50)),oB 52 (.pick (oT 46) (.const (.bool true)) (oT 51)),oA 53 52,oI 54 53 (.faddr 7 (oT 2)),oI 55 53 (.load false 1 (oT 54)),oI 56 53 (.faddr 7 (oT 3)),oI 57 53 (.load false 1 (oT 56)),oI 58 53 (.eql true false [.int] (oT 55) (oT 57)),oB 59 (.pick (oT 53) (.const (.bool true)) (oT 58)),oA 60 59,
 oI 61 60 (.faddr 8 (oT 2)),oI 62 60 (.load false 1 (oT 61)),oI 63 60 (.faddr 8 (oT 3)),oI 64 60 (.load false 1 (oT 63)),oI 65 60 (.eql true false [.int] (oT 62) (oT 64)),oB 66 (.pick (oT 60) (.const (.bool true)) (oT 65)),oA 67 66,oI 68 67 (.faddr 9 (oT 2)),oI 69 67 (.load false 1 (oT 68)),oI 70 67 (.faddr 9 (oT 3)),oI 71 67 (.load false 1 (oT 70)),
 oI 72 67 (.call oO [oT 69,oT 71]),oI 73 67 (.not (oT 72)),oB 74 (.pick (oT 67) (.const (.bool true)) (oT 73)),oA 75 74,oI 76 75 (.faddr 10 (oT 2)),oI 77 75 (.load false 1 (oT 76)),oI 78 75 (.len (oT 77)),oI 79 75 (.faddr 10 (oT 3)),oI 80 75 (.load false 1 (oT 79)),oI 81 75 (.len (oT 80)),oI 82 75 (.eql true false [.int] (oT 78) (oT 81)),
 oB 83 (.pick (oT 75) (.const (.bool true)) (oT 82))] [2,3,83] [] (.ite (oT 83) (oX [oB 4 (.mv (.const ob))] [4] [] (.ret)) (.skip))) (.keep [2,3] [] (.seq (oX [oE 84 10 2,oC 85 1 84,oB 86 (.len (oT 85)),oB 87 (.mv (oN 0))] [2,3,86,87] [] (bi 0 87 86 88 1 (oX [oA 89 87,oA 5 89] [2,3,5,86,87] [] (.seq (.regd [oE 90 10 2,oC 91 1 90,oA 92 5,oB 93 (.iaddr 11 (oT 91) (oT 92)),
 oD 94 11 93,oE 95 10 3,oC 96 1 95,oA 97 5,oB 98 (.iaddr 11 (oT 96) (oT 97)),oD 99 11 98] [oZ 100 dO [oT 94,oT 99],oB 101 (.not (oT 100))]) (.keep [2,3,86,87,101] [] (.ite (oT 101) (oX [oB 4 (.mv (.const ob))] [4] [] (.ret)) (.skip))))) 102)) (.keep [] [] (oX [oB 4 (.mv (.const (.bool true)))] [4] [] (.ret))))))
def o6:List aI:= [.tmp 4]
def EB:List Nat:= [2,3]
theorem Ep:aR Tryz.prog dO EB pk o6 103:=aA ay (by kernel_rfl)
-- law23_QueryParses while id=0: live [0:s, 5:pieces, 6:typical, 7:t, 8:n] changed [6, 8] res []
-- law23_QueryParses range i=47 n=46 c=48 i2=77 id=2: live [45:] changed [] res []
def iM:CC:=oX [oB 6 (.mv (.const ob))] [0,1,2] [] (oX [oA 15 0,oZ 16 Bq [oT 15],oZ 17 jl [oT 16,oN 3],oZ 18 mI [oT 17],oA 7 18] [1,2,7] [] (oX [oA 19 1,oA 20 7,oB 21 (.slen (oT 20)),oB 22 (.arith .add (oT 21) (oN 1)),oZ 23 hX [oT 19,oT 22],oA 8 23] [2,7,8] [] (.seq (oX [oA 24 2,
 oZ 25 hX [oT 24,oN 4]] [2,7,8,25] [] (.block 0 (oX [oB 27 (.eql false false [.int] (oT 25) (oN 0)),oA 26 27] [2,7,8,25,26] [] (.ite (oT 26) (.reg [oA 28 7,oA 29 8,oB 30 (.sslice (oT 28) none (some (oT 29))),oA 7 30]) (oX [oB 32 (.eql false false [.int] (oT 25) (oN 1)),oA 31 32] [2,7,8,25,31] [] (.ite (oT 31) (.regd [oA 33 7,oA 34 8,oB 35 (.sslice (oT 33) none (some (oT 34))),
 oA 36 2,oB 37 (.arith .quo (oT 36) (oN 4)),oZ 38 hX [oT 37,oN 24],oB 39 (.sslice (oS ⟨#[91,93,40,41,123,125,60,62,124,38,33,61,58,46,44,63,42,43,45,34,97,49,32,37]⟩) (some (oT 38)) none),oB 40 (.sslice (oT 39) none (some (oN 1))),oB 41 (.scat (oT 35) (oT 40)),oA 42 7,oA 43 8,oB 44 (.sslice (oT 42) (some (oT 43)) none)] [oB 45 (.scat (oT 41) (oT 44)),oA 7 45]) (oX [
 oB 47 (.eql false false [.int] (oT 25) (oN 2)),oA 46 47] [7,8,46] [] (.ite (oT 46) (oX [oA 48 8,oA 49 7,oB 50 (.slen (oT 49)),oB 51 (.cmp .lss (oT 48) (oT 50))] [7,8,51] [] (.ite (oT 51) (.regd [oA 52 7,oA 53 8,oB 54 (.sslice (oT 52) none (some (oT 53))),oA 55 7,oA 56 8,oB 57 (.arith .add (oT 56) (oN 1)),oB 58 (.sslice (oT 55) (some (oT 57)) none)] [oB 59 (.scat (oT 54) (oT 58)),
 oA 7 59]) (.skip))) (.skip))))))))) (.keep [7] [] (oX [oA 61 7,oZ 62 ep [oT 61],oA 60 62,oB 63 (.ext (oT 60) 0),oB 64 (.ext (oT 60) 1),oB 65 (.ext (oT 60) 2),oB 9 (.alloc gJ [oi,oi,oe,oe,oe,oe,ob,on,oe,oe,oi,oi,on,oi,oe,oe,oe,oe,oe,ob,oi,oi,on,on,on,oi]),oF 26 9 63,oA 10 64,oA 11 65] [7,9,10,11] [9] (oX [oA 67 7,oZ 68 oM [oT 67],oA 66 68,
 oB 69 (.ext (oT 66) 0),oB 70 (.ext (oT 66) 1),oB 71 (.ext (oT 66) 2),oB 12 (.alloc gJ [oi,oi,oe,oe,oe,oe,ob,on,oe,oe,oi,oi,on,oi,oe,oe,oe,oe,oe,ob,oi,oi,on,on,on,oi]),oF 26 12 69,oA 13 70,oA 14 71] [9,10,11,12,13,14] [9,12] (oX [oA 72 11,oA 73 14,oB 74 (.eql false false [.int] (oT 72) (oT 73)),oA 75 74,oH 76 75 (.mv (oT 10)),oH 77 75 (.mv (oT 13)),
 oH 78 75 (.eql false false [.int] (oT 76) (oT 77)),oB 79 (.pick (oT 75) (oT 78) (.const ob)),oA 80 79,oH 81 80 (.load true 26 (oT 9)),oH 82 80 (.load true 26 (oT 12)),oH 83 80 (.call qE [oT 81,oT 82]),oB 84 (.pick (oT 80) (oT 83) (.const ob)),oA 85 84,oH 86 85 (.call kQ []),oB 87 (.pick (oT 85) (oT 86) (.const ob)),oA 6 87] [6] [] (.ret))))))))
def iG:List aI:= [.tmp 6]
def vm:List Nat:= []
theorem vb:aR Tryz.prog oR vm iM iG 88:=aA ay (by kernel_rfl)
-- law23_QueryBlanks while id=0: live [1:gaps, 6:s, 7:wide, 8:quoted, 9:i] changed [7, 8, 9] res []
end Go.Gv

namespace Go.Gv
open Cod (enc dec)
variable {S S0:Nat→Spc}
@[simp] abbrev Xo (N:Pst→Option (Pst×Cond)) (s:Pst) (_:Unit):Option (Pst×Cond):=N s
abbrev yY (N:Pst→Option (Pst×Cond)):Spc:=z3 a0 (enc (X:=Cond)) (Xo N)
@[simp] abbrev Xp (N:Pst→Option (Pst×Cond)) (s:Pst) (_:Unit):Option (Pst×Cond):=andG N s
abbrev Pe (N:Pst→Option (Pst×Cond)):Spc:=z3 a0 (enc (X:=Cond)) (Xp N)
@[simp] abbrev ZM (N:Pst→Option (Pst×Cond)) (s:Pst) (_:Unit):Option (Pst×Cond):=orG N s
abbrev UH (N:Pst→Option (Pst×Cond)):Spc:=z3 a0 (enc (X:=Cond)) (ZM N)
theorem We {b:Nat} {post:Pst→Cond→Prop} {H:ab} {o:Int} {n a v l:B} {f:Bool} {dk:D} (s:Pst) (ks:List Cond) (hd:FrzTo (fun i=> if i=0 then none else H i) dk (enc ks))
 (h0:H 0=some (.box b (dF s))) (hq:post s ⟨o,n,a,v,l,f,ks⟩):
 rT enc b post (.agg [.v (.int .i64 o), .v (.string n), .v (.string a), .v (.string v), .v (.string l), .v (.bool f),dk]) H:=jY s _ (wY ks hd) h0 hq
theorem BW {α:Type} {l:List α} {a:α} (h1:l.length=1) (ha:l[0]?=some a):l= [a]:=by
 match l,h1,ha with
 | [x],_,ha=> simp at ha;rw[ha]
theorem XR (N:Pst→Option (Pst×Cond)) (h1:S ah=gK) (h2:S cf=yY N):
 gR mW mr S a0 (enc (X:=Cond)) (Xp N):=by
 rintro b s ⟨⟩ hf
 have hf: ∃r,andG N s=some r:=hf
 have e:=andG.eq_1 N s
 simp[mW,mr,h1,h2, -Bool.forall_bool, -Bool.exists_bool]
 intro b2
 refine pB hf e fun r e=> ?_
 intro v0
 refine cy (X:=Nat×Pst×Value×List Cond) [0,2] [2] (fun z=> andG N s=((m8 N z.1 z.2.1 z.2.2.2).map fun q=> (q.1,Ti 7 q.2))∧z.2.2.2.length+z.1≤501) (fun z=> [(3, .own 6 z.2.2.1)]) (fun z=> [(0, .box b (dF z.2.1)),(6, .row z.2.2.1 aH 7 (z.2.2.2.map enc))]) (fun z=> z.1) (500,r.1,v0, [r.2]) ⟨e,by simp⟩ (by simp) (by simp) ?_
 clear e
 rintro⟨k,s1,v,l⟩ ⟨e,hlen⟩
 simp only at e hlen
 obtain _ | k:=k
 ·exact QL hf (by rw[e,m8];rfl)
 rw[m8,aU] at e
 simp[h1]
 refine pB hf e fun w e=> ?_
 simp[-Bool.forall_bool, -Bool.exists_bool,h2]
 refine⟨fun hw=> ?_,fun hw=> ?_⟩
 ·rw[if_pos hw,aU] at e
  exact pB hf e fun r2 e=> ⟨by omega,by omega,fun v'=> ⟨k,r2.1,v',l++ [r2.2],⟨e,by simp;omega⟩,⟨rfl, .inl ⟨rfl,rfl,rfl,rfl,rfl⟩, .inl ⟨rfl,by simp⟩⟩,by omega⟩⟩
 ·rw[if_neg (by simp[hw]),Option.map_some] at e
  clear h1 h2
  refine fun _=> ⟨fun hl1=> ⟨by omega,fun a ha=> ?_⟩,fun hne=> ?_⟩
  ·rw[BW (by omega) ha] at e
   exact jY w.1 a (by simp) (by simp) e
  ·rw[WI (l:=l) (by omega)] at e
   exact We w.1 l (th aH (by simp)) (by simp) e
theorem ZR (N:Pst→Option (Pst×Cond)) (h1:S ah=gK) (h2:S fC=Pe N):
 gR nJ nn S a0 (enc (X:=Cond)) (ZM N):=by
 rintro b s ⟨⟩ hf
 have hf: ∃r,orG N s=some r:=hf
 have e:=orG.eq_1 N s
 simp[nJ,nn,h1,h2, -Bool.forall_bool, -Bool.exists_bool]
 intro b2
 refine pB hf e fun r e=> ?_
 intro v0
 refine cy (X:=Nat×Pst×Value×List Cond) [0,2] [2] (fun z=> orG N s=((pJ N z.1 z.2.1 z.2.2.2).map fun q=> (q.1,Ti 8 q.2))∧z.2.2.2.length+z.1≤501) (fun z=> [(3, .own 6 z.2.2.1)]) (fun z=> [(0, .box b (dF z.2.1)),(6, .row z.2.2.1 aH 7 (z.2.2.2.map enc))]) (fun z=> z.1) (500,r.1,v0, [r.2]) ⟨e,by simp⟩ (by simp) (by simp) ?_
 clear e
 rintro⟨k,s1,v,l⟩ ⟨e,hlen⟩
 simp only at e hlen
 obtain _ | k:=k
 ·exact QL hf (by rw[e,pJ];rfl)
 rw[pJ,aU] at e
 simp[h1]
 refine pB hf e fun w e=> ?_
 simp[-Bool.forall_bool, -Bool.exists_bool,h2]
 refine⟨fun hw=> ?_,fun hw=> ?_⟩
 ·rw[if_pos hw,aU] at e
  exact pB hf e fun r2 e=> ⟨by omega,by omega,fun v'=> ⟨k,r2.1,v',l++ [r2.2],⟨e,by simp;omega⟩,⟨rfl, .inl ⟨rfl,rfl,rfl,rfl,rfl⟩, .inl ⟨rfl,by simp⟩⟩,by omega⟩⟩
 ·rw[if_neg (by simp[hw]),Option.map_some] at e
  clear h1 h2
  refine fun _=> ⟨fun hl1=> ⟨by omega,fun a ha=> ?_⟩,fun hne=> ?_⟩
  ·rw[BW (by omega) ha] at e
   exact jY w.1 a (by simp) (by simp) e
  ·rw[WI (l:=l) (by omega)] at e
   exact We w.1 l (th aH (by simp)) (by simp) e
theorem XP (N:Pst→Option (Pst×Cond)) (h1:S ah=gK) (h2:S cf=yY N) (h3:S d5=UH N) (h4:S af=gW) (h5:S bG=yZ) (h6:S bF=KR) (h7:S am=ik):
 gR mT mo S a0 (enc (X:=Cond)) (Xo (notG N (orG N))):=by
 rintro b s ⟨⟩ hf
 have hf: ∃r,notG N (orG N) s=some r:=hf
 have e:=notG.eq_1 N (orG N) s
 simp only[BA,AD,tB,jV,aU,bn,aS,a6] at e
 simp[mT,mo,h1,h2,h3,h4,h5,h6,h7, -Bool.forall_bool, -Bool.exists_bool]
 repeat' first
  | (refine XB hf e (fun hr e=> ?_) (fun e=> ?_) <;> (try simp only[↓reduceIte,if_true,Bool.false_eq_true,if_false,forall_const,IsEmpty.forall_iff,reduceCtorEq,and_true,true_and] at e) <;> (try simp only[↓reduceIte,if_true,Bool.false_eq_true,if_false,forall_const,IsEmpty.forall_iff,reduceCtorEq,and_true,true_and]))
  | refine Yr hf e fun q hq e=> ?_
  | refine Lc hf e fun q hq e=> ?_
  | refine pB hf e fun q e=> ?_
  | refine pM hf e fun q e=> ?_
  | refine pE hf e fun q e=> ?_
  | (refine⟨fun hc=> ?_,fun hn=> absurd (by assumption) hn⟩; (try first | rw[if_pos hc] at e | rw[if_neg hc] at e | rw[if_neg (Int.not_lt.2 hc)] at e | simp only[hc,decide_true,decide_false, ↓reduceIte,if_true,if_false,Bool.false_eq_true,ne_eq,not_true_eq_false,not_false_eq_true] at e);try simp only[Option.bind_some,Option.map_some,aU,aS,a6,bn, ↓reduceIte,Bool.false_eq_true,if_true,if_false] at e)
  | (refine⟨fun hn=> absurd hn (by assumption),fun hc=> ?_⟩; (try first | rw[if_pos hc] at e | rw[if_neg hc] at e | rw[if_neg (Int.not_lt.2 hc)] at e | simp only[hc,decide_true,decide_false, ↓reduceIte,if_true,if_false,Bool.false_eq_true,ne_eq,not_true_eq_false,not_false_eq_true] at e);try simp only[Option.bind_some,Option.map_some,aU,aS,a6,bn, ↓reduceIte,Bool.false_eq_true,if_true,if_false] at e)
  | ((refine⟨fun hc=> ?_,fun hc=> ?_⟩ <;> first | (cases hc;done) | rw[if_pos hc] at e | rw[if_neg hc] at e | rw[if_neg (Int.not_lt.2 hc)] at e | simp only[hc,decide_true,decide_false, ↓reduceIte,if_true,if_false,Bool.false_eq_true,ne_eq,not_true_eq_false,not_false_eq_true] at e) <;> try simp only[Option.bind_some,Option.map_some,aU,aS,a6,bn, ↓reduceIte,Bool.false_eq_true,if_true,if_false] at e)
  | exact We _ [] (.nil _) (by simp) e
  | exact We _ [⟨2,_,E0,_,E0,_, []⟩] (LP _ (wY [] (.nil _))) (by simp) e
  | exact We _ [_] (by simp) (by simp) e
  | exact jY _ _ (by simp) (by simp) e
  | refine⟨‹InR _ _›,?_⟩
  | intro _
end Go.Gv
