/- A part of the framework and of the walks: C8 W32 W36 W37 W60 W83. -/
import Derived.Test.YtaiffcbkmgfklaaGreatDoorGu10
import Derived.Test.YtaiffcbkmgfklaaGreatDoorGu14
import Derived.Test.YtaiffcbkmgfklaaGreatDoorGu15
import Derived.Test.YtaiffcbkmgfklaaGreatDoorGu12
set_option linter.unusedSimpArgs false
set_option linter.unusedVariables false
set_option maxRecDepth 100000

namespace Go.Gv
open Go.Proofs
def pr:CC:=oX [oB 2 (.mv (.const ob))] [0] [] (oX [oA 3 0,oB 4 (.cmp .geq (oT 3) (.const (.int .u8 97))),oA 5 4,oH 6 5 (.mv (oT 0)),oH 7 5 (.cmp .leq (oT 6) (.const (.int .u8 122))),oB 8 (.pick (oT 5) (oT 7) (.const ob)),oA 9 8,oI 10 9 (.mv (oT 0)),oI 11 9 (.cmp .geq (oT 10) (.const (.int .u8 65))),oI 12 9 (.mv (oT 11)),oH 13 12 (.mv (oT 0)),
 oH 14 12 (.cmp .leq (oT 13) (.const (.int .u8 90))),oI 15 9 (.pick (oT 12) (oT 14) (.const ob)),oB 16 (.pick (oT 9) (.const (.bool true)) (oT 15)),oA 17 16,oI 18 17 (.mv (oT 0)),oI 19 17 (.eql false false [.int] (oT 18) (.const (.int .u8 95))),oB 20 (.pick (oT 17) (.const (.bool true)) (oT 19)),oA 2 20] [2] [] (.ret))
def pd:List aI:= [.tmp 2]
def EG:List Nat:= []
theorem Eu:aR Tryz.prog eD EG pr pd 21:=aA ay (by kernel_rfl)
def qU:CC:=oX [oB 2 (.mv (.const ob))] [0] [] (oX [oA 3 0,oB 4 (.cmp .geq (oT 3) (.const (.int .u8 48))),oA 5 4,oH 6 5 (.mv (oT 0)),oH 7 5 (.cmp .leq (oT 6) (.const (.int .u8 57))),oB 8 (.pick (oT 5) (oT 7) (.const ob)),oA 2 8] [2] [] (.ret))
def qo:List aI:= [.tmp 2]
def Hj:List Nat:= []
theorem GL:aR Tryz.prog ch Hj qU qo 9:=aA ay (by kernel_rfl)
def qR:CC:=oX [oB 2 (.mv (.const ob))] [0] [] (oX [oA 3 0,oB 4 (.eql false false [.int] (oT 3) (.const (.int .u8 32))),oA 5 4,oI 6 5 (.mv (oT 0)),oI 7 5 (.eql false false [.int] (oT 6) (.const (.int .u8 10))),oB 8 (.pick (oT 5) (.const (.bool true)) (oT 7)),oA 2 8] [2] [] (.ret))
def ql:List aI:= [.tmp 2]
def Hg:List Nat:= []
theorem GH:aR Tryz.prog gC Hg qR ql 9:=aA ay (by kernel_rfl)
def qQ:CC:=oX [oB 2 (.mv (.const ob))] [0] [] (oX [oA 3 0,oZ 4 eD [oT 3],oA 5 4,oI 6 5 (.mv (oT 0)),oI 7 5 (.call ch [oT 6]),oB 8 (.pick (oT 5) (.const (.bool true)) (oT 7)),oA 9 8,oI 10 9 (.mv (oT 0)),oI 11 9 (.eql false false [.int] (oT 10) (.const (.int .u8 45))),oB 12 (.pick (oT 9) (.const (.bool true)) (oT 11)),oA 2 12] [2] [] (.ret))
def qk:List aI:= [.tmp 2]
def He:List Nat:= []
theorem GE:aR Tryz.prog fm He qQ qk 13:=aA ay (by kernel_rfl)
-- query_run while id=0: live [0:s, 1:at, 2:f] changed [1] res []
def uA:CC:=oX [oB 6 (.mv (oN 0))] [0,1,2] [] (.seq (.block 0 (.loop 1 (.seq (oX [oA 7 1,oA 8 0,oB 9 (.slen (oT 8)),oB 10 (.cmp .lss (oT 7) (oT 9)),oA 11 10,oH 12 11 (.mv (oT 2)),oH 13 11 (.mv (oT 0)),oH 14 11 (.mv (oT 1)),oH 15 11 (.sidx (oT 13) (oT 14)),oH 16 11 (.callv (oT 12) [oT 15]),oB 17 (.pick (oT 11) (oT 16) (.const ob))] [0,1,2,17] [] (.ite (oT 17) (.skip)
 (.exit 0))) (.keep [0,1,2] [] (.block 1 (.reg [oA 18 1,oB 19 (.arith .add (oT 18) (oN 1)),oA 1 19])))))) (.keep [1] [] (oX [oA 20 1,oA 6 20] [6] [] (.ret))))
def tU:List aI:= [.tmp 6]
def LD:List Nat:= []
theorem Ll:aR Tryz.prog ji LD uA tU 21:=aA ay (by kernel_rfl)
-- query_lex range i=73 n=72 c=74 i2=87 id=1: live [0:s, 1:at, 4:, 6:c, 71:] changed [] res [4]
def uB:CC:=oX [oB 4 (.alloc kV [oi,oe,oi]),oB 5 (.mv (oN 0))] [0,1,4] [4] (oX [oA 13 0,oA 14 1,oZ 15 ji [oT 13,oT 14,.func gC],oA 1 15] [0,1,4] [4] (iB 2 (oX [oA 16 1,oA 17 0,oB 18 (.slen (oT 17)),oB 19 (.eql false false [.int] (oT 16) (oT 18))] [0,1,4,19] [4] (.ite (oT 19) (oX [oA 20 1,
 oB 21 (.build [oi,oe,oi] [(0,1,oN 0),(1,1,oS ⟨#[]⟩),(2,1,oT 20)]),oA 22 1,oF 3 4 21,oA 5 22] [4,5] [4] (.ret)) (.skip))) (.keep [0,1,4] [4] (oX [oA 23 0,oA 24 1,oB 25 (.sidx (oT 23) (oT 24)),oA 6 25] [0,1,4,6] [4] (iB 6 (.block 0 (oX [oA 27 6,oZ 28 eD [oT 27],oA 26 28] [0,1,4,6,26] [4] (.ite (oT 26) (oX [oA 29 0,oA 30 1,
 oZ 31 ji [oT 29,oT 30,.func fm],oA 7 31] [0,1,4,7] [4] (oX [oA 32 0,oA 33 1,oA 34 7,oB 35 (.sslice (oT 32) (some (oT 33)) (some (oT 34))),oA 36 1,oB 37 (.build [oi,oe,oi] [(0,1,oN 2),(1,1,oT 35),(2,1,oT 36)]),oA 38 7,oF 3 4 37,oA 5 38] [4,5] [4] (.ret))) (oX [oA 40 6,oZ 41 ch [oT 40],oA 39 41] [0,1,4,6,39] [4] (.ite (oT 39) (oX [oA 42 0,oA 43 1,
 oZ 44 ji [oT 42,oT 43,.func ch],oA 8 44] [0,1,4,8] [4] (oX [oA 45 0,oA 46 1,oA 47 8,oB 48 (.sslice (oT 45) (some (oT 46)) (some (oT 47))),oA 49 1,oB 50 (.build [oi,oe,oi] [(0,1,oN 3),(1,1,oT 48),(2,1,oT 49)]),oA 51 8,oF 3 4 50,oA 5 51] [4,5] [4] (.ret))) (oX [oA 53 6,oB 54 (.eql false false [.int] (oT 53) (.const (.int .u8 34))),
 oA 52 54] [0,1,4,6,52] [4] (.ite (oT 52) (oX [oA 56 0,oA 57 1,oZ 58 jj [oT 56,oT 57],oA 55 58,oB 59 (.ext (oT 55) 0),oB 60 (.ext (oT 55) 1),oA 9 59,oA 10 60] [0,1,4,9,10] [4] (.seq (oX [oA 61 10,oB 62 (.cmp .lss (oT 61) (oN 0))] [0,1,4,9,10,62] [4] (.ite (oT 62) (oX [oA 63 1,oB 64 (.build [oi,oe,oi] [(0,1,oN 1),(1,1,oS ⟨#[]⟩),(2,1,oT 63)]),oA 65 0,oB 66 (.slen (oT 65)),
 oF 3 4 64,oA 5 66] [4,5] [4] (.ret)) (.skip))) (.keep [1,4,9,10] [4] (oX [oA 67 9,oA 68 1,oB 69 (.build [oi,oe,oi] [(0,1,oN 4),(1,1,oT 67),(2,1,oT 68)]),oA 70 10,oF 3 4 69,oA 5 70] [4,5] [4] (.ret))))) (.skip)))))))) (.keep [0,1,4,6] [4] (iB 19 (oX [oB 71 (.bslice aF 1 [oS ⟨#[60,47]⟩,oS ⟨#[33,61]⟩,oS ⟨#[58,58]⟩,oS ⟨#[37,99]⟩]),oB 72 (.len (oT 71)),
 oB 73 (.mv (oN 0))] [0,1,4,6,71,72,73] [4] (bi 1 73 72 74 2 (oX [oB 75 (.iaddr 1 (oT 71) (oT 73)),oC 76 1 75,oA 12 76] [0,1,4,6,12,71,72,73] [4] (oX [oA 77 0,oA 78 1,oB 79 (.sslice (oT 77) (some (oT 78)) none),oA 80 12,oZ 81 eT [oT 79,oT 80]] [0,1,4,6,12,71,72,73,81] [4] (.ite (oT 81) (oX [oA 82 12,oA 83 1,
 oB 84 (.build [oi,oe,oi] [(0,1,oN 5),(1,1,oT 82),(2,1,oT 83)]),oA 85 1,oB 86 (.arith .add (oT 85) (oN 2)),oF 3 4 84,oA 5 86] [4,5] [4] (.ret)) (.skip)))) 87)) (.keep [0,1,4,6] [4] (.seq (oX [oA 88 6,oZ 89 eS [oS ⟨#[91,93,40,41,123,125,60,62,124,38,33,61,58,46,44,63,42,43,45]⟩,oT 88],oB 90 (.cmp .geq (oT 89) (oN 0))] [0,1,4,90] [4] (.ite (oT 90) (oX [oA 91 0,oA 92 1,
 oA 93 1,oB 94 (.arith .add (oT 93) (oN 1)),oB 95 (.sslice (oT 91) (some (oT 92)) (some (oT 94))),oA 96 1,oB 97 (.build [oi,oe,oi] [(0,1,oN 5),(1,1,oT 95),(2,1,oT 96)]),oA 98 1,oB 99 (.arith .add (oT 98) (oN 1)),oF 3 4 97,oA 5 99] [4,5] [4] (.ret)) (.skip))) (.keep [1,4] [4] (oX [oA 100 1,oB 101 (.build [oi,oe,oi] [(0,1,oN 1),(1,1,oS ⟨#[]⟩),(2,1,oT 100)]),oA 102 1,oF 3 4 101,
 oA 5 102] [4,5] [4] (.ret))))))))))))
def tV:List aI:= [.cell 4 true 3, .tmp 5]
def LE:List Nat:= []
theorem Lm:aR Tryz.prog gU LE uB tV 103:=aA ay (by kernel_rfl)
def jv:CC:= .regd [oA 3 0,oA 4 0,oA 5 0,oG 6 5,oE 7 0 6,oC 8 1 7,oA 9 0,oG 10 9,oE 11 1 10,oC 12 1 11,oZ 13 gU [oT 8,oT 12],oA 2 13,oB 14 (.ext (oT 2) 0),oB 15 (.ext (oT 2) 1),oG 16 3,oE 17 2 16,.frz 0 0,.op none none (.store (some 0) 3 (oT 17) (oT 14))] [oG 18 4,oE 19 1 18,.op none none (.store (some 0) 1 (oT 19) (oT 15))]
def iZ:List aI:= []
def wK:List Nat:= [2019000,2017000]
theorem wh:aR Tryz.prog a5 wK jv iZ 20:=aA ay (by kernel_rfl)
def ju:CC:=oX [oB 2 (.alloc kV [oi,oe,oi])] [0,2] [0,2] (.seq (.regd [oA 6 0,oG 7 6,oE 8 0 7,oC 9 1 8,oA 10 0,oG 11 10,oE 12 1 11,oC 13 1 12,oZ 14 gU [oT 9,oT 13],oA 5 14,oB 15 (.ext (oT 5) 0),oB 16 (.ext (oT 5) 1),oB 3 (.alloc kV [oi,oe,oi]),.frz 0 0,.op none none (.store (some 3) 3 (oT 3) (oT 15))] [oA 4 16])
 (.keep [2,3] [0,2,3] (oX [oD 17 3 3,oF 3 2 17] [2] [0,2] (.ret))))
def iY:List aI:= [.cell 2 true 3]
def wJ:List Nat:= [2003003]
theorem wg:aR Tryz.prog eV wJ ju iY 18:=aA ay (by kernel_rfl)
def jt:CC:=oX [oB 4 (.mv (.const ob))] [0,1] [0] (oX [oA 5 0,oG 6 5,oE 7 2 6,oE 8 0 7,oC 9 1 8,oB 10 (.eql false false [.int] (oT 9) (oN 5)),oA 11 10,oH 12 11 (.mv (oT 0)),oH 13 11 (.nilck (oT 12)),oH 14 11 (.faddr 2 (oT 13)),oH 15 11 (.faddr 1 (oT 14)),oH 16 11 (.load false 1 (oT 15)),oH 17 11 (.mv (oT 1)),oH 18 11 (.eql false false [.str] (oT 16) (oT 17)),
 oB 19 (.pick (oT 11) (oT 18) (.const ob)),oA 4 19] [4] [0] (.ret))
def iX:List aI:= [.tmp 4]
def wI:List Nat:= []
theorem we:aR Tryz.prog aQ wI jt iX 20:=aA ay (by kernel_rfl)
def gx:CC:=oX [oB 4 (.mv (.const ob))] [0,1] [0] (.seq (oX [oA 5 0,oA 6 1,oZ 7 aQ [oT 5,oT 6],oB 8 (.not (oT 7))] [0,8] [0] (.ite (oT 8) (oX [oB 4 (.mv (.const ob))] [4] [0] (.ret)) (.skip))) (.keep [0] [0] (oX [oA 9 0,oZ 10 a5 [oT 9]] [] [0] (oX [oB 4 (.mv (.const (.bool true)))] [4] [0] (.ret)))))
def gd:List aI:= [.tmp 4]
def wH:List Nat:= []
theorem wc:aR Tryz.prog ae wH gx gd 11:=aA ay (by kernel_rfl)
def js:CC:=oX [oB 4 (.mv (.const ob))] [0,1] [0] (oX [oA 5 0,oG 6 5,oE 7 2 6,oE 8 0 7,oC 9 1 8,oB 10 (.eql false false [.int] (oT 9) (oN 2)),oA 11 10,oH 12 11 (.mv (oT 1)),oH 13 11 (.mv (oT 0)),oH 14 11 (.nilck (oT 13)),oH 15 11 (.faddr 2 (oT 14)),oH 16 11 (.faddr 1 (oT 15)),oH 17 11 (.load false 1 (oT 16)),
 oH 18 11 (.call di [oT 12,oT 17]),oB 19 (.pick (oT 11) (oT 18) (.const ob)),oA 4 19] [4] [0] (.ret))
def iW:List aI:= [.tmp 4]
def wF:List Nat:= []
theorem wa:aR Tryz.prog bf wF js iW 20:=aA ay (by kernel_rfl)
-- query_reader_must range i=8 n=7 c=9 i2=18 id=0: live [0:r, 6:] changed [] res [0]
def jw:CC:=oX [oA 6 1,oB 7 (.len (oT 6)),oB 8 (.mv (oN 0))] [0,6,7,8] [0] (bi 0 8 7 9 1 (oX [oB 10 (.iaddr 1 (oT 6) (oT 8)),oC 11 1 10,oA 5 11] [0,5,6,7,8] [0] (oX [oA 12 0,oA 13 5,oZ 14 ae [oT 12,oT 13],oB 15 (.not (oT 14))] [0,6,7,8,15] [0] (.ite (oT 15) (.reg [oA 16 0,oZ 17 bc [oT 16]]) (.skip)))) 18)
def i3:List aI:= []
def wM:List Nat:= []
theorem wj:aR Tryz.prog ak wM jw i3 19:=aA ay (by kernel_rfl)
def gw:CC:=oX [oB 4 (.mv (oS ⟨#[]⟩))] [0,1] [0] (.seq (oX [oA 6 0,oG 7 6,oE 8 2 7,oE 9 0 8,oC 10 1 9,oA 11 1,oB 12 (.eql true false [.int] (oT 10) (oT 11))] [0,12] [0] (.ite (oT 12) (.reg [oA 13 0,oZ 14 bc [oT 13]]) (.skip))) (.keep [0] [0] (oX [oA 15 0,oG 16 15,oE 17 2 16,oE 18 1 17,oC 19 1 18,oA 5 19] [0,5] [0] (oX [oA 20 0,
 oZ 21 a5 [oT 20]] [5] [0] (oX [oA 22 5,oA 4 22] [4] [0] (.ret))))))
def gc:List aI:= [.tmp 4]
def wG:List Nat:= []
theorem wb:aR Tryz.prog aJ wG gw gc 23:=aA ay (by kernel_rfl)
def gy:CC:=oX [oB 2 (.mv (oS ⟨#[]⟩))] [0] [0] (oX [oA 3 0,oZ 4 aJ [oT 3,oN 2],oA 2 4] [2] [0] (.ret))
def ge:List aI:= [.tmp 2]
def wL:List Nat:= []
theorem wi:aR Tryz.prog az wL gy ge 5:=aA ay (by kernel_rfl)
def eb:CC:=oX [oB 2 (.mv (oS ⟨#[]⟩))] [0] [0] (oX [oA 3 0,oB 4 (.bslice aF 1 [oS ⟨#[44]⟩]),oZ 5 ak [oT 3,oT 4]] [0] [0] (oX [oA 6 0,oZ 7 az [oT 6],oA 2 7] [2] [0] (.ret)))
def d8:List aI:= [.tmp 2]
def vk:List Nat:= []
theorem va:aR Tryz.prog dC vk eb d8 8:=aA ay (by kernel_rfl)
def jA:CC:=oX [oB 2 (.mv (.const ob))] [0] [0] (oX [oA 3 0,oZ 4 ae [oT 3,oS ⟨#[37,99]⟩],oA 2 4] [2] [0] (.ret))
def i7:List aI:= [.tmp 2]
def wQ:List Nat:= []
theorem wn:aR Tryz.prog bp wQ jA i7 5:=aA ay (by kernel_rfl)
def mY:CC:=oX [oB 4 (.alloc ag [oi,oi,oe,oe,oe,oe,ob,on,oe,oe,oi,oi,on])] [0,1,4] [4] (.seq (oX [oA 5 1,oB 6 (.len (oT 5)),oB 7 (.eql false false [.int] (oT 6) (oN 1))] [0,1,4,7] [4] (.ite (oT 7) (oX [oA 8 1,oB 9 (.iaddr 13 (oT 8) (oN 0)),oD 10 13 9,oF 13 4 10] [4] [4] (.ret)) (.skip))) (.keep [0,1,4] [4] (oX [oA 11 0,oA 12 1,
 oB 13 (.build [oi,oi,oe,oe,oe,oe,ob,on,oe,oe,oi,oi,on] [(0,1,oT 11),(12,1,oT 12)]),oF 13 4 13] [4] [4] (.ret))))
def mu:List aI:= [.cell 4 true 13]
def Bh:List Nat:= []
theorem AW:aR Tryz.prog dD Bh mY mu 14:=aA ay (by kernel_rfl)
def qV:CC:=oX [oB 4 (.alloc aH [oi,oe,oe,oe,oe,ob,on])] [0,1,4] [4] (.seq (oX [oA 5 1,oB 6 (.len (oT 5)),oB 7 (.eql false false [.int] (oT 6) (oN 1))] [0,1,4,7] [4] (.ite (oT 7) (oX [oA 8 1,oB 9 (.iaddr 7 (oT 8) (oN 0)),oD 10 7 9,oF 7 4 10] [4] [4] (.ret)) (.skip))) (.keep [0,1,4] [4] (oX [oA 11 0,oA 12 1,
 oB 13 (.build [oi,oe,oe,oe,oe,ob,on] [(0,1,oT 11),(6,1,oT 12)]),oF 7 4 13] [4] [4] (.ret))))
def qp:List aI:= [.cell 4 true 7]
def Hk:List Nat:= []
theorem GM:aR Tryz.prog fq Hk qV qp 14:=aA ay (by kernel_rfl)
def qS:CC:=oX [oB 4 (.alloc aq [oi,oe,oe,oe,oe,oe,ob,oi,oi,on,on])] [0,1,4] [4] (.seq (oX [oA 5 1,oB 6 (.len (oT 5)),oB 7 (.eql false false [.int] (oT 6) (oN 1))] [0,1,4,7] [4] (.ite (oT 7) (oX [oA 8 1,oB 9 (.iaddr 11 (oT 8) (oN 0)),oD 10 11 9,oF 11 4 10] [4] [4] (.ret)) (.skip))) (.keep [0,1,4] [4] (oX [oA 11 0,oA 12 1,
 oB 13 (.build [oi,oe,oe,oe,oe,oe,ob,oi,oi,on,on] [(0,1,oT 11),(10,1,oT 12)]),oF 11 4 13] [4] [4] (.ret))))
def qm:List aI:= [.cell 4 true 11]
def Hh:List Nat:= []
theorem GJ:aR Tryz.prog fp Hh qS qm 14:=aA ay (by kernel_rfl)
def jp:CC:=oX [oB 4 (.mv (.const ob))] [0,1] [] (oX [oA 5 0,oA 6 1,oZ 7 bQ [oT 5,oT 6],oA 4 7] [4] [] (.ret))
def iT:List aI:= [.tmp 4]
def wA:List Nat:= []
theorem v5:aR Tryz.prog eT wA jp iT 8:=aA ay (by kernel_rfl)
def dI:CC:=oX [oB 4 (.mv (.const ob))] [0,1] [] (oX [oA 5 0,oB 6 (.slen (oT 5)),oA 7 1,oB 8 (.slen (oT 7)),oB 9 (.cmp .geq (oT 6) (oT 8)),oA 10 9,oH 11 10 (.mv (oT 0)),oH 12 10 (.mv (oT 1)),oH 13 10 (.slen (oT 12)),oH 14 10 (.sslice (oT 11) none (some (oT 13))),oH 15 10 (.mv (oT 1)),oH 16 10 (.eql false false [.str] (oT 14) (oT 15)),
 oB 17 (.pick (oT 10) (oT 16) (.const ob)),oA 4 17] [4] [] (.ret))
def dH:List aI:= [.tmp 4]
def lV:List Nat:= []
theorem lU:aR Tryz.prog bQ lV dI dH 18:=aA ay (by kernel_rfl)
def jo:CC:=oX [oB 4 (.mv (oN 0))] [0,1] [] (oX [oA 5 0,oA 6 1,oZ 7 cB [oT 5,oT 6],oA 4 7] [4] [] (.ret))
def iS:List aI:= [.tmp 4]
def wz:List Nat:= []
theorem vZ:aR Tryz.prog eS wz jo iS 8:=aA ay (by kernel_rfl)
-- internal_bytealg_IndexByteString: no body
def fZ:CC:=oX [oB 4 (.mv (.const ob))] [0,1] [] (oX [oA 5 0,oA 6 1,oZ 7 bL [oT 5,oT 6],oB 8 (.cmp .geq (oT 7) (oN 0)),oA 4 8] [4] [] (.ret))
def fW:List aI:= [.tmp 4]
def rz:List Nat:= []
theorem rp:aR Tryz.prog di rz fZ fW 9:=aA ay (by kernel_rfl)
-- slices_Index_string range i=8 n=7 c=9 i2=18 id=0: live [0:s, 1:v] changed [] res []
def hY:CC:=oX [oB 4 (.mv (oN 0))] [0,1] [] (.seq (oX [oA 6 0,oB 7 (.len (oT 6)),oB 8 (.mv (oN 0))] [0,1,7,8] [] (bi 0 8 7 9 1 (oX [oA 10 8,oA 5 10] [0,1,5,7,8] [] (oX [oA 11 1,oA 12 0,oA 13 5,oB 14 (.iaddr 1 (oT 12) (oT 13)),oC 15 1 14,oB 16 (.eql false false [.str] (oT 11) (oT 15))] [0,1,5,7,8,16] [] (.ite (oT 16) (oX [oA 17 5,oA 4 17] [4] [] (.ret))
 (.skip)))) 18)) (.keep [] [] (oX [oB 4 (.mv (oN (-1)))] [4] [] (.ret))))
def gX:List aI:= [.tmp 4]
def ug:List Nat:= []
theorem t4:aR Tryz.prog bL ug hY gX 19:=aA ay (by kernel_rfl)
-- query_reader_alt while id=0: live [0:r, 1:inner, 4:, 5:l] changed [5] res [0, 4, 9, 17]
def kF:CC:=oX [oB 4 (.alloc ag [oi,oi,oe,oe,oe,oe,ob,on,oe,oe,oi,oi,on])] [0,1,4] [0,4,9,17] (oX [oA 6 0,oA 7 1,oZ 8 ef [oT 6,oT 7],oB 9 (.mslice ag 13 [oT 8]),oA 5 9] [0,1,4,5] [0,4,9,17] (.seq (.block 0 (.loop 1 (.seq (oX [oA 10 0,oZ 11 ae [oT 10,oS ⟨#[124]⟩]] [0,1,4,5,11] [0,4,9,17] (.ite (oT 11) (.skip) (.exit 0)))
 (.keep [0,1,4,5] [0,4,9,17] (.block 1 (.reg [oA 12 5,oA 13 0,oA 14 1,oZ 15 ef [oT 13,oT 14],oB 16 (.bslice ag 13 [oT 15]),oB 17 (.append (some 9) ag 13 184 (oT 12) (oT 16)),oA 5 17])))))) (.keep [4,5] [0,4,9,17] (oX [oA 18 5,.frz 18 13,oZ 19 dD [oN 5,oT 18],oF 13 4 19] [4] [0,4,9,17] (.ret)))))
def ko:List aI:= [.cell 4 true 13]
def yj:List Nat:= [100009,1017009]
theorem xX:aR Tryz.prog cL yj kF ko 20:=aA ay (by kernel_rfl)
def dR:CC:=oX [oB 4 (.mv (.const ob))] [0,1] [0] (.seq (oX [oA 6 0,oG 7 6,oE 8 2 7,oE 9 0 8,oC 10 1 9] [0,1,10] [0] (.block 0 (oX [oB 12 (.eql false false [.int] (oT 10) (oN 4)),oA 11 12] [0,1,10,11] [0] (.ite (oT 11) (oX [oB 4 (.mv (.const (.bool true)))] [4] [0] (.ret)) (oX [oB 14 (.eql false false [.int] (oT 10) (oN 2)),
 oA 13 14] [0,1,13] [0] (.ite (oT 13) (oX [oA 15 0,oZ 16 eV [oT 15],oB 5 (.alloc kV [oi,oe,oi]),oF 3 5 16] [0,1,5] [0,5] (oX [oA 17 1,oA 18 17,oI 19 18 (.mv (oT 0)),
 oI 20 18 (.bslice aF 1 [oS ⟨#[119,105,116,104,105,110]⟩,oS ⟨#[99,111,110,116,97,105,110,105,110,103]⟩,oS ⟨#[111,118,101,114,108,97,112,112,105,110,103]⟩,oS ⟨#[115,116,114,97,116,101,103,121]⟩]),oI 21 18 (.call bf [oT 19,oT 20]),oI 22 18 (.not (oT 21)),oB 23 (.pick (oT 18) (.const (.bool true)) (oT 22)),oA 24 23,oI 25 24 (.faddr 0 (oT 5)),
 oI 26 24 (.load false 1 (oT 25)),oI 27 24 (.eql false false [.int] (oT 26) (oN 5)),oI 28 24 (.mv (oT 27)),oH 29 28 (.faddr 1 (oT 5)),oH 30 28 (.load false 1 (oT 29)),oH 31 28 (.eql false false [.str] (oT 30) (oS ⟨#[58]⟩)),oI 32 24 (.pick (oT 28) (oT 31) (.const ob)),oB 33 (.pick (oT 24) (.const (.bool true)) (oT 32)),oA 4 33] [4] [0] (.ret))) (.skip))))))) (.keep [0] [0] (oX [oA 34 0,
 oZ 35 aQ [oT 34,oS ⟨#[91]⟩],oA 36 35,oI 37 36 (.mv (oT 0)),oI 38 36 (.call aQ [oT 37,oS ⟨#[60]⟩]),oB 39 (.pick (oT 36) (.const (.bool true)) (oT 38)),oA 40 39,oI 41 40 (.mv (oT 0)),oI 42 40 (.call aQ [oT 41,oS ⟨#[60,47]⟩]),oB 43 (.pick (oT 40) (.const (.bool true)) (oT 42)),oA 44 43,oI 45 44 (.mv (oT 0)),
 oI 46 44 (.call aQ [oT 45,oS ⟨#[40]⟩]),oB 47 (.pick (oT 44) (.const (.bool true)) (oT 46)),oA 4 47] [4] [0] (.ret))))
def dL:List aI:= [.tmp 4]
def ul:List Nat:= []
theorem ua:aR Tryz.prog ea ul dR dL 48:=aA ay (by kernel_rfl)
-- query_reader_seq while id=0: live [0:r, 1:inner, 4:, 5:l] changed [5] res [0, 4, 8, 16]
def kz:CC:=oX [oB 4 (.alloc ag [oi,oi,oe,oe,oe,oe,ob,on,oe,oe,oi,oi,on])] [0,1,4] [0,4,8,16] (oX [oA 6 0,oZ 7 eg [oT 6],oB 8 (.mslice ag 13 [oT 7]),oA 5 8] [0,1,4,5] [0,4,8,16] (.seq (.block 0 (.loop 1 (.seq (oX [oA 9 0,oA 10 1,oZ 11 ea [oT 9,oT 10]] [0,1,4,5,11] [0,4,8,16] (.ite (oT 11) (.skip) (.exit 0)))
 (.keep [0,1,4,5] [0,4,8,16] (.block 1 (.reg [oA 12 5,oA 13 0,oZ 14 eg [oT 13],oB 15 (.bslice ag 13 [oT 14]),oB 16 (.append (some 8) ag 13 184 (oT 12) (oT 15)),oA 5 16])))))) (.keep [4,5] [0,4,8,16] (oX [oA 17 5,.frz 17 13,oZ 18 dD [oN 4,oT 17],oF 13 4 18] [4] [0,4,8,16] (.ret)))))
def ke:List aI:= [.cell 4 true 13]
def yd:List Nat:= [100008,1016008]
theorem xR:aR Tryz.prog ef yd kz ke 19:=aA ay (by kernel_rfl)
-- query_reader_rep while id=0: live [0:r, 2:, 3:p] changed [] res [0, 2, 3]
def kA:CC:=oX [oB 2 (.alloc ag [oi,oi,oe,oe,oe,oe,ob,on,oe,oe,oi,oi,on])] [0,2] [0,2] (oX [oA 7 0,oZ 8 eW [oT 7],oB 3 (.alloc ag [oi,oi,oe,oe,oe,oe,ob,on,oe,oe,oi,oi,on]),oF 13 3 8] [0,2,3] [0,2,3] (.block 0 (.loop 1 (.block 1 (oX [oB 4 (.mv (oN 0)),oB 5 (.mv (oN (-1)))] [0,2,3,4,5] [0,2,3] (.seq (oX [oA 9 0,oG 10 9,oE 11 2 10,
 oE 12 2 11,oC 13 1 12,oA 6 13] [0,2,3,4,5,6] [0,2,3] (.block 2 (oX [oA 16 0,oZ 17 ae [oT 16,oS ⟨#[63]⟩],oA 15 17] [0,2,3,4,5,6,15] [0,2,3] (.ite (oT 15) (.reg [oB 5 (.mv (oN 1))]) (oX [oA 19 0,oZ 20 ae [oT 19,oS ⟨#[42]⟩],oA 18 20] [0,2,3,4,5,6,18] [0,2,3] (.ite (oT 18) (.skip) (oX [oA 22 0,oZ 23 ae [oT 22,oS ⟨#[43]⟩],
 oA 21 23] [0,2,3,5,6,21] [0,2,3] (.ite (oT 21) (.reg [oB 4 (.mv (oN 1))]) (oX [oA 25 0,oZ 26 ae [oT 25,oS ⟨#[123]⟩],oA 24 26] [0,2,3,6,24] [0,2,3] (.ite (oT 24) (oX [oA 27 0,oA 28 6,oZ 29 bM [oT 27,oN 16,oT 28],oA 4 29] [0,2,3,4,6] [0,2,3] (oX [oA 30 4,oA 5 30] [0,2,3,4,5,6] [0,2,3] (.seq (oX [oA 31 0,
 oZ 32 ae [oT 31,oS ⟨#[44]⟩]] [0,2,3,4,5,6,32] [0,2,3] (.ite (oT 32) (oX [oB 5 (.mv (oN (-1)))] [0,2,3,4,5,6] [0,2,3] (oX [oA 33 0,oZ 34 aQ [oT 33,oS ⟨#[125]⟩],oB 35 (.not (oT 34))] [0,2,3,4,5,6,35] [0,2,3] (.ite (oT 35) (oX [oA 36 0,oA 37 6,oZ 38 bM [oT 36,oN 16,oT 37],oA 5 38] [0,2,3,4,5,6] [0,2,3] (oX [oA 39 5,oA 40 4,
 oB 41 (.cmp .lss (oT 39) (oT 40))] [0,2,3,4,5,6,41] [0,2,3] (.ite (oT 41) (.reg [oA 42 6,oB 43 (.build [oi,oi] [(0,1,oT 42),(1,1,oN 8)]),oB 44 (.mkif aB (oT 43)),.op none none (.call dw [oT 44])]) (.skip)))) (.skip)))) (.skip))) (.keep [0,2,3,4,5] [0,2,3] (.reg [oA 45 0,oB 46 (.bslice aF 1 [oS ⟨#[125]⟩]),oZ 47 ak [oT 45,oT 46]]))))) (oX [oD 14 13 3,
 oF 13 2 14] [2] [0,2] (.ret)))))))))))) (.keep [0,2,3,4,5] [0,2,3] (.reg [oA 48 4,oA 49 5,oD 50 13 3,oB 51 (.bslice ag 13 [oT 50]),oB 52 (.build [oi,oi,oe,oe,oe,oe,ob,on,oe,oe,oi,oi,on] [(0,1,oN 6),(10,1,oT 48),(11,1,oT 49),(12,1,oT 51)]),oF 13 3 52]))))))))
def kf:List aI:= [.cell 2 true 13]
def ye:List Nat:= [300000]
theorem xS:aR Tryz.prog eg ye kA kf 53:=aA ay (by kernel_rfl)
def jx:CC:=oX [oB 2 (.alloc ag [oi,oi,oe,oe,oe,oe,ob,on,oe,oe,oi,oi,on])] [0,2] [0,2] (.seq (.block 0 (oX [oA 8 0,oZ 9 ae [oT 8,oS ⟨#[60]⟩],oA 7 9] [0,2,7] [0,2] (.ite (oT 7) (oX [oA 10 0,oZ 11 az [oT 10],oB 12 (.build [oi,oi,oe,oe,oe,oe,ob,on,oe,oe,oi,oi,on] [(0,1,oN 2),(9,1,oT 11)]),
 oB 3 (.alloc ag [oi,oi,oe,oe,oe,oe,ob,on,oe,oe,oi,oi,on]),oF 13 3 12] [0,2,3] [0,2,3] (oX [oA 13 0,oB 14 (.bslice aF 1 [oS ⟨#[62]⟩]),oZ 15 ak [oT 13,oT 14]] [2,3] [0,2,3] (oX [oD 16 13 3,oF 13 2 16] [2] [0,2] (.ret)))) (oX [oA 18 0,oZ 19 ae [oT 18,oS ⟨#[60,47]⟩],oA 17 19] [0,2,17] [0,2] (.ite (oT 17) (oX [oA 20 0,
 oZ 21 az [oT 20],oB 22 (.build [oi,oi,oe,oe,oe,oe,ob,on,oe,oe,oi,oi,on] [(0,1,oN 3),(9,1,oT 21)]),oB 4 (.alloc ag [oi,oi,oe,oe,oe,oe,ob,on,oe,oe,oi,oi,on]),oF 13 4 22] [0,2,4] [0,2,4] (oX [oA 23 0,oB 24 (.bslice aF 1 [oS ⟨#[62]⟩]),oZ 25 ak [oT 23,oT 24]] [2,4] [0,2,4] (oX [oD 26 13 4,oF 13 2 26] [2] [0,2] (.ret)))) (oX [oA 28 0,
 oZ 29 ae [oT 28,oS ⟨#[40]⟩],oA 27 29] [0,2,27] [0,2] (.ite (oT 27) (oX [oA 30 0,oZ 31 cL [oT 30,.const (.bool true)],oB 5 (.alloc ag [oi,oi,oe,oe,oe,oe,ob,on,oe,oe,oi,oi,on]),oF 13 5 31] [0,2,5] [0,2,5] (oX [oA 32 0,oB 33 (.bslice aF 1 [oS ⟨#[41]⟩]),oZ 34 ak [oT 32,oT 33]] [2,5] [0,2,5] (oX [oD 35 13 5,
 oF 13 2 35] [2] [0,2] (.ret)))) (oX [oA 37 0,oG 38 37,oE 39 2 38,oE 40 0 39,oC 41 1 40,oB 42 (.eql false false [.int] (oT 41) (oN 2)),oA 36 42] [0,2,36] [0,2] (.ite (oT 36) (oX [oA 43 0,oZ 44 az [oT 43],oA 6 44] [0,2,6] [0,2] (oX [oA 45 0,oB 46 (.bslice aF 1 [oS ⟨#[58]⟩]),oZ 47 ak [oT 45,oT 46]] [0,2,6] [0,2] (oX [oA 48 0,oA 49 6,
 oZ 50 dB [oT 48,oT 49],oF 13 2 50] [2] [0,2] (.ret)))) (.skip)))))))))) (.keep [0,2] [0,2] (oX [oA 51 0,oZ 52 dB [oT 51,oS ⟨#[]⟩],oF 13 2 52] [2] [0,2] (.ret))))
def i4:List aI:= [.cell 2 true 13]
def wN:List Nat:= []
theorem wk:aR Tryz.prog eW wN jx i4 53:=aA ay (by kernel_rfl)
def iK:CC:=oX [oB 4 (.alloc ag [oi,oi,oe,oe,oe,oe,ob,on,oe,oe,oi,oi,on])] [0,1,4] [0,4] (oX [oA 6 1,oB 7 (.build [oi,oi,oe,oe,oe,oe,ob,on,oe,oe,oi,oi,on] [(0,1,oN 1),(8,1,oT 6)]),oB 5 (.alloc ag [oi,oi,oe,oe,oe,oe,ob,on,oe,oe,oi,oi,on]),oF 13 5 7] [0,4,5] [0,4,5] (.seq (oX [oA 8 0,
 oZ 9 ae [oT 8,oS ⟨#[91]⟩]] [0,4,5,9] [0,4,5] (.ite (oT 9) (oX [oE 10 1 5,oE 11 0 10,.op none none (.store none 1 (oT 11) (oN 1))] [0,4,5] [0,4,5] (.seq (oX [oA 12 0,oZ 13 aQ [oT 12,oS ⟨#[93]⟩],oB 14 (.not (oT 13))] [0,4,5,14] [0,4,5] (.ite (oT 14) (.reg [oA 15 0,oZ 16 cY [oT 15],oE 17 1 5,oF 7 17 16]) (.skip)))
 (.keep [0,4,5] [0,4,5] (oX [oA 18 0,oB 19 (.bslice aF 1 [oS ⟨#[93]⟩]),oZ 20 ak [oT 18,oT 19]] [4,5] [0,4,5] (oX [oD 21 13 5,oF 13 4 21] [4] [0,4] (.ret)))))) (.skip))) (.keep [0,4,5] [0,4,5] (oX [oA 22 0,oZ 23 aJ [oT 22,oN 4],oB 24 (.build [oi,oe,oe,oe,oe,ob,on] [(0,1,oN 2),(3,1,oT 23)]),oE 25 1 5,oF 7 25 24] [0,4,5] [0,4,5] (oX [oA 26 0,
 oZ 27 bp [oT 26],oE 28 1 5,oE 29 5 28,oF 1 29 27] [4,5] [0,4,5] (oX [oD 30 13 5,oF 13 4 30] [4] [0,4] (.ret)))))))
def iE:List aI:= [.cell 4 true 13]
def vi:List Nat:= []
theorem u7:aR Tryz.prog dB vi iK iE 31:=aA ay (by kernel_rfl)
-- query_reader_or while id=0: live [0:r, 2:, 3:l] changed [3] res [0, 2, 6, 13]
def lI:CC:=oX [oB 2 (.alloc aH [oi,oe,oe,oe,oe,ob,on])] [0,2] [0,2,6,13] (oX [oA 4 0,oZ 5 eh [oT 4],oB 6 (.mslice aH 7 [oT 5]),oA 3 6] [0,2,3] [0,2,6,13] (.seq (.block 0 (.loop 1 (.seq (oX [oA 7 0,oZ 8 ae [oT 7,oS ⟨#[124]⟩]] [0,2,3,8] [0,2,6,13] (.ite (oT 8) (.skip) (.exit 0))) (.keep [0,2,3] [0,2,6,13] (.block 1 (.reg [oA 9 3,
 oA 10 0,oZ 11 eh [oT 10],oB 12 (.bslice aH 7 [oT 11]),oB 13 (.append (some 6) aH 7 104 (oT 9) (oT 12)),oA 3 13])))))) (.keep [2,3] [0,2,6,13] (oX [oA 14 3,.frz 14 7,oZ 15 fq [oN 8,oT 14],oF 7 2 15] [2] [0,2,6,13] (.ret)))))
def lk:List aI:= [.cell 2 true 7]
def zQ:List Nat:= [100006,1013006]
theorem zu:aR Tryz.prog cY zQ lI lk 16:=aA ay (by kernel_rfl)
-- query_reader_and while id=0: live [0:r, 2:, 3:l] changed [3] res [0, 2, 6, 13]
def kE:CC:=oX [oB 2 (.alloc aH [oi,oe,oe,oe,oe,ob,on])] [0,2] [0,2,6,13] (oX [oA 4 0,oZ 5 bK [oT 4],oB 6 (.mslice aH 7 [oT 5]),oA 3 6] [0,2,3] [0,2,6,13] (.seq (.block 0 (.loop 1 (.seq (oX [oA 7 0,oZ 8 ae [oT 7,oS ⟨#[38]⟩]] [0,2,3,8] [0,2,6,13] (.ite (oT 8) (.skip) (.exit 0))) (.keep [0,2,3] [0,2,6,13] (.block 1 (.reg [oA 9 3,
 oA 10 0,oZ 11 bK [oT 10],oB 12 (.bslice aH 7 [oT 11]),oB 13 (.append (some 6) aH 7 104 (oT 9) (oT 12)),oA 3 13])))))) (.keep [2,3] [0,2,6,13] (oX [oA 14 3,.frz 14 7,oZ 15 fq [oN 7,oT 14],oF 7 2 15] [2] [0,2,6,13] (.ret)))))
def km:List aI:= [.cell 2 true 7]
def yi:List Nat:= [100006,1013006]
theorem xW:aR Tryz.prog eh yi kE km 16:=aA ay (by kernel_rfl)
def kB:CC:=oX [oB 2 (.alloc aH [oi,oe,oe,oe,oe,ob,on])] [0,2] [0,2] (.seq (.block 0 (oX [oA 5 0,oZ 6 ae [oT 5,oS ⟨#[33]⟩],oA 4 6] [0,2,4] [0,2] (.ite (oT 4) (oX [oA 7 0,oZ 8 bK [oT 7],oB 9 (.bslice aH 7 [oT 8]),oB 10 (.build [oi,oe,oe,oe,oe,ob,on] [(0,1,oN 6),(6,1,oT 9)]),oF 7 2 10] [2] [0,2] (.ret)) (oX [oA 12 0,
 oZ 13 ae [oT 12,oS ⟨#[40]⟩],oA 11 13] [0,2,11] [0,2] (.ite (oT 11) (oX [oA 14 0,oZ 15 cY [oT 14],oB 3 (.alloc aH [oi,oe,oe,oe,oe,ob,on]),oF 7 3 15] [0,2,3] [0,2,3] (oX [oA 16 0,oB 17 (.bslice aF 1 [oS ⟨#[41]⟩]),oZ 18 ak [oT 16,oT 17]] [2,3] [0,2,3] (oX [oD 19 7 3,oF 7 2 19] [2] [0,2] (.ret)))) (.skip))))))
 (.keep [0,2] [0,2] (oX [oA 20 0,oZ 21 eX [oT 20],oF 7 2 21] [2] [0,2] (.ret))))
def kg:List aI:= [.cell 2 true 7]
def yf:List Nat:= []
theorem xT:aR Tryz.prog bK yf kB kg 22:=aA ay (by kernel_rfl)
def jB:CC:=oX [oB 2 (.alloc aH [oi,oe,oe,oe,oe,ob,on])] [0,2] [0,2] (oX [oA 8 0,oZ 9 az [oT 8],oA 3 9] [0,2,3] [0,2] (.seq (oX [oA 10 3,oB 11 (.eql false false [.str] (oT 10) (oS ⟨#[105,110]⟩)),oA 12 11,oH 13 12 (.mv (oT 0)),oH 14 12 (.call ae [oT 13,oS ⟨#[40]⟩]),
 oB 15 (.pick (oT 12) (oT 14) (.const ob))] [0,2,3,15] [0,2] (.ite (oT 15) (oX [oA 16 0,oZ 17 az [oT 16],oB 18 (.build [oi,oe,oe,oe,oe,ob,on] [(0,1,oN 5),(1,1,oT 17)]),oB 4 (.alloc aH [oi,oe,oe,oe,oe,ob,on]),oF 7 4 18] [0,2,4] [0,2,4] (.seq (oX [oA 19 0,oZ 20 ae [oT 19,oS ⟨#[44]⟩]] [0,2,4,20] [0,2,4] (.ite (oT 20) (oX [oA 21 0,
 oZ 22 az [oT 21],oE 23 2 4,oF 1 23 22] [0,2,4] [0,2,4] (oX [oA 24 0,oB 25 (.bslice aF 1 [oS ⟨#[61]⟩]),oZ 26 ak [oT 24,oT 25]] [0,2,4] [0,2,4] (.reg [oA 27 0,oZ 28 aJ [oT 27,oN 4],oE 29 3 4,oF 1 29 28]))) (.skip))) (.keep [0,2,4] [0,2,4] (oX [oA 30 0,oB 31 (.bslice aF 1 [oS ⟨#[41]⟩]),
 oZ 32 ak [oT 30,oT 31]] [2,4] [0,2,4] (oX [oD 33 7 4,oF 7 2 33] [2] [0,2] (.ret)))))) (.skip))) (.keep [0,2,3] [0,2] (.seq (.block 0 (oX [oA 35 0,oB 36 (.bslice aF 1 [oS ⟨#[99,111,110,116,97,105,110,115]⟩]),oZ 37 bf [oT 35,oT 36],oA 34 37] [0,2,3,34] [0,2] (.ite (oT 34) (oX [oA 38 0,oZ 39 a5 [oT 38]] [0,2,3] [0,2] (oX [oA 40 3,
 oA 41 0,oZ 42 aJ [oT 41,oN 4],oB 43 (.build [oi,oe,oe,oe,oe,ob,on] [(0,1,oN 3),(1,1,oT 40),(3,1,oT 42)]),oF 7 2 43] [2] [0,2] (.ret))) (oX [oA 45 0,oZ 46 ae [oT 45,oS ⟨#[33,61]⟩],oA 44 46] [0,2,3,44] [0,2] (.ite (oT 44) (oX [oA 47 3,oA 48 0,oZ 49 aJ [oT 48,oN 4],oB 50 (.build [oi,oe,oe,oe,oe,ob,on] [(0,1,oN 2),(1,1,oT 47),(3,1,oT 49)]),
 oB 5 (.alloc aH [oi,oe,oe,oe,oe,ob,on]),oF 7 5 50] [0,2,5] [0,2,5] (oX [oA 51 0,oZ 52 bp [oT 51],oE 53 5 5,oF 1 53 52] [2,5] [0,2,5] (oX [oD 54 7 5,oB 55 (.bslice aH 7 [oT 54]),oB 56 (.build [oi,oe,oe,oe,oe,ob,on] [(0,1,oN 6),(6,1,oT 55)]),oF 7 2 56] [2] [0,2] (.ret)))) (.skip)))))) (.keep [0,2,3] [0,2] (oX [oA 57 0,oB 58 (.bslice aF 1 [oS ⟨#[61]⟩]),
 oZ 59 ak [oT 57,oT 58]] [0,2,3] [0,2] (.seq (oX [oA 60 0,oG 61 60,oE 62 2 61,oE 63 0 62,oC 64 1 63,oB 65 (.eql false false [.int] (oT 64) (oN 2))] [0,2,3,65] [0,2] (.ite (oT 65) (oX [oA 66 3,oA 67 0,oZ 68 az [oT 67],oB 69 (.build [oi,oe,oe,oe,oe,ob,on] [(0,1,oN 4),(1,1,oT 66),(4,1,oT 68)]),oB 6 (.alloc aH [oi,oe,oe,oe,oe,ob,on]),
 oF 7 6 69] [0,2,6] [0,2,6] (oX [oA 70 0,oB 71 (.bslice aF 1 [oS ⟨#[46]⟩]),oZ 72 ak [oT 70,oT 71]] [0,2,6] [0,2,6] (oX [oA 73 0,oZ 74 az [oT 73],oE 75 2 6,oF 1 75 74] [2,6] [0,2,6] (oX [oD 76 7 6,oF 7 2 76] [2] [0,2] (.ret))))) (.skip))) (.keep [0,2,3] [0,2] (oX [oA 77 3,oA 78 0,oZ 79 aJ [oT 78,oN 4],
 oB 80 (.build [oi,oe,oe,oe,oe,ob,on] [(0,1,oN 2),(1,1,oT 77),(3,1,oT 79)]),oB 7 (.alloc aH [oi,oe,oe,oe,oe,ob,on]),oF 7 7 80] [0,2,7] [0,2,7] (oX [oA 81 0,oZ 82 bp [oT 81],oE 83 5 7,oF 1 83 82] [2,7] [0,2,7] (oX [oD 84 7 7,oF 7 2 84] [2] [0,2] (.ret))))))))))))
def i9:List aI:= [.cell 2 true 7]
def wR:List Nat:= []
theorem wo:aR Tryz.prog eX wR jB i9 85:=aA ay (by kernel_rfl)
-- query_reader_query while id=0: live [0:r, 2:, 3:q] changed [] res [0, 2, 3, 55]
def jC:CC:=oX [oB 0 (.mv (.const on))] [] [] (oX [oB 1 (.bslice aF 1 [oS ⟨#[]⟩,oS ⟨#[119,105,116,104,105,110]⟩,oS ⟨#[99,111,110,116,97,105,110,105,110,103]⟩,oS ⟨#[111,118,101,114,108,97,112,112,105,110,103]⟩]),oA 0 1] [0] [] (.ret))
def ja:List aI:= [.tmp 0]
def wS:List Nat:= []
theorem wq:aR Tryz.prog cw wS jC ja 2:=aA ay (by kernel_rfl)
def ia:CC:=oX [oB 0 (.mv (.const on))] [] [] (oX [oB 1 (.bslice aF 1 [oS ⟨#[101,97,99,104]⟩,oS ⟨#[115,104,111,114,116,101,115,116]⟩,oS ⟨#[108,111,110,103,101,115,116]⟩,oS ⟨#[116,114,97,100,105,116,105,111,110,97,108]⟩]),oA 0 1] [0] [] (.ret))
def gZ:List aI:= [.tmp 0]
def uh:List Nat:= []
theorem t5:aR Tryz.prog cx uh ia gZ 2:=aA ay (by kernel_rfl)
def iJ:CC:= .reg [oA 2 0,oG 3 2,oE 4 2 3,oE 5 2 4,oC 6 1 5,oB 7 (.build [oi,oi] [(0,1,oT 6),(1,1,oN 3)]),oB 8 (.mkif aB (oT 7)),.op none none (.call dw [oT 8])]
def iD:List aI:= []
def vh:List Nat:= [300000]
theorem u6:aR Tryz.prog bc vh iJ iD 9:=aA ay (by kernel_rfl)
-- query_reader_number while id=0: live [1:most, 2:at, 7:s, 8:n, 9:i] changed [8, 9] res [0]
def ig:CC:=oX [oB 6 (.mv (oN 0))] [0,1,2] [0] (oX [oA 10 0,oZ 11 aJ [oT 10,oN 3],oA 7 11] [1,2,7] [0] (oX [oA 12 7,oZ 13 fL [oT 12,oS ⟨#[48]⟩],oA 7 13] [1,2,7] [0] (oX [oB 8 (.mv (oN 0))] [1,2,7,8] [0] (.seq (oX [oB 9 (.mv (oN 0))] [1,2,7,8,9] [0] (.block 0 (.loop 1 (.seq (oX [oA 14 9,oA 15 7,oB 16 (.slen (oT 15)),
 oB 17 (.cmp .lss (oT 14) (oT 16)),oA 18 17,oH 19 18 (.mv (oT 8)),oH 20 18 (.mv (oT 1)),oH 21 18 (.cmp .leq (oT 19) (oT 20)),oB 22 (.pick (oT 18) (oT 21) (.const ob))] [1,2,7,8,9,22] [0] (.ite (oT 22) (.skip) (.exit 0))) (.keep [1,2,7,8,9] [0] (.seq (.block 1 (.reg [oA 25 8,oB 26 (.arith .mul (oN 10) (oT 25)),oA 27 7,oA 28 9,oB 29 (.sidx (oT 27) (oT 28)),
 oB 30 (.arith .sub (oT 29) (.const (.int .u8 48))),oB 31 (.conv .i64 (oT 30)),oB 32 (.arith .add (oT 26) (oT 31)),oA 8 32])) (.keep [1,2,7,8,9] [0] (.reg [oA 23 9,oB 24 (.arith .add (oT 23) (oN 1)),oA 9 24])))))))) (.keep [1,2,8] [0] (.seq (oX [oA 33 8,oA 34 1,oB 35 (.cmp .gtr (oT 33) (oT 34))] [2,8,35] [0] (.ite (oT 35) (.reg [oA 36 2,oB 37 (.build [oi,oi] [(0,1,oT 36),(1,1,oN 8)]),
 oB 38 (.mkif aB (oT 37)),.op none none (.call dw [oT 38])]) (.skip))) (.keep [8] [0] (oX [oA 39 8,oA 6 39] [6] [0] (.ret)))))))))
def hM:List aI:= [.tmp 6]
def uk:List Nat:= [300000]
theorem t8:aR Tryz.prog bM uk ig hM 40:=aA ay (by kernel_rfl)
def kD:CC:=oX [oB 2 (.mv (oN 0))] [0] [0] (oX [oA 3 0,oA 4 0,oG 5 4,oE 6 2 5,oE 7 2 6,oC 8 1 7,oZ 9 bM [oT 3,oN 100000,oT 8],oA 2 9] [2] [0] (.ret))
def kj:List aI:= [.tmp 2]
def yh:List Nat:= []
theorem xV:aR Tryz.prog bT yh kD kj 10:=aA ay (by kernel_rfl)
def ib:CC:=oX [oB 2 (.mv (oN 0))] [0] [0] (.seq (oX [oA 3 0,oZ 4 ae [oT 3,oS ⟨#[45]⟩]] [0,4] [0] (.ite (oT 4) (oX [oA 5 0,oZ 6 bT [oT 5],oB 7 (.neg (oT 6)),oA 2 7] [2] [0] (.ret)) (.skip))) (.keep [0] [0] (oX [oA 8 0,oZ 9 bT [oT 8],oA 2 9] [2] [0] (.ret))))
def hG:List aI:= [.tmp 2]
def ui:List Nat:= []
theorem t6:aR Tryz.prog de ui ib hG 10:=aA ay (by kernel_rfl)
-- query_reader_gor while id=0: live [0:r, 2:, 3:l] changed [3] res [0, 2, 6, 13]
def kC:CC:=oX [oB 2 (.alloc aq [oi,oe,oe,oe,oe,oe,ob,oi,oi,on,on])] [0,2] [0,2,6,13] (oX [oA 4 0,oZ 5 dV [oT 4],oB 6 (.mslice aq 11 [oT 5]),oA 3 6] [0,2,3] [0,2,6,13] (.seq (.block 0 (.loop 1 (.seq (oX [oA 7 0,oZ 8 ae [oT 7,oS ⟨#[124]⟩]] [0,2,3,8] [0,2,6,13] (.ite (oT 8) (.skip) (.exit 0)))
 (.keep [0,2,3] [0,2,6,13] (.block 1 (.reg [oA 9 3,oA 10 0,oZ 11 dV [oT 10],oB 12 (.bslice aq 11 [oT 11]),oB 13 (.append (some 6) aq 11 160 (oT 9) (oT 12)),oA 3 13])))))) (.keep [2,3] [0,2,6,13] (oX [oA 14 3,.frz 14 11,oZ 15 fp [oN 13,oT 14],oF 11 2 15] [2] [0,2,6,13] (.ret)))))
def ki:List aI:= [.cell 2 true 11]
def yg:List Nat:= [100006,1013006]
theorem xU:aR Tryz.prog cK yg kC ki 16:=aA ay (by kernel_rfl)
-- query_reader_gand while id=0: live [0:r, 2:, 3:l] changed [3] res [0, 2, 6, 13]
def jz:CC:=oX [oB 2 (.alloc aq [oi,oe,oe,oe,oe,oe,ob,oi,oi,on,on])] [0,2] [0,2,6,13] (oX [oA 4 0,oZ 5 bw [oT 4],oB 6 (.mslice aq 11 [oT 5]),oA 3 6] [0,2,3] [0,2,6,13] (.seq (.block 0 (.loop 1 (.seq (oX [oA 7 0,oZ 8 ae [oT 7,oS ⟨#[38]⟩]] [0,2,3,8] [0,2,6,13] (.ite (oT 8) (.skip) (.exit 0)))
 (.keep [0,2,3] [0,2,6,13] (.block 1 (.reg [oA 9 3,oA 10 0,oZ 11 bw [oT 10],oB 12 (.bslice aq 11 [oT 11]),oB 13 (.append (some 6) aq 11 160 (oT 9) (oT 12)),oA 3 13])))))) (.keep [2,3] [0,2,6,13] (oX [oA 14 3,.frz 14 11,oZ 15 fp [oN 12,oT 14],oF 11 2 15] [2] [0,2,6,13] (.ret)))))
def i6:List aI:= [.cell 2 true 11]
def wP:List Nat:= [100006,1013006]
theorem wm:aR Tryz.prog dV wP jz i6 16:=aA ay (by kernel_rfl)
def jy:CC:=oX [oB 2 (.alloc aq [oi,oe,oe,oe,oe,oe,ob,oi,oi,on,on])] [0,2] [0,2] (.seq (.block 0 (oX [oA 5 0,oZ 6 ae [oT 5,oS ⟨#[33]⟩],oA 4 6] [0,2,4] [0,2] (.ite (oT 4) (oX [oA 7 0,oZ 8 bw [oT 7],oB 9 (.bslice aq 11 [oT 8]),oB 10 (.build [oi,oe,oe,oe,oe,oe,ob,oi,oi,on,on] [(0,1,oN 11),(10,1,oT 9)]),
 oF 11 2 10] [2] [0,2] (.ret)) (oX [oA 12 0,oZ 13 ae [oT 12,oS ⟨#[40]⟩],oA 11 13] [0,2,11] [0,2] (.ite (oT 11) (oX [oA 14 0,oZ 15 cK [oT 14],oB 3 (.alloc aq [oi,oe,oe,oe,oe,oe,ob,oi,oi,on,on]),oF 11 3 15] [0,2,3] [0,2,3] (oX [oA 16 0,oB 17 (.bslice aF 1 [oS ⟨#[41]⟩]),oZ 18 ak [oT 16,oT 17]] [2,3] [0,2,3] (oX [
 oD 19 11 3,oF 11 2 19] [2] [0,2] (.ret)))) (.skip)))))) (.keep [0,2] [0,2] (oX [oA 20 0,oZ 21 eC [oT 20],oF 11 2 21] [2] [0,2] (.ret))))
def i5:List aI:= [.cell 2 true 11]
def wO:List Nat:= []
theorem wl:aR Tryz.prog bw wO jy i5 22:=aA ay (by kernel_rfl)
def iL:CC:=oX [oB 2 (.alloc aq [oi,oe,oe,oe,oe,oe,ob,oi,oi,on,on])] [0,2] [0,2] (oX [oA 7 0,oZ 8 az [oT 7],oA 3 8] [0,2,3] [0,2] (.seq (oX [oA 9 3,oZ 10 gP [oT 9],oA 4 10] [0,2,3,4] [0,2] (oX [oA 11 4,oB 12 (.cmp .gtr (oT 11) (oN 0)),oA 13 12,oH 14 13 (.mv (oT 0)),oH 15 13 (.call ae [oT 14,oS ⟨#[40]⟩]),
 oB 16 (.pick (oT 13) (oT 15) (.const ob))] [0,2,3,4,16] [0,2] (.ite (oT 16) (oX [oA 17 0,oA 18 4,oA 19 0,oZ 20 az [oT 19],oB 21 (.build [oi,oe,oe,oe,oe,oe,ob,oi,oi,on,on] [(0,1,oT 18),(1,1,oT 20)]),oZ 22 dj [oT 17,oT 21],oB 5 (.alloc aq [oi,oe,oe,oe,oe,oe,ob,oi,oi,on,on]),oF 11 5 22] [0,2,5] [0,2,5] (oX [oA 23 0,
 oB 24 (.bslice aF 1 [oS ⟨#[41]⟩]),oZ 25 ak [oT 23,oT 24]] [2,5] [0,2,5] (oX [oD 26 11 5,oF 11 2 26] [2] [0,2] (.ret)))) (.skip)))) (.keep [0,2,3] [0,2] (oX [oA 27 0,oB 28 (.bslice aF 1 [oS ⟨#[46]⟩]),oZ 29 ak [oT 27,oT 28]] [0,2,3] [0,2] (oX [oA 30 3,oA 31 0,oZ 32 az [oT 31],
 oB 33 (.build [oi,oe,oe,oe,oe,oe,ob,oi,oi,on,on] [(0,1,oN 2),(1,1,oT 30),(3,1,oT 32)]),oB 6 (.alloc aq [oi,oe,oe,oe,oe,oe,ob,oi,oi,on,on]),oF 11 6 33] [0,2,6] [0,2,6] (oX [oA 34 0,oB 35 (.bslice aF 1 [oS ⟨#[61]⟩]),oZ 36 ak [oT 34,oT 35]] [0,2,6] [0,2,6] (.seq (oX [oA 37 0,oG 38 37,oE 39 2 38,oE 40 0 39,oC 41 1 40,
 oB 42 (.eql false false [.int] (oT 41) (oN 2))] [0,2,6,42] [0,2,6] (.ite (oT 42) (oX [oA 43 0,oZ 44 az [oT 43],oE 45 0 6,.op none none (.store none 1 (oT 45) (oN 3)),oE 46 2 6,oF 1 46 44] [0,2,6] [0,2,6] (oX [oA 47 0,oB 48 (.bslice aF 1 [oS ⟨#[46]⟩]),oZ 49 ak [oT 47,oT 48]] [0,2,6] [0,2,6] (oX [oA 50 0,oZ 51 az [oT 50],
 oE 52 4 6,oF 1 52 51] [2,6] [0,2,6] (oX [oD 53 11 6,oF 11 2 53] [2] [0,2] (.ret))))) (.skip))) (.keep [0,2,6] [0,2,6] (oX [oA 54 0,oZ 55 aJ [oT 54,oN 4],oE 56 5 6,oF 1 56 55] [0,2,6] [0,2,6] (oX [oA 57 0,oZ 58 bp [oT 57],oE 59 6 6,oF 1 59 58] [2,6] [0,2,6] (oX [oD 60 11 6,oF 11 2 60] [2] [0,2] (.ret))))))))))))
def iF:List aI:= [.cell 2 true 11]
def vj:List Nat:= []
theorem u9:aR Tryz.prog eC vj iL iF 61:=aA ay (by kernel_rfl)
-- query_reader_arguments while id=0: live [0:r, 3:g, 4:] changed [] res [0, 3, 4, 59]
def f5:CC:=oX [oB 3 (.box aq false (oT 1)),oB 4 (.alloc aq [oi,oe,oe,oe,oe,oe,ob,oi,oi,on,on])] [0,3,4] [0,3,4,59] (.seq (oX [oE 5 0 3,oC 6 1 5] [0,3,4,6] [0,3,4,59] (.block 0 (oX [oB 8 (.eql false false [.int] (oT 6) (oN 1)),oA 7 8] [0,3,4,6,7] [0,3,4,59] (.ite (oT 7) (oX [oD 9 11 3,oF 11 4 9] [4] [0,4,59] (.ret)) (oX [
 oB 11 (.eql false false [.int] (oT 6) (oN 10)),oA 10 11] [0,3,4,10] [0,3,4,59] (.ite (oT 10) (oX [oA 12 0,oB 13 (.bslice aF 1 [oS ⟨#[44]⟩]),oZ 14 ak [oT 12,oT 13]] [0,3,4] [0,3,4,59] (oX [oA 15 0,oZ 16 bT [oT 15],oE 17 7 3,oF 1 17 16] [0,3,4] [0,3,4,59] (oX [oA 18 0,oB 19 (.bslice aF 1 [oS ⟨#[44]⟩]),
 oZ 20 ak [oT 18,oT 19]] [0,3,4] [0,3,4,59] (oX [oA 21 0,oZ 22 bT [oT 21],oE 23 8 3,oF 1 23 22] [3,4] [0,3,4,59] (oX [oD 24 11 3,oF 11 4 24] [4] [0,4,59] (.ret)))))) (.skip))))))) (.keep [0,3,4] [0,3,4,59] (oX [oA 25 0,oZ 26 dC [oT 25],oE 27 2 3,oF 1 27 26] [0,3,4] [0,3,4,59] (iB 12 (oX [oE 28 0 3,
 oC 29 1 28] [0,3,4,29] [0,3,4,59] (.block 1 (oX [oB 31 (.eql false false [.int] (oT 29) (oN 4)),oA 30 31] [0,3,4,29,30] [0,3,4,59] (.ite (oT 30) (oX [oA 32 0,oB 33 (.bslice aF 1 [oS ⟨#[44]⟩]),oZ 34 ak [oT 32,oT 33]] [0,3,4] [0,3,4,59] (oX [oA 35 0,oZ 36 de [oT 35],oE 37 7 3,oF 1 37 36] [0,3,4] [0,3,4,59] (oX [oA 38 0,
 oB 39 (.bslice aF 1 [oS ⟨#[44]⟩]),oZ 40 ak [oT 38,oT 39]] [0,3,4] [0,3,4,59] (.reg [oA 41 0,oZ 42 de [oT 41],oE 43 8 3,oF 1 43 42])))) (.seq (oX [oB 45 (.eql false false [.int] (oT 29) (oN 5)),oA 44 45] [0,3,4,29,44] [0,3,4,59] (.ite (oT 44) (.skip) (.reg [oB 46 (.eql false false [.int] (oT 29) (oN 9)),oA 44 46])))
 (.keep [0,3,4,29,44] [0,3,4,59] (.ite (oT 44) (.reg [oA 47 0,oZ 48 dC [oT 47],oE 49 3 3,oF 1 49 48]) (oX [oB 51 (.eql false false [.int] (oT 29) (oN 8)),oA 50 51] [0,3,4,50] [0,3,4,59] (.ite (oT 50) (.block 2 (.loop 1 (.seq (oX [oA 52 0,oZ 53 ae [oT 52,oS ⟨#[44]⟩]] [0,3,4,53] [0,3,4,59] (.ite (oT 53) (.skip) (.exit 2)))
 (.keep [0,3,4] [0,3,4,59] (.block 3 (.regd [oE 54 9 3,oC 55 1 54,oA 56 0,oB 57 (.callb 0 aJ [oT 56,oN 4]),oB 58 (.bslice aF 1 [oT 57])] [oB 59 (.append (some 59) aF 1 16 (oT 55) (oT 58)),oE 60 9 3,.op none none (.store (some 3) 1 (oT 60) (oT 59))])))))) (.skip)))))))))) (.keep [3,4] [0,3,4,59] (oX [oD 61 11 3,oF 11 4 61] [4] [0,4,59] (.ret)))))))
def fY:List aI:= [.cell 4 true 11]
def rB:List Nat:= [3057000,1059059,2060003]
theorem rr:aR Tryz.prog dj rB f5 fY 62:=aA ay (by kernel_rfl)
def mZ:CC:=oX [oB 2 (.mv (oN 0))] [0] [] (.seq (oX [oA 3 0] [3] [] (.block 0 (oX [oB 5 (.eql false false [.str] (oT 3) (oS ⟨#[98,111,117,110,100]⟩)),oA 4 5] [3,4] [] (.ite (oT 4) (oX [oB 2 (.mv (oN 1))] [2] [] (.ret)) (oX [oB 7 (.eql false false [.str] (oT 3) (oS ⟨#[100,105,115,116,97,110,99,101]⟩)),oA 6 7] [3,6] [] (.ite (oT 6) (oX [oB 2 (.mv (oN 4))] [2] [] (.ret))
 (oX [oB 9 (.eql false false [.str] (oT 3) (oS ⟨#[115,97,109,101]⟩)),oA 8 9] [3,8] [] (.ite (oT 8) (oX [oB 2 (.mv (oN 5))] [2] [] (.ret)) (oX [oB 11 (.eql false false [.str] (oT 3) (oS ⟨#[104,101,97,100]⟩)),oA 10 11] [3,10] [] (.ite (oT 10) (oX [oB 2 (.mv (oN 6))] [2] [] (.ret)) (oX [oB 13 (.eql false false [.str] (oT 3) (oS ⟨#[97,110,99,101,115,116,111,114]⟩)),
 oA 12 13] [3,12] [] (.ite (oT 12) (oX [oB 2 (.mv (oN 7))] [2] [] (.ret)) (oX [oB 15 (.eql false false [.str] (oT 3) (oS ⟨#[112,97,116,104]⟩)),oA 14 15] [3,14] [] (.ite (oT 14) (oX [oB 2 (.mv (oN 8))] [2] [] (.ret)) (oX [oB 17 (.eql false false [.str] (oT 3) (oS ⟨#[110,111,100,101]⟩)),oA 16 17] [3,16] [] (.ite (oT 16) (oX [oB 2 (.mv (oN 9))] [2] [] (.ret)) (oX [
 oB 19 (.eql false false [.str] (oT 3) (oS ⟨#[100,101,112,116,104]⟩)),oA 18 19] [18] [] (.ite (oT 18) (oX [oB 2 (.mv (oN 10))] [2] [] (.ret)) (.skip))))))))))))))))))) (.keep [] [] (oX [oB 2 (.mv (oN 0))] [2] [] (.ret))))
def mw:List aI:= [.tmp 2]
def Bi:List Nat:= []
theorem AX:aR Tryz.prog gP Bi mZ mw 20:=aA ay (by kernel_rfl)
end Go.Gv

namespace Go.Gv
open Cod (enc dec)
variable {S S0:Nat→Spc}
abbrev O3:Spc:=dG (a1 Cond) (fun _=> True) (enc (X:=Bool)) fun x y=> (y=true↔x=Cond0)
theorem Kk:Walk ss r9 S (a1 Cond) (fun _=> True) (enc (X:=Bool)) fun x y=> (y=true↔x=Cond0):=by
 rintro⟨op,n,a,v,l,f,ks⟩ -
 simp[ss,r9,Cond0]
 repeat' first | apply And.intro | intro _
 all_goals simp_all
abbrev KQ:Spc:=dG (a1 Pat) (fun _=> True) (enc (X:=Bool)) fun x y=> y=nc x
theorem Kn (h1:S mJ=O3):Walk sw se S (a1 Pat) (fun _=> True) (enc (X:=Bool)) fun x y=> y=nc x:=by
 rintro p -
 simp[sw,se,h1, -Bool.forall_bool]
 clear h1
 repeat' first | apply And.intro | intro _
 all_goals (rw[Bool.eq_iff_iff,CO];unfold Dz;simp_all;try omega)
abbrev EW:Spc:=dG (a1 Pat) (fun _=> True) (enc (X:=Bool)) fun x y=> y=A3 eL x
theorem Is (h1:S ei=FW):Walk qP qj S (a1 Pat) (fun _=> True) (enc (X:=Bool)) fun x y=> y=A3 eL x:=by
 rintro p -
 simp[qP,qj,h1,A3, -Bool.forall_bool]
 clear h1
 repeat' first | apply And.intro | intro _
 all_goals (first | omega | simp_all;try omega)
abbrev Aw:Spc:=dG (a1 Pat) (fun _=> True) (enc (X:=Bool)) fun x y=> y=CN x
theorem Fl:Walk pp o9 S (a1 Pat) (fun _=> True) (enc (X:=Bool)) fun x y=> y=CN x:=by
 rintro p -
 simp[pp,o9,CN]
 repeat' first | apply And.intro | intro _
 all_goals (first | omega | (rw[Bool.eq_iff_iff];simp;omega))
end Go.Gv

namespace Go.Gv
open Cod (enc dec)
variable {S S0:Nat→Spc}
theorem Kl (n:Nat) (h1:S ff=O7 n):Walk su sa S (a1 Pat) (PPat (n+1)) (enc (X:=Int)) fun x y=> y=l9 x:=by
 rintro p hp
 have hk: ∀k∈p.kids,PPat n k:=fun k=> hp.kid
 have hs: ∀k∈p.kids,0≤l9 k∧l9 k≤1000:=fun k h=> RZ (v:=eL) k (hk k h).2
 simp[su,sa]
 intro _
 refine aO (X:=Int) [1,7] [] p.kids.length (fun k n=> n=iA (p.kids.take k) 0) (fun n=> [(3,enc n)]) (fun _=> []) 0 (by simp) (by simp) (by omega) (by simp) (by simp) (by simp[iA]) (by simp) (by simp) ?_ ?_
 ·rintro k m hkl hP
  obtain⟨x,hx⟩:=cP hkl
  have hx1:=cn hx
  obtain⟨_,hgx⟩:=List.getElem?_eq_some_iff.1 hx
  have hm:=tF (p.kids.take k) 0 (by omega) (by omega) (fun y hy=> (hs y (List.mem_of_mem_take hy)).1)
  have h2:=hs x hx1
  rw[←hP] at hm
  have q1:=hk x hx1
  simp[h1,hkl,hx,hgx,q1]
  refine⟨by simp only[InR];omega,?_⟩
  rw[cC hx,OZ,←hP,iA,iA]
 ·rintro m hP
  have hm:=tF (p.kids.take p.kids.length) 0 (by omega) (by omega) (fun y hy=> (hs y (List.mem_of_mem_take hy)).1)
  rw[←hP] at hm
  rw[List.take_length] at hP
  have hn:=(Jy hp.2).2.2
  unfold CN at hn
  rw[decide_eq_true_eq] at hn
  rw[sL,DI,←hP]
  simp
  intro _
  refine⟨fun h=> fun h'=> absurd h h',fun h0=> ⟨fun h6=> ?_,fun h6=> by rw[if_neg h0,if_neg h6]⟩⟩
  rw[if_neg h0,if_pos h6]
  have hn:=hn h6
  refine⟨fun e=> by rw[if_neg (by omega),if_pos e],fun e=> ⟨fun e2=> ?_,fun e2=> ?_⟩⟩
  ·have h2:=QP hm.1 hm.2 (show 0≤p.mn+1 by omega) (show p.mn+1≤17 by omega)
   rw[if_pos (by omega)]
   exact⟨by simp only[InR];omega,by simp only[InR];omega,rfl⟩
  ·have h2:=QP hm.1 hm.2 (show 0≤p.mx by omega) (show p.mx≤16 by omega)
   rw[if_neg (by omega),if_neg e]
   exact⟨by simp only[InR];omega,rfl⟩
theorem Ko (h1:S kN=o3) (h2:S ff=KH):Walk sx sf S (a1 Pat) (fun _=> True) (enc (X:=Int)) fun x y=> y=if sU eL x then l9 x else 0:=by
 rintro p -
 simp[sx,sf,h1,h2, -Bool.forall_bool]
 exact⟨fun h1 h2=> absurd (h1.symm.trans h2) (by simp),fun h1=> ⟨h1,fun h2=> absurd (h2.symm.trans h1) (by simp)⟩⟩
end Go.Gv

namespace Go.Gv
open Cod (enc dec)
variable {S S0:Nat→Spc}
def FunOn {X Y:Type} [Cod X] [Cod Y] (S:Nat→Spc) (d:D) (l:List X) (p:X→Y):Prop:=
 ∃g caps pc,d= .clo g caps∧S g= .pure pc∧ ∀x∈l,pc.pre (enc x::caps)∧ ∀r,pc.post (enc x::caps) r→r=enc (p x)
theorem FunOn.useB {X:Type} [Cod X] {S:Nat→Spc} {d:D} {l:List X} {p:X→Bool} (h:FunOn S d l p) (x:X) (hx:x∈l) {d':Nat} {H:ab} {K:D→ab→Prop} (hk: ∀y:Bool,(∀q,FunOn S d l q→y=q x)→K (.v (.bool y)) H):Bx S d d' [enc x] H K:=by
 obtain⟨g,caps,pc,rfl,h1,h2⟩:=h
 simp only[Bx,h1,Spc.pt]
 refine⟨(h2 x hx).1,fun r hr=> ?_⟩
 have e:=(h2 x hx).2 r hr
 rw[e]
 refine hk (p x) fun q hq=> ?_
 obtain⟨g',caps',pc',e',k1,k2⟩:=hq
 cases e'
 rw[h1] at k1
 cases k1
 exact jP (e.symm.trans ((k2 x hx).2 r hr))
theorem FunIs.on {X Y:Type} [Cod X] [Cod Y] {S:Nat→Spc} {d:D} {p:X→Y} (h:FunIs S d p) (l:List X):FunOn S d l p:=by
 obtain⟨g,caps,pc,h1,h2,h3⟩:=h
 exact⟨g,caps,pc,h1,h2,fun x _=> h3 x⟩
theorem JN {X Y:Type} [Cod X] [Cod Y] {S:Nat→Spc} {g:Nat} {c:D} {l:List X} {pre:X×D×Unit→Prop} {post:X×D×Unit→Y→Prop} {p:X→Y} (h:S g=dG (aE X (aD a0)) pre enc post) (hp: ∀x∈l,pre (x,c,())) (hq: ∀x∈l,∀y,post (x,c,()) y→y=p x):FunOn S (.clo g [c]) l p:=by
 refine⟨g, [c],_,rfl,h,fun x hx=> ⟨⟨(x,c,()),by simp,hp x hx⟩,fun r hr=> ?_⟩⟩
 obtain⟨y,rfl,hy⟩:=hr (x,c,()) (by simp) (hp x hx)
 rw[hq x hx y hy]
theorem QJ (x:Pat):D.agg [D.v (Value.int IntKind.i64 x.op),D.v (Value.int IntKind.i64 x.cond.op),D.v (Value.string x.cond.name),D.v (Value.string x.cond.arg),D.v (Value.string x.cond.val),D.v (Value.string x.cond.lab),D.v (Value.bool x.cond.fold),D.list 7 (List.map enc x.cond.kids),D.v (Value.string x.lab),D.v (Value.string x.reg),D.v (Value.int IntKind.i64 x.mn),D.v (Value.int IntKind.i64 x.mx),D.list 13 (List.map enc x.kids)]=enc x:=by simp
def Ma (S0:Nat→Spc) (x:List Pat×D×Unit):Prop:= ∃p:Pat→Bool,FunOn S0 x.2.1 x.1 p
def Xb (S0:Nat→Spc) (x:List Pat×D×Unit) (y:Int):Prop:= ∀p:Pat→Bool,FunOn S0 x.2.1 x.1 p→y=wW x.1 p
abbrev UK (S0:Nat→Spc):Spc:=dG (aE (List Pat) (aD a0)) (Ma S0) enc (Xb S0)
theorem pW:Walk fh fa S (aE (List Pat) (aD a0)) (Ma S) enc (Xb S):=by
 rintro⟨l,d,⟨⟩⟩ ⟨p,hp⟩
 simp at hp
 simp[fh,fa]
 intro _
 refine aO (X:=Unit) [0,1] [] l.length (fun k _=> ∀p:Pat→Bool,FunOn S d l p→ ∀x∈l.take k,p x=false) (fun _=> []) (fun _=> []) () (by simp) (by simp) (by omega) (by simp) (by simp) (by simp) (by simp) (by simp) ?_ ?_
 ·intro k _ hk hP
  simp
  refine⟨hk,fun x hx=> ?_⟩
  rw[QJ x]
  refine hp.useB x (cn hx) fun y hy=> ?_
  simp
  refine⟨fun h=> ?_,fun h p' hp'=> ?_⟩
  ·intro p' hp'
   exact(LG hx (by rw[←hy p' hp',h]) (hP p' hp')).symm
  ·rw[cC hx]
   intro z hz
   rcases List.mem_append.1 hz with hz | hz
   ·exact hP p' hp' z hz
   ·simp at hz;subst hz;rw[←hy p' hp',h]
 ·intro _ hP
  simp
  intro p' hp'
  exact(Dc (by simpa using hP p' hp')).symm
def Xc (S0:Nat→Spc) (x:List Pat×D×Unit) (y:Bool):Prop:= ∀p:Pat→Bool,FunOn S0 x.2.1 x.1 p→y=x.1.any p
abbrev zd (S0:Nat→Spc):Spc:=dG (aE (List Pat) (aD a0)) (Ma S0) enc (Xc S0)
theorem oa (h1:S dN=UK S0):Walk en ed S (aE (List Pat) (aD a0)) (Ma S0) enc (Xc S0):=by
 rintro⟨l,d,⟨⟩⟩ hp
 simp[en,ed,h1, -Bool.forall_bool]
 refine⟨hp,fun y hy p' hp'=> ?_⟩
 rw[hy p' hp']
 exact QZ p' l
abbrev B0 (n:Nat):Spc:=dG (a2 Pat Int) (fun x=> fb x.1≤n∧0≤x.2∧x.2≤101) (enc (X:=Bool)) fun x y=> y=cJ x.1 x.2
def ZG (n:Nat) (x:Pat×D×Unit):Prop:= ∃d:Int,x.2.1= .cptr [enc d] 0∧fb x.1≤n∧0≤d∧d≤100
def W0 (x:Pat×D×Unit) (y:Bool):Prop:= ∀d:Int,x.2.1= .cptr [enc d] 0→y=!cJ x.1 (d+1)
abbrev UG (n:Nat):Spc:=dG (aE Pat (aD a0)) (ZG n) enc W0
theorem Ab (n:Nat) (h1:S du=B0 n):Walk lH lj S (aE Pat (aD a0)) (ZG n) enc W0:=by
 rintro⟨p,d,⟨⟩⟩ ⟨e,hd,h2,h3,h4⟩
 simp at hd h2
 subst hd
 simp[lH,lj,h1,W0,h2, -Bool.forall_bool]
 exact⟨by simp only[InR];omega,by omega⟩
theorem Eb (n:Nat) (h0:S0 eJ=UG n) (h1:S aP=zd S0):Walk nN nt S (a2 Pat Int) (fun x=> fb x.1≤n+1∧0≤x.2∧x.2≤101) (enc (X:=Bool)) fun x y=> y=cJ x.1 x.2:=by
 rintro⟨p,d⟩ ⟨hn,hd0,hd1⟩
 have hk: ∀k∈p.kids,fb k≤n:=fun k hk=> by have:=mD hk;have:fb p≤n+1:=hn;omega
 simp only at hd0 hd1
 simp[nN,nt,h1, -Bool.forall_bool]
 rw[lN]
 refine⟨fun h=> ?_,fun h=> by rw[decide_eq_false (by omega)];rfl⟩
 have hf:FunOn S0 (.clo eJ [.cptr [.v (.int .i64 d)] 0]) p.kids fun x=> !cJ x (d+1):=
  JN h0 (fun x hx=> ⟨d,rfl,hk x hx,hd0,h⟩) (fun x _ y hy=> hy d rfl)
 refine⟨⟨_,hf⟩,fun y hy=> ?_⟩
 rw[hy _ hf,decide_eq_true h,Bool.true_and]
 simp[List.any_eq_not_all_not]
def ZH (S0:Nat→Spc) (n:Nat) (x:Pat×D×Unit):Prop:= ∃ (d:D) (f:Pat→Bool),x.2.1= .cptr [d] 0∧FunIs S0 d f∧fb x.1≤n
def Xa (S0:Nat→Spc) (x:Pat×D×Unit) (y:Bool):Prop:= ∀ (d:D) (f:Pat→Bool),x.2.1= .cptr [d] 0→FunIs S0 d f→y=!fg f x.1
abbrev KW (S0:Nat→Spc) (n:Nat):Spc:=dG (aE Pat (aD a0)) (fun x=> ∃f:Pat→Bool,FunIs S0 x.2.1 f∧fb x.1≤n) enc fun x y=> ∀f:Pat→Bool,FunIs S0 x.2.1 f→y=fg f x.1
abbrev UI (S0:Nat→Spc) (n:Nat):Spc:=dG (aE Pat (aD a0)) (ZH S0 n) enc (Xa S0)
theorem Ed (n:Nat) (h1:S cv=KW S0 n):Walk nO nu S (aE Pat (aD a0)) (ZH S0 n) enc (Xa S0):=by
 rintro⟨p,d,⟨⟩⟩ ⟨e,f,hd,h2,h3⟩
 simp at hd h3
 subst hd
 simp[nO,nu,h1,Xa,h3, -Bool.forall_bool]
 exact⟨⟨f,h2⟩,fun y hy d g e hg=> by subst e;exact hy g hg⟩
theorem Iv {N:Nat→Spc} (n:Nat) (hN: ∀ (d:D) (f:Pat→Bool),FunIs N d f→FunIs S d f) (h0:S0 f6=UI N n) (h1:S aP=zd S0):Walk qT qn S (aE Pat (aD a0)) (fun x=> ∃f:Pat→Bool,FunIs N x.2.1 f∧fb x.1≤n+1) enc fun x y=> ∀f:Pat→Bool,FunIs N x.2.1 f→y=fg f x.1:=by
 rintro⟨p,d,⟨⟩⟩ ⟨f,hf,hn⟩
 have hk: ∀k∈p.kids,fb k≤n:=fun k hk=> by have:=mD hk;have:fb p≤n+1:=hn;omega
 simp at hf
 have hd1:d.kn=true∧d.cells= [d]:=by obtain⟨g,caps,pc,rfl,_⟩:=hf;exact⟨rfl,rfl⟩
 simp[qT,qn,h1,hd1, -Bool.forall_bool]
 rw[QJ p]
 refine((hN d f hf).on [p]).useB p (by simp) fun y hy=> ?_
 have hy: ∀f,FunIs N d f→y=f p:=fun f hf=> hy f ((hN d f hf).on [p])
 simp[h1, -Bool.forall_bool]
 refine⟨fun ht=> ?_,fun hff g hg=> by rw[f8,←hy g hg,hff];rfl⟩
 have hO: ∀g,FunIs N d g→FunOn S0 (.clo f6 [.cptr [d] 0]) p.kids fun x=> !fg g x:=fun g hg=>
  JN h0 (fun x hx=> ⟨d,g,rfl,hg,hk x hx⟩) (fun x _ y hy=> hy d g rfl hg)
 refine⟨⟨_,hO f hf⟩,fun z hz g hg=> ?_⟩
 rw[hz _ (hO g hg),f8,←hy g hg,ht,Bool.true_and]
 simp[List.any_eq_not_all_not]
abbrev yR:Spc:=dG (a2 Pat Int) (fun x=> 0≤x.2∧x.2≤101) (enc (X:=Bool)) fun x y=> y=cJ x.1 x.2
abbrev vO (N:Nat→Spc):Spc:=dG (aE Pat (aD a0)) (fun x=> ∃f:Pat→Bool,FunIs N x.2.1 f) enc fun x y=> ∀f:Pat→Bool,FunIs N x.2.1 f→y=fg f x.1
abbrev AA:Spc:=dG (a1 Pat) (fun _=> True) (enc (X:=Bool)) fun x y=> y=(cJ x 1 && fg nc x)
theorem ti {X:Type} [Cod X] {S:Nat→Spc} {g:Nat} {pre:X→Prop} {p:X→Bool} (h:S g=dG (a1 X) pre enc fun x y=> y=p x) (hp: ∀x,pre x):FunIs S (.clo g []) p:=by
 refine⟨g, [],_,rfl,h,fun x=> ⟨⟨x,by simp,hp x⟩,fun r hr=> ?_⟩⟩
 obtain⟨y,rfl,hy⟩:=hr x (by simp) (hp x)
 rw[hy]
theorem Iz {N:Nat→Spc} (h0:N hU=KQ) (h1:S du=yR) (h2:S cv=vO N):Walk qY qs S (a1 Pat) (fun _=> True) (enc (X:=Bool)) fun x y=> y=(cJ x 1 && fg nc x):=by
 rintro p -
 have f1:FunIs N (.clo hU []) nc:=ti h0 fun _=> trivial
 simp[qY,qs,h1,h2, -Bool.forall_bool]
 refine⟨fun h=> ⟨⟨_,f1⟩,fun y hy=> by rw[hy _ f1,h];rfl⟩,fun h h'=> absurd (h.symm.trans h') (by simp)⟩
theorem Ir {N:Nat→Spc} (h0:N gB=EW) (h0':N fM=Aw) (h1:S ft=AA) (h2:S cv=vO N):Walk qO qi S (a1 Pat) (fun _=> True) (enc (X:=Bool)) fun x y=> y=sU eL x:=by
 rintro p -
 have f1:FunIs N (.clo gB []) (A3 eL):=ti h0 fun _=> trivial
 have f2:FunIs N (.clo fM []) CN:=ti h0' fun _=> trivial
 simp[qO,qi,h1,h2, -Bool.forall_bool]
 unfold sU
 refine⟨fun h1 h2=> ⟨⟨_,f1⟩,fun y hy=> ?_⟩,fun h=> ?_⟩
 ·have hy:=hy _ f1
  refine⟨fun ht=> ⟨⟨_,f2⟩,fun z hz=> ?_⟩,fun hf=> ?_⟩
  ·rw[hz _ f2,h1,h2,←hy,ht];rfl
  ·rw[←hy,hf];simp
 ·rcases hs:cJ p 1
  ·rfl
  ·rw[h hs];rfl
end Go.Gv

namespace Go.Gv
open Cod (enc dec)
variable {S S0:Nat→Spc}
abbrev pY:Spc:=dG (a1 U8) (fun _=> True) (enc (X:=Bool)) fun x y=> y=CQ x
theorem Fo:Walk pr pd S (a1 U8) (fun _=> True) (enc (X:=Bool)) fun x y=> y=CQ x:=by
 rintro⟨c⟩ -
 simp[pr,pd,CQ,tr]
 repeat' first | apply And.intro | intro _
 all_goals first | omega | (rw[Bool.eq_iff_iff];simp;omega)
abbrev ni:Spc:=dG (a1 U8) (fun _=> True) (enc (X:=Bool)) fun x y=> y=pP x
theorem Iw:Walk qU qo S (a1 U8) (fun _=> True) (enc (X:=Bool)) fun x y=> y=pP x:=by
 rintro⟨c⟩ -
 simp[qU,qo,pP]
 repeat' first | apply And.intro | intro _
 all_goals first | omega | (rw[Bool.eq_iff_iff];simp;omega)
abbrev B6:Spc:=dG (a1 U8) (fun _=> True) (enc (X:=Bool)) fun x y=> y=Tu x
theorem Iu:Walk qR ql S (a1 U8) (fun _=> True) (enc (X:=Bool)) fun x y=> y=Tu x:=by
 rintro⟨c⟩ -
 simp[qR,ql,Tu]
 repeat' first | apply And.intro | intro _
 all_goals first | omega | (rw[Bool.eq_iff_iff];simp;omega)
abbrev FZ:Spc:=dG (a1 U8) (fun _=> True) (enc (X:=Bool)) fun x y=> y=EA x
theorem It (h1:S eD=pY) (h2:S ch=ni):Walk qQ qk S (a1 U8) (fun _=> True) (enc (X:=Bool)) fun x y=> y=EA x:=by
 rintro⟨c⟩ -
 simp[qQ,qk,h1,h2,EA, -Bool.forall_bool]
 rcases CQ ⟨c⟩ <;> rcases pP ⟨c⟩ <;> simp
def Ot (S0:Nat→Spc) (x:B×Int×D×Unit):Prop:=(∃p:U8→Bool,FunIs S0 x.2.2.1 p)∧0≤x.2.1∧x.2.1≤x.1.size
def Rl (S0:Nat→Spc) (x:B×Int×D×Unit) (y:Int):Prop:= ∀p:U8→Bool,FunIs S0 x.2.2.1 p→y=o5 p x.1 x.2.1.toNat
abbrev KO (S0:Nat→Spc):Spc:=dG (aE B (aE Int (aD a0))) (Ot S0) enc (Rl S0)
theorem Mu:Walk uA tU S (aE B (aE Int (aD a0))) (Ot S) enc (Rl S):=by
 rintro⟨s,i,d,⟨⟩⟩ ⟨⟨p,hp⟩,h0,h1⟩
 simp only at hp h0 h1
 simp[uA,tU]
 refine cy (X:=Nat) [0,2] [] (fun k=> k≤s.size∧ ∀q:U8→Bool,FunIs S d q→o5 q s k=o5 q s i.toNat) (fun k=> [(1,enc (k:Int))]) (fun _=> []) (fun k=> s.size -k) i.toNat ⟨by omega,fun _ _=> rfl⟩ (by simp;omega) (by simp) ?_
 rintro k ⟨hk,hq⟩
 simp
 refine fun hsz=> ⟨fun hlt=> ⟨hlt,fun c hc=> ?_⟩,fun hge q hf=> ?_⟩
 ·refine hp.useB (⟨c.toNat⟩:U8) fun y hy=> ?_
  simp
  refine⟨fun hb=> ⟨by simp only[InR];omega,k+1,⟨by omega,fun q hf=> ?_⟩,by omega,by omega⟩,fun hb q hf=> ?_⟩
  ·rw[←hq q hf,xm hc,if_pos (by rw[←hy q hf];exact hb)]
  ·show(k:Int)=_
   rw[←hq q hf,xm hc,if_neg (by rw[←hy q hf,hb];simp)]
 ·show(k:Int)=_
  rw[←hq q hf,MV hge]
abbrev lO:Spc:=dG (a2 B B) (fun _=> True) (enc (X:=Bool)) fun x y=> y=iH x.1 0 x.2
theorem sD:Walk dI dH S (a2 B B) (fun _=> True) (enc (X:=Bool)) fun x y=> y=iH x.1 0 x.2:=by
 rintro⟨s,t⟩ -
 simp[dI,dH]
 refine fun _ _=> ⟨fun h _=> ⟨h,?_⟩,fun h=> ?_⟩
 ·unfold iH
  rw[Nat.zero_add,Bool.eq_iff_iff]
  simp[h]
 ·unfold iH
  rw[Nat.zero_add,decide_eq_false]
  omega
theorem xw (h1:S bQ=lO):Walk jp iT S (a2 B B) (fun _=> True) (enc (X:=Bool)) fun x y=> y=iH x.1 0 x.2:=by
 rintro⟨s,t⟩ -
 simp[jp,iT,h1]
def PM (s:B) (c:U8):Int:=match s.data.toList.findIdx? (fun x=> decide ((x.toNat:Int)=c.val)) with
 | some k=> k
 | none=> -1
abbrev s_indexByte:Spc:=dG (a2 B U8) (fun x=> 0≤x.2.val∧x.2.val < 256) (enc (X:=Int)) fun x y=> y=PM x.1 x.2
theorem xv (h1:S cB=s_indexByte):Walk jo iS S (a2 B U8) (fun x=> 0≤x.2.val∧x.2.val < 256) (enc (X:=Int)) fun x y=> y=PM x.1 x.2:=by
 rintro⟨s,c⟩ ⟨c0,c1⟩
 simp only at c0 c1
 simp[jo,iS,h1,c0,c1]
abbrev mf:Spc:=dG (a2 (List B) B) (fun _=> True) (enc (X:=Int)) fun x y=> y=wW x.1 (fun z=> decide (x.2=z))
theorem uU:Walk hY gX S (a2 (List B) B) (fun _=> True) (enc (X:=Int)) fun x y=> y=wW x.1 (fun z=> decide (x.2=z)):=by
 rintro⟨l,v⟩ -
 simp[hY,gX]
 intro _
 refine aO (X:=Unit) [0,1] [] l.length (fun k _=> ∀x∈l.take k,decide (v=x)=false) (fun _=> []) (fun _=> []) () (by simp) (by simp) (by omega) (by simp) (by simp) (by simp) (by simp) (by simp) ?_ ?_
 ·rintro k -hk hP
  obtain⟨x,hx⟩:=cP hk
  obtain⟨_,hgx⟩:=List.getElem?_eq_some_iff.1 hx
  simp[hk,hx,hgx]
  refine⟨fun h=> ?_,fun h z hz=> ?_⟩
  ·exact(LG hx (by simp[h]) hP).symm
  ·rw[cC hx] at hz
   rcases List.mem_append.1 hz with hz | hz
   ·simpa using hP z hz
   ·simp at hz;subst hz;exact h
 ·rintro -hP
  simp
  exact(Dc (by simpa using hP)).symm
abbrev tL:Spc:=dG (a2 (List B) B) (fun _=> True) (enc (X:=Bool)) fun x y=> y=x.1.any (fun z=> decide (x.2=z))
theorem rU (h1:S bL=mf):Walk fZ fW S (a2 (List B) B) (fun _=> True) (enc (X:=Bool)) fun x y=> y=x.1.any (fun z=> decide (x.2=z)):=by
 rintro⟨l,v⟩ -
 simp[fZ,fW,h1]
 exact QZ _ l
end Go.Gv

namespace Go.Gv
open Cod (enc dec)
variable {S S0:Nat→Spc}
abbrev KK (n:Nat):Spc:=dG (a2 Pat Pat) (Tt (fun x=> fb x.1) n) (enc (X:=Bool)) fun x y=> (y=true↔x.1=x.2)
abbrev FY:Spc:=dG (a2 Pat Pat) (fun _=> True) (enc (X:=Bool)) fun x y=> (y=true↔x.1=x.2)
theorem Yn {a b:Pat} (h1:a.op=b.op) (h2:a.cond=b.cond) (h3:a.lab=b.lab) (h4:a.reg=b.reg) (h5:a.mn=b.mn) (h6:a.mx=b.mx) (h7:a.kids=b.kids):a=b:=by
 cases a;cases b;simp only at*;subst h1;subst h2;subst h3;subst h4;subst h5;subst h6;subst h7;rfl
theorem Aa (n:Nat) (h0:S eN=Av) (h1:S cz=KK n):Walk lG li S (a2 Pat Pat) (Tt (fun x=> fb x.1) (n+1)) (enc (X:=Bool)) fun x y=> (y=true↔x.1=x.2):=by
 rintro⟨a,b⟩ hn
 have hn:fb a≤n+1:=hn
 have hpre: ∀k∈a.kids,∀y,Tt (fun x:Pat×Pat=> fb x.1) n (k,y):=fun k hk y=> by have:=mD hk;show fb k≤n;omega
 simp[lG,li,h0, -Bool.forall_bool]
 refine⟨fun e1 c hc=> ⟨fun e2=> ⟨fun e3=> ⟨fun e4=> ⟨fun e5=> ⟨fun e6 _ _=> ⟨fun h e=> h (by rw[e]),fun hl _=> ?_⟩,fun h e=> h (by rw[e])⟩,fun h e=> h (by rw[e])⟩,fun h e=> h (by rw[e])⟩,fun h e=> h (by rw[e])⟩,fun hf e=> by rw[hc.2 (by rw[e])] at hf;cases hf⟩,fun h e=> h (by rw[e])⟩
 refine aO (X:=Unit) [2,3] [] a.kids.length (fun k _=> a.kids.take k=b.kids.take k) (fun _=> []) (fun _=> []) () (by simp) (by simp) (by omega) (by simp) (by simp) (by simp) (by simp) (by simp) ?_ ?_
 ·rintro k -hk hP
  obtain⟨x,hx⟩:=cP hk
  obtain⟨y,hy⟩:=cP (l:=b.kids) (k:=k) (by omega)
  have hx1:=cn hx
  obtain⟨_,hgx⟩:=List.getElem?_eq_some_iff.1 hx
  obtain⟨_,hgy⟩:=List.getElem?_eq_some_iff.1 hy
  simp[h1,hk,hx,hy,hgx,hgy,hpre x hx1, -Bool.forall_bool]
  refine⟨by omega,fun r hr=> ⟨fun hf e=> ?_,fun ht=> ?_⟩⟩
  ·subst e
   rw[hx] at hy
   cases hy
   rw[hr.2 rfl] at hf
   cases hf
  ·rw[cC hx,cC hy,hP,hr.1 ht]
 ·rintro -hP
  simp
  have h8:a.kids=b.kids:=by
   rw[List.take_of_length_le (by omega),List.take_of_length_le (by omega)] at hP
   exact hP
  exact Yn e1 (hc.1 e2) e3 e4 e5 e6 h8
abbrev KG:Spc:=dG (a2 (List B) (List B)) (fun _=> True) (enc (X:=Bool)) fun x y=> (y=true↔x.1=x.2)
theorem Mr:Walk uy tS S (a2 (List B) (List B)) (fun _=> True) (enc (X:=Bool)) fun x y=> (y=true↔x.1=x.2):=by
 rintro⟨a,b⟩ -
 simp[uy,tS, -Bool.forall_bool]
 refine fun _ _=> ⟨fun h e=> h (by rw[e]),fun hl _=> ?_⟩
 refine aO (X:=Unit) [0,1] [] a.length (fun k _=> a.take k=b.take k) (fun _=> []) (fun _=> []) () (by simp) (by simp) (by omega) (by simp) (by simp) (by simp) (by simp) (by simp) ?_ ?_
 ·rintro k -hk hP
  obtain⟨x,hx⟩:=cP hk
  obtain⟨y,hy⟩:=cP (l:=b) (k:=k) (by omega)
  obtain⟨_,hgx⟩:=List.getElem?_eq_some_iff.1 hx
  obtain⟨_,hgy⟩:=List.getElem?_eq_some_iff.1 hy
  simp[hk,hx,hy,hgx,hgy, -Bool.forall_bool]
  refine⟨by omega,fun ht e=> ?_,fun ht=> ?_⟩
  ·subst e
   rw[hx] at hy
   cases hy
   exact ht rfl
  ·rw[cC hx,cC hy,hP,ht]
 ·rintro -hP
  simp
  rw[List.take_of_length_le (by omega),List.take_of_length_le (by omega)] at hP
  exact hP
end Go.Gv
