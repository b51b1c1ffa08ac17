/- A part of the framework and of the walks: C8. -/
import Derived.Test.YtaiffcbkmgfklaaGreatDoorGs17

namespace Go.Gv
open Go.Proofs
def pE:CC:=oX [oB 2 (.mv (.const ob))] [0] [] (oX [oA 3 0,oB 4 (.cmp .geq (oT 3) (.const (.int .u8 97))),oA 5 4,oH 6 5 (.mv (oT 0)),oH 7 5 (.cmp .leq (oT 6) (.const (.int .u8 122))),oB 8 (.pick (oT 5) (oT 7) (.const ob)),oA 9 8,oI 10 9 (.mv (oT 0)),oI 11 9 (.cmp .geq (oT 10) (.const (.int .u8 65))),oI 12 9 (.mv (oT 11)),oH 13 12 (.mv (oT 0)),
 oH 14 12 (.cmp .leq (oT 13) (.const (.int .u8 90))),oI 15 9 (.pick (oT 12) (oT 14) (.const ob)),oB 16 (.pick (oT 9) (.const (.bool true)) (oT 15)),oA 17 16,oI 18 17 (.mv (oT 0)),oI 19 17 (.eql false false [.int] (oT 18) (.const (.int .u8 95))),oB 20 (.pick (oT 17) (.const (.bool true)) (oT 19)),oA 2 20] [2] [] (.ret))
def pp:List aK:= [.tmp 2]
def DO:List Nat:= []
theorem DB:aS Tryz.prog fe DO pE pp 21:=aA ay (by kernel_rfl)
def qU:CC:=oX [oB 2 (.mv (.const ob))] [0] [] (oX [oA 3 0,oB 4 (.cmp .geq (oT 3) (.const (.int .u8 48))),oA 5 4,oH 6 5 (.mv (oT 0)),oH 7 5 (.cmp .leq (oT 6) (.const (.int .u8 57))),oB 8 (.pick (oT 5) (oT 7) (.const ob)),oA 2 8] [2] [] (.ret))
def qv:List aK:= [.tmp 2]
def Gn:List Nat:= []
theorem FS:aS Tryz.prog cA Gn qU qv 9:=aA ay (by kernel_rfl)
def qR:CC:=oX [oB 2 (.mv (.const ob))] [0] [] (oX [oA 3 0,oB 4 (.eql false false [.int] (oT 3) (.const (.int .u8 32))),oA 5 4,oI 6 5 (.mv (oT 0)),oI 7 5 (.eql false false [.int] (oT 6) (.const (.int .u8 10))),oB 8 (.pick (oT 5) (.const (.bool true)) (oT 7)),oA 2 8] [2] [] (.ret))
def qs:List aK:= [.tmp 2]
def Gk:List Nat:= []
theorem FN:aS Tryz.prog hY Gk qR qs 9:=aA ay (by kernel_rfl)
def qQ:CC:=oX [oB 2 (.mv (.const ob))] [0] [] (oX [oA 3 0,oZ 4 fe [oT 3],oA 5 4,oI 6 5 (.mv (oT 0)),oI 7 5 (.call cA [oT 6]),oB 8 (.pick (oT 5) (.const (.bool true)) (oT 7)),oA 9 8,oI 10 9 (.mv (oT 0)),oI 11 9 (.eql false false [.int] (oT 10) (.const (.int .u8 45))),oB 12 (.pick (oT 9) (.const (.bool true)) (oT 11)),oA 2 12] [2] [] (.ret))
def qr:List aK:= [.tmp 2]
def Gj:List Nat:= []
theorem FM:aS Tryz.prog fY Gj qQ qr 13:=aA ay (by kernel_rfl)
-- query_run while id=0: live [0:s, 1:at, 2:f] changed [1] res []
def uy:CC:=oX [oB 6 (.mv (oN 0))] [0,1,2] [] (.seq (.block 0 (.loop 1 (.seq (oX [oA 7 1,oA 8 0,oB 9 (.slen (oT 8)),oB 10 (.cmp .lss (oT 7) (oT 9)),oA 11 10,oH 12 11 (.mv (oT 2)),oH 13 11 (.mv (oT 0)),oH 14 11 (.mv (oT 1)),oH 15 11 (.sidx (oT 13) (oT 14)),oH 16 11 (.callv (oT 12) [oT 15]),oB 17 (.pick (oT 11) (oT 16) (.const ob))] [0,1,2,17] [] (.ite (oT 17) (.skip)
 (.exit 0))) (.keep [0,1,2] [] (.block 1 (.reg [oA 18 1,oB 19 (.arith .add (oT 18) (oN 1)),oA 1 19])))))) (.keep [1] [] (oX [oA 20 1,oA 6 20] [6] [] (.ret))))
def tJ:List aK:= [.tmp 6]
def KN:List Nat:= []
theorem Kv:aS Tryz.prog kf KN uy tJ 21:=aA ay (by kernel_rfl)
-- query_lex range i=73 n=72 c=74 i2=87 id=1: live [0:s, 1:at, 4:, 6:c, 71:] changed [] res [4]
def uz:CC:=oX [oB 4 (.alloc lR [oi,oe,oi]),oB 5 (.mv (oN 0))] [0,1,4] [4] (oX [oA 13 0,oA 14 1,oZ 15 kf [oT 13,oT 14,.func hY],oA 1 15] [0,1,4] [4] (mu 2 (oX [oA 16 1,oA 17 0,oB 18 (.slen (oT 17)),oB 19 (.eql false false [.int] (oT 16) (oT 18))] [0,1,4,19] [4] (.ite (oT 19) (oX [oA 20 1,
 oB 21 (.build [oi,oe,oi] [(0,1,oN 0),(1,1,oS ⟨#[]⟩),(2,1,oT 20)]),oA 22 1,oF 3 4 21,oA 5 22] [4,5] [4] (.ret)) (.skip))) (.keep [0,1,4] [4] (oX [oA 23 0,oA 24 1,oB 25 (.sidx (oT 23) (oT 24)),oA 6 25] [0,1,4,6] [4] (mu 6 (.block 0 (oX [oA 27 6,oZ 28 fe [oT 27],oA 26 28] [0,1,4,6,26] [4] (.ite (oT 26) (oX [oA 29 0,oA 30 1,
 oZ 31 kf [oT 29,oT 30,.func fY],oA 7 31] [0,1,4,7] [4] (oX [oA 32 0,oA 33 1,oA 34 7,oB 35 (.sslice (oT 32) (some (oT 33)) (some (oT 34))),oA 36 1,oB 37 (.build [oi,oe,oi] [(0,1,oN 2),(1,1,oT 35),(2,1,oT 36)]),oA 38 7,oF 3 4 37,oA 5 38] [4,5] [4] (.ret))) (oX [oA 40 6,oZ 41 cA [oT 40],oA 39 41] [0,1,4,6,39] [4] (.ite (oT 39) (oX [oA 42 0,oA 43 1,
 oZ 44 kf [oT 42,oT 43,.func cA],oA 8 44] [0,1,4,8] [4] (oX [oA 45 0,oA 46 1,oA 47 8,oB 48 (.sslice (oT 45) (some (oT 46)) (some (oT 47))),oA 49 1,oB 50 (.build [oi,oe,oi] [(0,1,oN 3),(1,1,oT 48),(2,1,oT 49)]),oA 51 8,oF 3 4 50,oA 5 51] [4,5] [4] (.ret))) (oX [oA 53 6,oB 54 (.eql false false [.int] (oT 53) (.const (.int .u8 34))),
 oA 52 54] [0,1,4,6,52] [4] (.ite (oT 52) (oX [oA 56 0,oA 57 1,oZ 58 kg [oT 56,oT 57],oA 55 58,oB 59 (.ext (oT 55) 0),oB 60 (.ext (oT 55) 1),oA 9 59,oA 10 60] [0,1,4,9,10] [4] (.seq (oX [oA 61 10,oB 62 (.cmp .lss (oT 61) (oN 0))] [0,1,4,9,10,62] [4] (.ite (oT 62) (oX [oA 63 1,oB 64 (.build [oi,oe,oi] [(0,1,oN 1),(1,1,oS ⟨#[]⟩),(2,1,oT 63)]),oA 65 0,oB 66 (.slen (oT 65)),
 oF 3 4 64,oA 5 66] [4,5] [4] (.ret)) (.skip))) (.keep [1,4,9,10] [4] (oX [oA 67 9,oA 68 1,oB 69 (.build [oi,oe,oi] [(0,1,oN 4),(1,1,oT 67),(2,1,oT 68)]),oA 70 10,oF 3 4 69,oA 5 70] [4,5] [4] (.ret))))) (.skip)))))))) (.keep [0,1,4,6] [4] (mu 19 (oX [oB 71 (.bslice az 1 [oS ⟨#[60,47]⟩,oS ⟨#[33,61]⟩,oS ⟨#[58,58]⟩,oS ⟨#[37,99]⟩]),oB 72 (.len (oT 71)),
 oB 73 (.mv (oN 0))] [0,1,4,6,71,72,73] [4] (bn 1 73 72 74 2 (oX [oB 75 (.iaddr 1 (oT 71) (oT 73)),oC 76 1 75,oA 12 76] [0,1,4,6,12,71,72,73] [4] (oX [oA 77 0,oA 78 1,oB 79 (.sslice (oT 77) (some (oT 78)) none),oA 80 12,oZ 81 fG [oT 79,oT 80]] [0,1,4,6,12,71,72,73,81] [4] (.ite (oT 81) (oX [oA 82 12,oA 83 1,
 oB 84 (.build [oi,oe,oi] [(0,1,oN 5),(1,1,oT 82),(2,1,oT 83)]),oA 85 1,oB 86 (.arith .add (oT 85) (oN 2)),oF 3 4 84,oA 5 86] [4,5] [4] (.ret)) (.skip)))) 87)) (.keep [0,1,4,6] [4] (.seq (oX [oA 88 6,oZ 89 fF [oS ⟨#[91,93,40,41,123,125,60,62,124,38,33,61,58,46,44,63,42,43,45]⟩,oT 88],oB 90 (.cmp .geq (oT 89) (oN 0))] [0,1,4,90] [4] (.ite (oT 90) (oX [oA 91 0,oA 92 1,
 oA 93 1,oB 94 (.arith .add (oT 93) (oN 1)),oB 95 (.sslice (oT 91) (some (oT 92)) (some (oT 94))),oA 96 1,oB 97 (.build [oi,oe,oi] [(0,1,oN 5),(1,1,oT 95),(2,1,oT 96)]),oA 98 1,oB 99 (.arith .add (oT 98) (oN 1)),oF 3 4 97,oA 5 99] [4,5] [4] (.ret)) (.skip))) (.keep [1,4] [4] (oX [oA 100 1,oB 101 (.build [oi,oe,oi] [(0,1,oN 1),(1,1,oS ⟨#[]⟩),(2,1,oT 100)]),oA 102 1,oF 3 4 101,
 oA 5 102] [4,5] [4] (.ret))))))))))))
def tK:List aK:= [.cell 4 true 3, .tmp 5]
def KO:List Nat:= []
theorem Kw:aS Tryz.prog iD KO uz tK 103:=aA ay (by kernel_rfl)
def kz:CC:= .regd [oA 3 0,oA 4 0,oA 5 0,oG 6 5,oE 7 0 6,oC 8 1 7,oA 9 0,oG 10 9,oE 11 1 10,oC 12 1 11,oZ 13 iD [oT 8,oT 12],oA 2 13,oB 14 (.ext (oT 2) 0),oB 15 (.ext (oT 2) 1),oG 16 3,oE 17 2 16,.frz 0 0,.op none none (.store (some 0) 3 (oT 17) (oT 14))] [oG 18 4,oE 19 1 18,.op none none (.store (some 0) 1 (oT 19) (oT 15))]
def jW:List aK:= []
def wD:List Nat:= [2019000,2017000]
theorem wa:aS Tryz.prog a8 wD kz jW 20:=aA ay (by kernel_rfl)
def kw:CC:=oX [oB 2 (.alloc lR [oi,oe,oi])] [0,2] [0,2] (.seq (.regd [oA 6 0,oG 7 6,oE 8 0 7,oC 9 1 8,oA 10 0,oG 11 10,oE 12 1 11,oC 13 1 12,oZ 14 iD [oT 9,oT 13],oA 5 14,oB 15 (.ext (oT 5) 0),oB 16 (.ext (oT 5) 1),oB 3 (.alloc lR [oi,oe,oi]),.frz 0 0,.op none none (.store (some 3) 3 (oT 3) (oT 15))] [oA 4 16])
 (.keep [2,3] [0,2,3] (oX [oD 17 3 3,oF 3 2 17] [2] [0,2] (.ret))))
def jV:List aK:= [.cell 2 true 3]
def wC:List Nat:= [2003003]
theorem v8:aS Tryz.prog fI wC kw jV 18:=aA ay (by kernel_rfl)
def ku:CC:=oX [oB 4 (.mv (.const ob))] [0,1] [0] (oX [oA 5 0,oG 6 5,oE 7 2 6,oE 8 0 7,oC 9 1 8,oB 10 (.eql false false [.int] (oT 9) (oN 5)),oA 11 10,oH 12 11 (.mv (oT 0)),oH 13 11 (.nilck (oT 12)),oH 14 11 (.faddr 2 (oT 13)),oH 15 11 (.faddr 1 (oT 14)),oH 16 11 (.load false 1 (oT 15)),oH 17 11 (.mv (oT 1)),oH 18 11 (.eql false false [.str] (oT 16) (oT 17)),
 oB 19 (.pick (oT 11) (oT 18) (.const ob)),oA 4 19] [4] [0] (.ret))
def jU:List aK:= [.tmp 4]
def wB:List Nat:= []
theorem v7:aS Tryz.prog aM wB ku jU 20:=aA ay (by kernel_rfl)
def gY:CC:=oX [oB 4 (.mv (.const ob))] [0,1] [0] (.seq (oX [oA 5 0,oA 6 1,oZ 7 aM [oT 5,oT 6],oB 8 (.not (oT 7))] [0,8] [0] (.ite (oT 8) (oX [oB 4 (.mv (.const ob))] [4] [0] (.ret)) (.skip))) (.keep [0] [0] (oX [oA 9 0,oZ 10 a8 [oT 9]] [] [0] (oX [oB 4 (.mv (.const (.bool true)))] [4] [0] (.ret)))))
def gL:List aK:= [.tmp 4]
def wA:List Nat:= []
theorem v6:aS Tryz.prog af wA gY gL 11:=aA ay (by kernel_rfl)
def kt:CC:=oX [oB 4 (.mv (.const ob))] [0,1] [0] (oX [oA 5 0,oG 6 5,oE 7 2 6,oE 8 0 7,oC 9 1 8,oB 10 (.eql false false [.int] (oT 9) (oN 2)),oA 11 10,oH 12 11 (.mv (oT 1)),oH 13 11 (.mv (oT 0)),oH 14 11 (.nilck (oT 13)),oH 15 11 (.faddr 2 (oT 14)),oH 16 11 (.faddr 1 (oT 15)),oH 17 11 (.load false 1 (oT 16)),
 oH 18 11 (.call dK [oT 12,oT 17]),oB 19 (.pick (oT 11) (oT 18) (.const ob)),oA 4 19] [4] [0] (.ret))
def jT:List aK:= [.tmp 4]
def wy:List Nat:= []
theorem vY:aS Tryz.prog br wy kt jT 20:=aA ay (by kernel_rfl)
-- query_reader_must range i=8 n=7 c=9 i2=18 id=0: live [0:r, 6:] changed [] res [0]
def kA:CC:=oX [oA 6 1,oB 7 (.len (oT 6)),oB 8 (.mv (oN 0))] [0,6,7,8] [0] (bn 0 8 7 9 1 (oX [oB 10 (.iaddr 1 (oT 6) (oT 8)),oC 11 1 10,oA 5 11] [0,5,6,7,8] [0] (oX [oA 12 0,oA 13 5,oZ 14 af [oT 12,oT 13],oB 15 (.not (oT 14))] [0,6,7,8,15] [0] (.ite (oT 15) (.reg [oA 16 0,oZ 17 bk [oT 16]]) (.skip)))) 18)
def jX:List aK:= []
def wF:List Nat:= []
theorem wc:aS Tryz.prog ai wF kA jX 19:=aA ay (by kernel_rfl)
def gX:CC:=oX [oB 4 (.mv (oS ⟨#[]⟩))] [0,1] [0] (.seq (oX [oA 6 0,oG 7 6,oE 8 2 7,oE 9 0 8,oC 10 1 9,oA 11 1,oB 12 (.eql true false [.int] (oT 10) (oT 11))] [0,12] [0] (.ite (oT 12) (.reg [oA 13 0,oZ 14 bk [oT 13]]) (.skip))) (.keep [0] [0] (oX [oA 15 0,oG 16 15,oE 17 2 16,oE 18 1 17,oC 19 1 18,oA 5 19] [0,5] [0] (oX [oA 20 0,
 oZ 21 a8 [oT 20]] [5] [0] (oX [oA 22 5,oA 4 22] [4] [0] (.ret))))))
def gK:List aK:= [.tmp 4]
def wz:List Nat:= []
theorem vZ:aS Tryz.prog aF wz gX gK 23:=aA ay (by kernel_rfl)
def gZ:CC:=oX [oB 2 (.mv (oS ⟨#[]⟩))] [0] [0] (oX [oA 3 0,oZ 4 aF [oT 3,oN 2],oA 2 4] [2] [0] (.ret))
def gM:List aK:= [.tmp 2]
def wE:List Nat:= []
theorem wb:aS Tryz.prog av wE gZ gM 5:=aA ay (by kernel_rfl)
def eF:CC:=oX [oB 2 (.mv (oS ⟨#[]⟩))] [0] [0] (oX [oA 3 0,oB 4 (.bslice az 1 [oS ⟨#[44]⟩]),oZ 5 ai [oT 3,oT 4]] [0] [0] (oX [oA 6 0,oZ 7 av [oT 6],oA 2 7] [2] [0] (.ret)))
def eD:List aK:= [.tmp 2]
def vf:List Nat:= []
theorem uZ:aS Tryz.prog dY vf eF eD 8:=aA ay (by kernel_rfl)
def kE:CC:=oX [oB 2 (.mv (.const ob))] [0] [0] (oX [oA 3 0,oZ 4 af [oT 3,oS ⟨#[37,99]⟩],oA 2 4] [2] [0] (.ret))
def j1:List aK:= [.tmp 2]
def wJ:List Nat:= []
theorem wh:aS Tryz.prog bE wJ kE j1 5:=aA ay (by kernel_rfl)
def nc:CC:=oX [oB 4 (.alloc aj [oi,oi,oe,oe,oe,oe,ob,on,oe,oe,oi,oi,on])] [0,1,4] [4] (.seq (oX [oA 5 1,oB 6 (.len (oT 5)),oB 7 (.eql false false [.int] (oT 6) (oN 1))] [0,1,4,7] [4] (.ite (oT 7) (oX [oA 8 1,oB 9 (.iaddr 13 (oT 8) (oN 0)),oD 10 13 9,oF 13 4 10] [4] [4] (.ret)) (.skip))) (.keep [0,1,4] [4] (oX [oA 11 0,oA 12 1,
 oB 13 (.build [oi,oi,oe,oe,oe,oe,ob,on,oe,oe,oi,oi,on] [(0,1,oT 11),(12,1,oT 12)]),oF 13 4 13] [4] [4] (.ret))))
def mR:List aK:= [.cell 4 true 13]
def Ar:List Nat:= []
theorem Ah:aS Tryz.prog dZ Ar nc mR 14:=aA ay (by kernel_rfl)
def qV:CC:=oX [oB 4 (.alloc aR [oi,oe,oe,oe,oe,ob,on])] [0,1,4] [4] (.seq (oX [oA 5 1,oB 6 (.len (oT 5)),oB 7 (.eql false false [.int] (oT 6) (oN 1))] [0,1,4,7] [4] (.ite (oT 7) (oX [oA 8 1,oB 9 (.iaddr 7 (oT 8) (oN 0)),oD 10 7 9,oF 7 4 10] [4] [4] (.ret)) (.skip))) (.keep [0,1,4] [4] (oX [oA 11 0,oA 12 1,
 oB 13 (.build [oi,oe,oe,oe,oe,ob,on] [(0,1,oT 11),(6,1,oT 12)]),oF 7 4 13] [4] [4] (.ret))))
def qw:List aK:= [.cell 4 true 7]
def Gp:List Nat:= []
theorem FT:aS Tryz.prog f0 Gp qV qw 14:=aA ay (by kernel_rfl)
def qS:CC:=oX [oB 4 (.alloc au [oi,oe,oe,oe,oe,oe,ob,oi,oi,on,on])] [0,1,4] [4] (.seq (oX [oA 5 1,oB 6 (.len (oT 5)),oB 7 (.eql false false [.int] (oT 6) (oN 1))] [0,1,4,7] [4] (.ite (oT 7) (oX [oA 8 1,oB 9 (.iaddr 11 (oT 8) (oN 0)),oD 10 11 9,oF 11 4 10] [4] [4] (.ret)) (.skip))) (.keep [0,1,4] [4] (oX [oA 11 0,oA 12 1,
 oB 13 (.build [oi,oe,oe,oe,oe,oe,ob,oi,oi,on,on] [(0,1,oT 11),(10,1,oT 12)]),oF 11 4 13] [4] [4] (.ret))))
def qt:List aK:= [.cell 4 true 11]
def Gl:List Nat:= []
theorem FP:aS Tryz.prog fZ Gl qS qt 14:=aA ay (by kernel_rfl)
def kq:CC:=oX [oB 4 (.mv (.const ob))] [0,1] [] (oX [oA 5 0,oA 6 1,oZ 7 ch [oT 5,oT 6],oA 4 7] [4] [] (.ret))
def jS:List aK:= [.tmp 4]
def wu:List Nat:= []
theorem vV:aS Tryz.prog fG wu kq jS 8:=aA ay (by kernel_rfl)
def d8:CC:=oX [oB 4 (.mv (.const ob))] [0,1] [] (oX [oA 5 0,oB 6 (.slen (oT 5)),oA 7 1,oB 8 (.slen (oT 7)),oB 9 (.cmp .geq (oT 6) (oT 8)),oA 10 9,oH 11 10 (.mv (oT 0)),oH 12 10 (.mv (oT 1)),oH 13 10 (.slen (oT 12)),oH 14 10 (.sslice (oT 11) none (some (oT 13))),oH 15 10 (.mv (oT 1)),oH 16 10 (.eql false false [.str] (oT 14) (oT 15)),
 oB 17 (.pick (oT 10) (oT 16) (.const ob)),oA 4 17] [4] [] (.ret))
def d6:List aK:= [.tmp 4]
def mA:List Nat:= []
theorem my:aS Tryz.prog ch mA d8 d6 18:=aA ay (by kernel_rfl)
def kp:CC:=oX [oB 4 (.mv (oN 0))] [0,1] [] (oX [oA 5 0,oA 6 1,oZ 7 cX [oT 5,oT 6],oA 4 7] [4] [] (.ret))
def jR:List aK:= [.tmp 4]
def wt:List Nat:= []
theorem vU:aS Tryz.prog fF wt kp jR 8:=aA ay (by kernel_rfl)
-- internal_bytealg_IndexByteString: no body
def gC:CC:=oX [oB 4 (.mv (.const ob))] [0,1] [] (oX [oA 5 0,oA 6 1,oZ 7 bX [oT 5,oT 6],oB 8 (.cmp .geq (oT 7) (oN 0)),oA 4 8] [4] [] (.ret))
def gy:List aK:= [.tmp 4]
def rp:List Nat:= []
theorem rk:aS Tryz.prog dK rp gC gy 9:=aA ay (by kernel_rfl)
-- slices_Index_string range i=8 n=7 c=9 i2=18 id=0: live [0:s, 1:v] changed [] res []
def iS:CC:=oX [oB 4 (.mv (oN 0))] [0,1] [] (.seq (oX [oA 6 0,oB 7 (.len (oT 6)),oB 8 (.mv (oN 0))] [0,1,7,8] [] (bn 0 8 7 9 1 (oX [oA 10 8,oA 5 10] [0,1,5,7,8] [] (oX [oA 11 1,oA 12 0,oA 13 5,oB 14 (.iaddr 1 (oT 12) (oT 13)),oC 15 1 14,oB 16 (.eql false false [.str] (oT 11) (oT 15))] [0,1,5,7,8,16] [] (.ite (oT 16) (oX [oA 17 5,oA 4 17] [4] [] (.ret))
 (.skip)))) 18)) (.keep [] [] (oX [oB 4 (.mv (oN (-1)))] [4] [] (.ret))))
def iF:List aK:= [.tmp 4]
def t8:List Nat:= []
theorem tP:aS Tryz.prog bX t8 iS iF 19:=aA ay (by kernel_rfl)
-- query_reader_alt while id=0: live [0:r, 1:inner, 4:, 5:l] changed [5] res [0, 4, 9, 17]
def lz:CC:=oX [oB 4 (.alloc aj [oi,oi,oe,oe,oe,oe,ob,on,oe,oe,oi,oi,on])] [0,1,4] [0,4,9,17] (oX [oA 6 0,oA 7 1,oZ 8 eJ [oT 6,oT 7],oB 9 (.mslice aj 13 [oT 8]),oA 5 9] [0,1,4,5] [0,4,9,17] (.seq (.block 0 (.loop 1 (.seq (oX [oA 10 0,oZ 11 af [oT 10,oS ⟨#[124]⟩]] [0,1,4,5,11] [0,4,9,17] (.ite (oT 11) (.skip) (.exit 0)))
 (.keep [0,1,4,5] [0,4,9,17] (.block 1 (.reg [oA 12 5,oA 13 0,oA 14 1,oZ 15 eJ [oT 13,oT 14],oB 16 (.bslice aj 13 [oT 15]),oB 17 (.append (some 9) aj 13 184 (oT 12) (oT 16)),oA 5 17])))))) (.keep [4,5] [0,4,9,17] (oX [oA 18 5,.frz 18 13,oZ 19 dZ [oN 5,oT 18],oF 13 4 19] [4] [0,4,9,17] (.ret)))))
def li:List aK:= [.cell 4 true 13]
def yb:List Nat:= [100009,1017009]
theorem xR:aS Tryz.prog dg yb lz li 20:=aA ay (by kernel_rfl)
def ep:CC:=oX [oB 4 (.mv (.const ob))] [0,1] [0] (.seq (oX [oA 6 0,oG 7 6,oE 8 2 7,oE 9 0 8,oC 10 1 9] [0,1,10] [0] (.block 0 (oX [oB 12 (.eql false false [.int] (oT 10) (oN 4)),oA 11 12] [0,1,10,11] [0] (.ite (oT 11) (oX [oB 4 (.mv (.const (.bool true)))] [4] [0] (.ret)) (oX [oB 14 (.eql false false [.int] (oT 10) (oN 2)),
 oA 13 14] [0,1,13] [0] (.ite (oT 13) (oX [oA 15 0,oZ 16 fI [oT 15],oB 5 (.alloc lR [oi,oe,oi]),oF 3 5 16] [0,1,5] [0,5] (oX [oA 17 1,oA 18 17,oI 19 18 (.mv (oT 0)),
 oI 20 18 (.bslice az 1 [oS ⟨#[119,105,116,104,105,110]⟩,oS ⟨#[99,111,110,116,97,105,110,105,110,103]⟩,oS ⟨#[111,118,101,114,108,97,112,112,105,110,103]⟩,oS ⟨#[115,116,114,97,116,101,103,121]⟩]),oI 21 18 (.call br [oT 19,oT 20]),oI 22 18 (.not (oT 21)),oB 23 (.pick (oT 18) (.const (.bool true)) (oT 22)),oA 24 23,oI 25 24 (.faddr 0 (oT 5)),
 oI 26 24 (.load false 1 (oT 25)),oI 27 24 (.eql false false [.int] (oT 26) (oN 5)),oI 28 24 (.mv (oT 27)),oH 29 28 (.faddr 1 (oT 5)),oH 30 28 (.load false 1 (oT 29)),oH 31 28 (.eql false false [.str] (oT 30) (oS ⟨#[58]⟩)),oI 32 24 (.pick (oT 28) (oT 31) (.const ob)),oB 33 (.pick (oT 24) (.const (.bool true)) (oT 32)),oA 4 33] [4] [0] (.ret))) (.skip))))))) (.keep [0] [0] (oX [oA 34 0,
 oZ 35 aM [oT 34,oS ⟨#[91]⟩],oA 36 35,oI 37 36 (.mv (oT 0)),oI 38 36 (.call aM [oT 37,oS ⟨#[60]⟩]),oB 39 (.pick (oT 36) (.const (.bool true)) (oT 38)),oA 40 39,oI 41 40 (.mv (oT 0)),oI 42 40 (.call aM [oT 41,oS ⟨#[60,47]⟩]),oB 43 (.pick (oT 40) (.const (.bool true)) (oT 42)),oA 44 43,oI 45 44 (.mv (oT 0)),
 oI 46 44 (.call aM [oT 45,oS ⟨#[40]⟩]),oB 47 (.pick (oT 44) (.const (.bool true)) (oT 46)),oA 4 47] [4] [0] (.ret))))
def ef:List aK:= [.tmp 4]
def ui:List Nat:= []
theorem tY:aS Tryz.prog eE ui ep ef 48:=aA ay (by kernel_rfl)
-- query_reader_seq while id=0: live [0:r, 1:inner, 4:, 5:l] changed [5] res [0, 4, 8, 16]
def ln:CC:=oX [oB 4 (.alloc aj [oi,oi,oe,oe,oe,oe,ob,on,oe,oe,oi,oi,on])] [0,1,4] [0,4,8,16] (oX [oA 6 0,oZ 7 eK [oT 6],oB 8 (.mslice aj 13 [oT 7]),oA 5 8] [0,1,4,5] [0,4,8,16] (.seq (.block 0 (.loop 1 (.seq (oX [oA 9 0,oA 10 1,oZ 11 eE [oT 9,oT 10]] [0,1,4,5,11] [0,4,8,16] (.ite (oT 11) (.skip) (.exit 0)))
 (.keep [0,1,4,5] [0,4,8,16] (.block 1 (.reg [oA 12 5,oA 13 0,oZ 14 eK [oT 13],oB 15 (.bslice aj 13 [oT 14]),oB 16 (.append (some 8) aj 13 184 (oT 12) (oT 15)),oA 5 16])))))) (.keep [4,5] [0,4,8,16] (oX [oA 17 5,.frz 17 13,oZ 18 dZ [oN 4,oT 17],oF 13 4 18] [4] [0,4,8,16] (.ret)))))
def k9:List aK:= [.cell 4 true 13]
def xV:List Nat:= [100008,1016008]
theorem xL:aS Tryz.prog eJ xV ln k9 19:=aA ay (by kernel_rfl)
-- query_reader_rep while id=0: live [0:r, 2:, 3:p] changed [] res [0, 2, 3]
def lp:CC:=oX [oB 2 (.alloc aj [oi,oi,oe,oe,oe,oe,ob,on,oe,oe,oi,oi,on])] [0,2] [0,2] (oX [oA 7 0,oZ 8 fJ [oT 7],oB 3 (.alloc aj [oi,oi,oe,oe,oe,oe,ob,on,oe,oe,oi,oi,on]),oF 13 3 8] [0,2,3] [0,2,3] (.block 0 (.loop 1 (.block 1 (oX [oB 4 (.mv (oN 0)),oB 5 (.mv (oN (-1)))] [0,2,3,4,5] [0,2,3] (.seq (oX [oA 9 0,oG 10 9,oE 11 2 10,
 oE 12 2 11,oC 13 1 12,oA 6 13] [0,2,3,4,5,6] [0,2,3] (.block 2 (oX [oA 16 0,oZ 17 af [oT 16,oS ⟨#[63]⟩],oA 15 17] [0,2,3,4,5,6,15] [0,2,3] (.ite (oT 15) (.reg [oB 5 (.mv (oN 1))]) (oX [oA 19 0,oZ 20 af [oT 19,oS ⟨#[42]⟩],oA 18 20] [0,2,3,4,5,6,18] [0,2,3] (.ite (oT 18) (.skip) (oX [oA 22 0,oZ 23 af [oT 22,oS ⟨#[43]⟩],
 oA 21 23] [0,2,3,5,6,21] [0,2,3] (.ite (oT 21) (.reg [oB 4 (.mv (oN 1))]) (oX [oA 25 0,oZ 26 af [oT 25,oS ⟨#[123]⟩],oA 24 26] [0,2,3,6,24] [0,2,3] (.ite (oT 24) (oX [oA 27 0,oA 28 6,oZ 29 bZ [oT 27,oN 16,oT 28],oA 4 29] [0,2,3,4,6] [0,2,3] (oX [oA 30 4,oA 5 30] [0,2,3,4,5,6] [0,2,3] (.seq (oX [oA 31 0,
 oZ 32 af [oT 31,oS ⟨#[44]⟩]] [0,2,3,4,5,6,32] [0,2,3] (.ite (oT 32) (oX [oB 5 (.mv (oN (-1)))] [0,2,3,4,5,6] [0,2,3] (oX [oA 33 0,oZ 34 aM [oT 33,oS ⟨#[125]⟩],oB 35 (.not (oT 34))] [0,2,3,4,5,6,35] [0,2,3] (.ite (oT 35) (oX [oA 36 0,oA 37 6,oZ 38 bZ [oT 36,oN 16,oT 37],oA 5 38] [0,2,3,4,5,6] [0,2,3] (oX [oA 39 5,oA 40 4,
 oB 41 (.cmp .lss (oT 39) (oT 40))] [0,2,3,4,5,6,41] [0,2,3] (.ite (oT 41) (.reg [oA 42 6,oB 43 (.build [oi,oi] [(0,1,oT 42),(1,1,oN 8)]),oB 44 (.mkif ax (oT 43)),.op none none (.call dW [oT 44])]) (.skip)))) (.skip)))) (.skip))) (.keep [0,2,3,4,5] [0,2,3] (.reg [oA 45 0,oB 46 (.bslice az 1 [oS ⟨#[125]⟩]),oZ 47 ai [oT 45,oT 46]]))))) (oX [oD 14 13 3,
 oF 13 2 14] [2] [0,2] (.ret)))))))))))) (.keep [0,2,3,4,5] [0,2,3] (.reg [oA 48 4,oA 49 5,oD 50 13 3,oB 51 (.bslice aj 13 [oT 50]),oB 52 (.build [oi,oi,oe,oe,oe,oe,ob,on,oe,oe,oi,oi,on] [(0,1,oN 6),(10,1,oT 48),(11,1,oT 49),(12,1,oT 51)]),oF 13 3 52]))))))))
def la:List aK:= [.cell 2 true 13]
def xW:List Nat:= [300000]
theorem xM:aS Tryz.prog eK xW lp la 53:=aA ay (by kernel_rfl)
def kB:CC:=oX [oB 2 (.alloc aj [oi,oi,oe,oe,oe,oe,ob,on,oe,oe,oi,oi,on])] [0,2] [0,2] (.seq (.block 0 (oX [oA 8 0,oZ 9 af [oT 8,oS ⟨#[60]⟩],oA 7 9] [0,2,7] [0,2] (.ite (oT 7) (oX [oA 10 0,oZ 11 av [oT 10],oB 12 (.build [oi,oi,oe,oe,oe,oe,ob,on,oe,oe,oi,oi,on] [(0,1,oN 2),(9,1,oT 11)]),
 oB 3 (.alloc aj [oi,oi,oe,oe,oe,oe,ob,on,oe,oe,oi,oi,on]),oF 13 3 12] [0,2,3] [0,2,3] (oX [oA 13 0,oB 14 (.bslice az 1 [oS ⟨#[62]⟩]),oZ 15 ai [oT 13,oT 14]] [2,3] [0,2,3] (oX [oD 16 13 3,oF 13 2 16] [2] [0,2] (.ret)))) (oX [oA 18 0,oZ 19 af [oT 18,oS ⟨#[60,47]⟩],oA 17 19] [0,2,17] [0,2] (.ite (oT 17) (oX [oA 20 0,
 oZ 21 av [oT 20],oB 22 (.build [oi,oi,oe,oe,oe,oe,ob,on,oe,oe,oi,oi,on] [(0,1,oN 3),(9,1,oT 21)]),oB 4 (.alloc aj [oi,oi,oe,oe,oe,oe,ob,on,oe,oe,oi,oi,on]),oF 13 4 22] [0,2,4] [0,2,4] (oX [oA 23 0,oB 24 (.bslice az 1 [oS ⟨#[62]⟩]),oZ 25 ai [oT 23,oT 24]] [2,4] [0,2,4] (oX [oD 26 13 4,oF 13 2 26] [2] [0,2] (.ret)))) (oX [oA 28 0,
 oZ 29 af [oT 28,oS ⟨#[40]⟩],oA 27 29] [0,2,27] [0,2] (.ite (oT 27) (oX [oA 30 0,oZ 31 dg [oT 30,.const (.bool true)],oB 5 (.alloc aj [oi,oi,oe,oe,oe,oe,ob,on,oe,oe,oi,oi,on]),oF 13 5 31] [0,2,5] [0,2,5] (oX [oA 32 0,oB 33 (.bslice az 1 [oS ⟨#[41]⟩]),oZ 34 ai [oT 32,oT 33]] [2,5] [0,2,5] (oX [oD 35 13 5,
 oF 13 2 35] [2] [0,2] (.ret)))) (oX [oA 37 0,oG 38 37,oE 39 2 38,oE 40 0 39,oC 41 1 40,oB 42 (.eql false false [.int] (oT 41) (oN 2)),oA 36 42] [0,2,36] [0,2] (.ite (oT 36) (oX [oA 43 0,oZ 44 av [oT 43],oA 6 44] [0,2,6] [0,2] (oX [oA 45 0,oB 46 (.bslice az 1 [oS ⟨#[58]⟩]),oZ 47 ai [oT 45,oT 46]] [0,2,6] [0,2] (oX [oA 48 0,oA 49 6,
 oZ 50 dX [oT 48,oT 49],oF 13 2 50] [2] [0,2] (.ret)))) (.skip)))))))))) (.keep [0,2] [0,2] (oX [oA 51 0,oZ 52 dX [oT 51,oS ⟨#[]⟩],oF 13 2 52] [2] [0,2] (.ret))))
def jY:List aK:= [.cell 2 true 13]
def wG:List Nat:= []
theorem we:aS Tryz.prog fJ wG kB jY 53:=aA ay (by kernel_rfl)
def jB:CC:=oX [oB 4 (.alloc aj [oi,oi,oe,oe,oe,oe,ob,on,oe,oe,oi,oi,on])] [0,1,4] [0,4] (oX [oA 6 1,oB 7 (.build [oi,oi,oe,oe,oe,oe,ob,on,oe,oe,oi,oi,on] [(0,1,oN 1),(8,1,oT 6)]),oB 5 (.alloc aj [oi,oi,oe,oe,oe,oe,ob,on,oe,oe,oi,oi,on]),oF 13 5 7] [0,4,5] [0,4,5] (.seq (oX [oA 8 0,
 oZ 9 af [oT 8,oS ⟨#[91]⟩]] [0,4,5,9] [0,4,5] (.ite (oT 9) (oX [oE 10 1 5,oE 11 0 10,.op none none (.store none 1 (oT 11) (oN 1))] [0,4,5] [0,4,5] (.seq (oX [oA 12 0,oZ 13 aM [oT 12,oS ⟨#[93]⟩],oB 14 (.not (oT 13))] [0,4,5,14] [0,4,5] (.ite (oT 14) (.reg [oA 15 0,oZ 16 dA [oT 15],oE 17 1 5,oF 7 17 16]) (.skip)))
 (.keep [0,4,5] [0,4,5] (oX [oA 18 0,oB 19 (.bslice az 1 [oS ⟨#[93]⟩]),oZ 20 ai [oT 18,oT 19]] [4,5] [0,4,5] (oX [oD 21 13 5,oF 13 4 21] [4] [0,4] (.ret)))))) (.skip))) (.keep [0,4,5] [0,4,5] (oX [oA 22 0,oZ 23 aF [oT 22,oN 4],oB 24 (.build [oi,oe,oe,oe,oe,ob,on] [(0,1,oN 2),(3,1,oT 23)]),oE 25 1 5,oF 7 25 24] [0,4,5] [0,4,5] (oX [oA 26 0,
 oZ 27 bE [oT 26],oE 28 1 5,oE 29 5 28,oF 1 29 27] [4,5] [0,4,5] (oX [oD 30 13 5,oF 13 4 30] [4] [0,4] (.ret)))))))
def jv:List aK:= [.cell 4 true 13]
def vd:List Nat:= []
theorem uX:aS Tryz.prog dX vd jB jv 31:=aA ay (by kernel_rfl)
-- query_reader_or while id=0: live [0:r, 2:, 3:l] changed [3] res [0, 2, 6, 13]
def mh:CC:=oX [oB 2 (.alloc aR [oi,oe,oe,oe,oe,ob,on])] [0,2] [0,2,6,13] (oX [oA 4 0,oZ 5 eL [oT 4],oB 6 (.mslice aR 7 [oT 5]),oA 3 6] [0,2,3] [0,2,6,13] (.seq (.block 0 (.loop 1 (.seq (oX [oA 7 0,oZ 8 af [oT 7,oS ⟨#[124]⟩]] [0,2,3,8] [0,2,6,13] (.ite (oT 8) (.skip) (.exit 0))) (.keep [0,2,3] [0,2,6,13] (.block 1 (.reg [oA 9 3,
 oA 10 0,oZ 11 eL [oT 10],oB 12 (.bslice aR 7 [oT 11]),oB 13 (.append (some 6) aR 7 104 (oT 9) (oT 12)),oA 3 13])))))) (.keep [2,3] [0,2,6,13] (oX [oA 14 3,.frz 14 7,oZ 15 f0 [oN 8,oT 14],oF 7 2 15] [2] [0,2,6,13] (.ret)))))
def l7:List aK:= [.cell 2 true 7]
def zh:List Nat:= [100006,1013006]
theorem yZ:aS Tryz.prog dA zh mh l7 16:=aA ay (by kernel_rfl)
-- query_reader_and while id=0: live [0:r, 2:, 3:l] changed [3] res [0, 2, 6, 13]
def lw:CC:=oX [oB 2 (.alloc aR [oi,oe,oe,oe,oe,ob,on])] [0,2] [0,2,6,13] (oX [oA 4 0,oZ 5 bW [oT 4],oB 6 (.mslice aR 7 [oT 5]),oA 3 6] [0,2,3] [0,2,6,13] (.seq (.block 0 (.loop 1 (.seq (oX [oA 7 0,oZ 8 af [oT 7,oS ⟨#[38]⟩]] [0,2,3,8] [0,2,6,13] (.ite (oT 8) (.skip) (.exit 0))) (.keep [0,2,3] [0,2,6,13] (.block 1 (.reg [oA 9 3,
 oA 10 0,oZ 11 bW [oT 10],oB 12 (.bslice aR 7 [oT 11]),oB 13 (.append (some 6) aR 7 104 (oT 9) (oT 12)),oA 3 13])))))) (.keep [2,3] [0,2,6,13] (oX [oA 14 3,.frz 14 7,oZ 15 f0 [oN 7,oT 14],oF 7 2 15] [2] [0,2,6,13] (.ret)))))
def lg:List aK:= [.cell 2 true 7]
def ya:List Nat:= [100006,1013006]
theorem xQ:aS Tryz.prog eL ya lw lg 16:=aA ay (by kernel_rfl)
def lr:CC:=oX [oB 2 (.alloc aR [oi,oe,oe,oe,oe,ob,on])] [0,2] [0,2] (.seq (.block 0 (oX [oA 5 0,oZ 6 af [oT 5,oS ⟨#[33]⟩],oA 4 6] [0,2,4] [0,2] (.ite (oT 4) (oX [oA 7 0,oZ 8 bW [oT 7],oB 9 (.bslice aR 7 [oT 8]),oB 10 (.build [oi,oe,oe,oe,oe,ob,on] [(0,1,oN 6),(6,1,oT 9)]),oF 7 2 10] [2] [0,2] (.ret)) (oX [oA 12 0,
 oZ 13 af [oT 12,oS ⟨#[40]⟩],oA 11 13] [0,2,11] [0,2] (.ite (oT 11) (oX [oA 14 0,oZ 15 dA [oT 14],oB 3 (.alloc aR [oi,oe,oe,oe,oe,ob,on]),oF 7 3 15] [0,2,3] [0,2,3] (oX [oA 16 0,oB 17 (.bslice az 1 [oS ⟨#[41]⟩]),oZ 18 ai [oT 16,oT 17]] [2,3] [0,2,3] (oX [oD 19 7 3,oF 7 2 19] [2] [0,2] (.ret)))) (.skip))))))
 (.keep [0,2] [0,2] (oX [oA 20 0,oZ 21 fL [oT 20],oF 7 2 21] [2] [0,2] (.ret))))
def lc:List aK:= [.cell 2 true 7]
def xX:List Nat:= []
theorem xN:aS Tryz.prog bW xX lr lc 22:=aA ay (by kernel_rfl)
def kF:CC:=oX [oB 2 (.alloc aR [oi,oe,oe,oe,oe,ob,on])] [0,2] [0,2] (oX [oA 8 0,oZ 9 av [oT 8],oA 3 9] [0,2,3] [0,2] (.seq (oX [oA 10 3,oB 11 (.eql false false [.str] (oT 10) (oS ⟨#[105,110]⟩)),oA 12 11,oH 13 12 (.mv (oT 0)),oH 14 12 (.call af [oT 13,oS ⟨#[40]⟩]),
 oB 15 (.pick (oT 12) (oT 14) (.const ob))] [0,2,3,15] [0,2] (.ite (oT 15) (oX [oA 16 0,oZ 17 av [oT 16],oB 18 (.build [oi,oe,oe,oe,oe,ob,on] [(0,1,oN 5),(1,1,oT 17)]),oB 4 (.alloc aR [oi,oe,oe,oe,oe,ob,on]),oF 7 4 18] [0,2,4] [0,2,4] (.seq (oX [oA 19 0,oZ 20 af [oT 19,oS ⟨#[44]⟩]] [0,2,4,20] [0,2,4] (.ite (oT 20) (oX [oA 21 0,
 oZ 22 av [oT 21],oE 23 2 4,oF 1 23 22] [0,2,4] [0,2,4] (oX [oA 24 0,oB 25 (.bslice az 1 [oS ⟨#[61]⟩]),oZ 26 ai [oT 24,oT 25]] [0,2,4] [0,2,4] (.reg [oA 27 0,oZ 28 aF [oT 27,oN 4],oE 29 3 4,oF 1 29 28]))) (.skip))) (.keep [0,2,4] [0,2,4] (oX [oA 30 0,oB 31 (.bslice az 1 [oS ⟨#[41]⟩]),
 oZ 32 ai [oT 30,oT 31]] [2,4] [0,2,4] (oX [oD 33 7 4,oF 7 2 33] [2] [0,2] (.ret)))))) (.skip))) (.keep [0,2,3] [0,2] (.seq (.block 0 (oX [oA 35 0,oB 36 (.bslice az 1 [oS ⟨#[99,111,110,116,97,105,110,115]⟩]),oZ 37 br [oT 35,oT 36],oA 34 37] [0,2,3,34] [0,2] (.ite (oT 34) (oX [oA 38 0,oZ 39 a8 [oT 38]] [0,2,3] [0,2] (oX [oA 40 3,
 oA 41 0,oZ 42 aF [oT 41,oN 4],oB 43 (.build [oi,oe,oe,oe,oe,ob,on] [(0,1,oN 3),(1,1,oT 40),(3,1,oT 42)]),oF 7 2 43] [2] [0,2] (.ret))) (oX [oA 45 0,oZ 46 af [oT 45,oS ⟨#[33,61]⟩],oA 44 46] [0,2,3,44] [0,2] (.ite (oT 44) (oX [oA 47 3,oA 48 0,oZ 49 aF [oT 48,oN 4],oB 50 (.build [oi,oe,oe,oe,oe,ob,on] [(0,1,oN 2),(1,1,oT 47),(3,1,oT 49)]),
 oB 5 (.alloc aR [oi,oe,oe,oe,oe,ob,on]),oF 7 5 50] [0,2,5] [0,2,5] (oX [oA 51 0,oZ 52 bE [oT 51],oE 53 5 5,oF 1 53 52] [2,5] [0,2,5] (oX [oD 54 7 5,oB 55 (.bslice aR 7 [oT 54]),oB 56 (.build [oi,oe,oe,oe,oe,ob,on] [(0,1,oN 6),(6,1,oT 55)]),oF 7 2 56] [2] [0,2] (.ret)))) (.skip)))))) (.keep [0,2,3] [0,2] (oX [oA 57 0,oB 58 (.bslice az 1 [oS ⟨#[61]⟩]),
 oZ 59 ai [oT 57,oT 58]] [0,2,3] [0,2] (.seq (oX [oA 60 0,oG 61 60,oE 62 2 61,oE 63 0 62,oC 64 1 63,oB 65 (.eql false false [.int] (oT 64) (oN 2))] [0,2,3,65] [0,2] (.ite (oT 65) (oX [oA 66 3,oA 67 0,oZ 68 av [oT 67],oB 69 (.build [oi,oe,oe,oe,oe,ob,on] [(0,1,oN 4),(1,1,oT 66),(4,1,oT 68)]),oB 6 (.alloc aR [oi,oe,oe,oe,oe,ob,on]),
 oF 7 6 69] [0,2,6] [0,2,6] (oX [oA 70 0,oB 71 (.bslice az 1 [oS ⟨#[46]⟩]),oZ 72 ai [oT 70,oT 71]] [0,2,6] [0,2,6] (oX [oA 73 0,oZ 74 av [oT 73],oE 75 2 6,oF 1 75 74] [2,6] [0,2,6] (oX [oD 76 7 6,oF 7 2 76] [2] [0,2] (.ret))))) (.skip))) (.keep [0,2,3] [0,2] (oX [oA 77 3,oA 78 0,oZ 79 aF [oT 78,oN 4],
 oB 80 (.build [oi,oe,oe,oe,oe,ob,on] [(0,1,oN 2),(1,1,oT 77),(3,1,oT 79)]),oB 7 (.alloc aR [oi,oe,oe,oe,oe,ob,on]),oF 7 7 80] [0,2,7] [0,2,7] (oX [oA 81 0,oZ 82 bE [oT 81],oE 83 5 7,oF 1 83 82] [2,7] [0,2,7] (oX [oD 84 7 7,oF 7 2 84] [2] [0,2] (.ret))))))))))))
def j2:List aK:= [.cell 2 true 7]
def wK:List Nat:= []
theorem wi:aS Tryz.prog fL wK kF j2 85:=aA ay (by kernel_rfl)
-- query_reader_query while id=0: live [0:r, 2:, 3:q] changed [] res [0, 2, 3, 55]
def kG:CC:=oX [oB 0 (.mv (.const on))] [] [] (oX [oB 1 (.bslice az 1 [oS ⟨#[]⟩,oS ⟨#[119,105,116,104,105,110]⟩,oS ⟨#[99,111,110,116,97,105,110,105,110,103]⟩,oS ⟨#[111,118,101,114,108,97,112,112,105,110,103]⟩]),oA 0 1] [0] [] (.ret))
def j3:List aK:= [.tmp 0]
def wL:List Nat:= []
theorem wj:aS Tryz.prog b5 wL kG j3 2:=aA ay (by kernel_rfl)
def iY:CC:=oX [oB 0 (.mv (.const on))] [] [] (oX [oB 1 (.bslice az 1 [oS ⟨#[101,97,99,104]⟩,oS ⟨#[115,104,111,114,116,101,115,116]⟩,oS ⟨#[108,111,110,103,101,115,116]⟩,oS ⟨#[116,114,97,100,105,116,105,111,110,97,108]⟩]),oA 0 1] [0] [] (.ret))
def iL:List aK:= [.tmp 0]
def ue:List Nat:= []
theorem tU:aS Tryz.prog bY ue iY iL 2:=aA ay (by kernel_rfl)
def jA:CC:= .reg [oA 2 0,oG 3 2,oE 4 2 3,oE 5 2 4,oC 6 1 5,oB 7 (.build [oi,oi] [(0,1,oT 6),(1,1,oN 3)]),oB 8 (.mkif ax (oT 7)),.op none none (.call dW [oT 8])]
def ju:List aK:= []
def vb:List Nat:= [300000]
theorem uW:aS Tryz.prog bk vb jA ju 9:=aA ay (by kernel_rfl)
-- query_reader_number while id=0: live [1:most, 2:at, 7:s, 8:n, 9:i] changed [8, 9] res [0]
def i7:CC:=oX [oB 6 (.mv (oN 0))] [0,1,2] [0] (oX [oA 10 0,oZ 11 aF [oT 10,oN 3],oA 7 11] [1,2,7] [0] (oX [oA 12 7,oZ 13 gk [oT 12,oS ⟨#[48]⟩],oA 7 13] [1,2,7] [0] (oX [oB 8 (.mv (oN 0))] [1,2,7,8] [0] (.seq (oX [oB 9 (.mv (oN 0))] [1,2,7,8,9] [0] (.block 0 (.loop 1 (.seq (oX [oA 14 9,oA 15 7,oB 16 (.slen (oT 15)),
 oB 17 (.cmp .lss (oT 14) (oT 16)),oA 18 17,oH 19 18 (.mv (oT 8)),oH 20 18 (.mv (oT 1)),oH 21 18 (.cmp .leq (oT 19) (oT 20)),oB 22 (.pick (oT 18) (oT 21) (.const ob))] [1,2,7,8,9,22] [0] (.ite (oT 22) (.skip) (.exit 0))) (.keep [1,2,7,8,9] [0] (.seq (.block 1 (.reg [oA 25 8,oB 26 (.arith .mul (oN 10) (oT 25)),oA 27 7,oA 28 9,oB 29 (.sidx (oT 27) (oT 28)),
 oB 30 (.arith .sub (oT 29) (.const (.int .u8 48))),oB 31 (.conv .i64 (oT 30)),oB 32 (.arith .add (oT 26) (oT 31)),oA 8 32])) (.keep [1,2,7,8,9] [0] (.reg [oA 23 9,oB 24 (.arith .add (oT 23) (oN 1)),oA 9 24])))))))) (.keep [1,2,8] [0] (.seq (oX [oA 33 8,oA 34 1,oB 35 (.cmp .gtr (oT 33) (oT 34))] [2,8,35] [0] (.ite (oT 35) (.reg [oA 36 2,oB 37 (.build [oi,oi] [(0,1,oT 36),(1,1,oN 8)]),
 oB 38 (.mkif ax (oT 37)),.op none none (.call dW [oT 38])]) (.skip))) (.keep [8] [0] (oX [oA 39 8,oA 6 39] [6] [0] (.ret)))))))))
def iO:List aK:= [.tmp 6]
def uh:List Nat:= [300000]
theorem tX:aS Tryz.prog bZ uh i7 iO 40:=aA ay (by kernel_rfl)
def lv:CC:=oX [oB 2 (.mv (oN 0))] [0] [0] (oX [oA 3 0,oA 4 0,oG 5 4,oE 6 2 5,oE 7 2 6,oC 8 1 7,oZ 9 bZ [oT 3,oN 100000,oT 8],oA 2 9] [2] [0] (.ret))
def lf:List aK:= [.tmp 2]
def xZ:List Nat:= []
theorem xP:aS Tryz.prog cq xZ lv lf 10:=aA ay (by kernel_rfl)
def iZ:CC:=oX [oB 2 (.mv (oN 0))] [0] [0] (.seq (oX [oA 3 0,oZ 4 af [oT 3,oS ⟨#[45]⟩]] [0,4] [0] (.ite (oT 4) (oX [oA 5 0,oZ 6 cq [oT 5],oB 7 (.neg (oT 6)),oA 2 7] [2] [0] (.ret)) (.skip))) (.keep [0] [0] (oX [oA 8 0,oZ 9 cq [oT 8],oA 2 9] [2] [0] (.ret))))
def iM:List aK:= [.tmp 2]
def uf:List Nat:= []
theorem tV:aS Tryz.prog dI uf iZ iM 10:=aA ay (by kernel_rfl)
-- query_reader_gor while id=0: live [0:r, 2:, 3:l] changed [3] res [0, 2, 6, 13]
def lu:CC:=oX [oB 2 (.alloc au [oi,oe,oe,oe,oe,oe,ob,oi,oi,on,on])] [0,2] [0,2,6,13] (oX [oA 4 0,oZ 5 ez [oT 4],oB 6 (.mslice au 11 [oT 5]),oA 3 6] [0,2,3] [0,2,6,13] (.seq (.block 0 (.loop 1 (.seq (oX [oA 7 0,oZ 8 af [oT 7,oS ⟨#[124]⟩]] [0,2,3,8] [0,2,6,13] (.ite (oT 8) (.skip) (.exit 0)))
 (.keep [0,2,3] [0,2,6,13] (.block 1 (.reg [oA 9 3,oA 10 0,oZ 11 ez [oT 10],oB 12 (.bslice au 11 [oT 11]),oB 13 (.append (some 6) au 11 160 (oT 9) (oT 12)),oA 3 13])))))) (.keep [2,3] [0,2,6,13] (oX [oA 14 3,.frz 14 11,oZ 15 fZ [oN 13,oT 14],oF 11 2 15] [2] [0,2,6,13] (.ret)))))
def ld:List aK:= [.cell 2 true 11]
def xY:List Nat:= [100006,1013006]
theorem xO:aS Tryz.prog df xY lu ld 16:=aA ay (by kernel_rfl)
-- query_reader_gand while id=0: live [0:r, 2:, 3:l] changed [3] res [0, 2, 6, 13]
def kD:CC:=oX [oB 2 (.alloc au [oi,oe,oe,oe,oe,oe,ob,oi,oi,on,on])] [0,2] [0,2,6,13] (oX [oA 4 0,oZ 5 bN [oT 4],oB 6 (.mslice au 11 [oT 5]),oA 3 6] [0,2,3] [0,2,6,13] (.seq (.block 0 (.loop 1 (.seq (oX [oA 7 0,oZ 8 af [oT 7,oS ⟨#[38]⟩]] [0,2,3,8] [0,2,6,13] (.ite (oT 8) (.skip) (.exit 0)))
 (.keep [0,2,3] [0,2,6,13] (.block 1 (.reg [oA 9 3,oA 10 0,oZ 11 bN [oT 10],oB 12 (.bslice au 11 [oT 11]),oB 13 (.append (some 6) au 11 160 (oT 9) (oT 12)),oA 3 13])))))) (.keep [2,3] [0,2,6,13] (oX [oA 14 3,.frz 14 11,oZ 15 fZ [oN 12,oT 14],oF 11 2 15] [2] [0,2,6,13] (.ret)))))
def j0:List aK:= [.cell 2 true 11]
def wI:List Nat:= [100006,1013006]
theorem wg:aS Tryz.prog ez wI kD j0 16:=aA ay (by kernel_rfl)
def kC:CC:=oX [oB 2 (.alloc au [oi,oe,oe,oe,oe,oe,ob,oi,oi,on,on])] [0,2] [0,2] (.seq (.block 0 (oX [oA 5 0,oZ 6 af [oT 5,oS ⟨#[33]⟩],oA 4 6] [0,2,4] [0,2] (.ite (oT 4) (oX [oA 7 0,oZ 8 bN [oT 7],oB 9 (.bslice au 11 [oT 8]),oB 10 (.build [oi,oe,oe,oe,oe,oe,ob,oi,oi,on,on] [(0,1,oN 11),(10,1,oT 9)]),
 oF 11 2 10] [2] [0,2] (.ret)) (oX [oA 12 0,oZ 13 af [oT 12,oS ⟨#[40]⟩],oA 11 13] [0,2,11] [0,2] (.ite (oT 11) (oX [oA 14 0,oZ 15 df [oT 14],oB 3 (.alloc au [oi,oe,oe,oe,oe,oe,ob,oi,oi,on,on]),oF 11 3 15] [0,2,3] [0,2,3] (oX [oA 16 0,oB 17 (.bslice az 1 [oS ⟨#[41]⟩]),oZ 18 ai [oT 16,oT 17]] [2,3] [0,2,3] (oX [
 oD 19 11 3,oF 11 2 19] [2] [0,2] (.ret)))) (.skip)))))) (.keep [0,2] [0,2] (oX [oA 20 0,oZ 21 fc [oT 20],oF 11 2 21] [2] [0,2] (.ret))))
def jZ:List aK:= [.cell 2 true 11]
def wH:List Nat:= []
theorem wf:aS Tryz.prog bN wH kC jZ 22:=aA ay (by kernel_rfl)
def jC:CC:=oX [oB 2 (.alloc au [oi,oe,oe,oe,oe,oe,ob,oi,oi,on,on])] [0,2] [0,2] (oX [oA 7 0,oZ 8 av [oT 7],oA 3 8] [0,2,3] [0,2] (.seq (oX [oA 9 3,oZ 10 bt [oT 9],oA 4 10] [0,2,3,4] [0,2] (oX [oA 11 4,oB 12 (.cmp .gtr (oT 11) (oN 0)),oA 13 12,oH 14 13 (.mv (oT 0)),oH 15 13 (.call af [oT 14,oS ⟨#[40]⟩]),
 oB 16 (.pick (oT 13) (oT 15) (.const ob))] [0,2,3,4,16] [0,2] (.ite (oT 16) (oX [oA 17 0,oA 18 4,oA 19 0,oZ 20 av [oT 19],oB 21 (.build [oi,oe,oe,oe,oe,oe,ob,oi,oi,on,on] [(0,1,oT 18),(1,1,oT 20)]),oZ 22 dL [oT 17,oT 21],oB 5 (.alloc au [oi,oe,oe,oe,oe,oe,ob,oi,oi,on,on]),oF 11 5 22] [0,2,5] [0,2,5] (oX [oA 23 0,
 oB 24 (.bslice az 1 [oS ⟨#[41]⟩]),oZ 25 ai [oT 23,oT 24]] [2,5] [0,2,5] (oX [oD 26 11 5,oF 11 2 26] [2] [0,2] (.ret)))) (.skip)))) (.keep [0,2,3] [0,2] (oX [oA 27 0,oB 28 (.bslice az 1 [oS ⟨#[46]⟩]),oZ 29 ai [oT 27,oT 28]] [0,2,3] [0,2] (oX [oA 30 3,oA 31 0,oZ 32 av [oT 31],
 oB 33 (.build [oi,oe,oe,oe,oe,oe,ob,oi,oi,on,on] [(0,1,oN 2),(1,1,oT 30),(3,1,oT 32)]),oB 6 (.alloc au [oi,oe,oe,oe,oe,oe,ob,oi,oi,on,on]),oF 11 6 33] [0,2,6] [0,2,6] (oX [oA 34 0,oB 35 (.bslice az 1 [oS ⟨#[61]⟩]),oZ 36 ai [oT 34,oT 35]] [0,2,6] [0,2,6] (.seq (oX [oA 37 0,oG 38 37,oE 39 2 38,oE 40 0 39,oC 41 1 40,
 oB 42 (.eql false false [.int] (oT 41) (oN 2))] [0,2,6,42] [0,2,6] (.ite (oT 42) (oX [oA 43 0,oZ 44 av [oT 43],oE 45 0 6,.op none none (.store none 1 (oT 45) (oN 3)),oE 46 2 6,oF 1 46 44] [0,2,6] [0,2,6] (oX [oA 47 0,oB 48 (.bslice az 1 [oS ⟨#[46]⟩]),oZ 49 ai [oT 47,oT 48]] [0,2,6] [0,2,6] (oX [oA 50 0,oZ 51 av [oT 50],
 oE 52 4 6,oF 1 52 51] [2,6] [0,2,6] (oX [oD 53 11 6,oF 11 2 53] [2] [0,2] (.ret))))) (.skip))) (.keep [0,2,6] [0,2,6] (oX [oA 54 0,oZ 55 aF [oT 54,oN 4],oE 56 5 6,oF 1 56 55] [0,2,6] [0,2,6] (oX [oA 57 0,oZ 58 bE [oT 57],oE 59 6 6,oF 1 59 58] [2,6] [0,2,6] (oX [oD 60 11 6,oF 11 2 60] [2] [0,2] (.ret))))))))))))
def jw:List aK:= [.cell 2 true 11]
def ve:List Nat:= []
theorem uY:aS Tryz.prog fc ve jC jw 61:=aA ay (by kernel_rfl)
-- query_reader_arguments while id=0: live [0:r, 3:g, 4:] changed [] res [0, 3, 4, 59]
def gF:CC:=oX [oB 3 (.box au false (oT 1)),oB 4 (.alloc au [oi,oe,oe,oe,oe,oe,ob,oi,oi,on,on])] [0,3,4] [0,3,4,59] (.seq (oX [oE 5 0 3,oC 6 1 5] [0,3,4,6] [0,3,4,59] (.block 0 (oX [oB 8 (.eql false false [.int] (oT 6) (oN 1)),oA 7 8] [0,3,4,6,7] [0,3,4,59] (.ite (oT 7) (oX [oD 9 11 3,oF 11 4 9] [4] [0,4,59] (.ret)) (oX [
 oB 11 (.eql false false [.int] (oT 6) (oN 10)),oA 10 11] [0,3,4,10] [0,3,4,59] (.ite (oT 10) (oX [oA 12 0,oB 13 (.bslice az 1 [oS ⟨#[44]⟩]),oZ 14 ai [oT 12,oT 13]] [0,3,4] [0,3,4,59] (oX [oA 15 0,oZ 16 cq [oT 15],oE 17 7 3,oF 1 17 16] [0,3,4] [0,3,4,59] (oX [oA 18 0,oB 19 (.bslice az 1 [oS ⟨#[44]⟩]),
 oZ 20 ai [oT 18,oT 19]] [0,3,4] [0,3,4,59] (oX [oA 21 0,oZ 22 cq [oT 21],oE 23 8 3,oF 1 23 22] [3,4] [0,3,4,59] (oX [oD 24 11 3,oF 11 4 24] [4] [0,4,59] (.ret)))))) (.skip))))))) (.keep [0,3,4] [0,3,4,59] (oX [oA 25 0,oZ 26 dY [oT 25],oE 27 2 3,oF 1 27 26] [0,3,4] [0,3,4,59] (mu 12 (oX [oE 28 0 3,
 oC 29 1 28] [0,3,4,29] [0,3,4,59] (.block 1 (oX [oB 31 (.eql false false [.int] (oT 29) (oN 4)),oA 30 31] [0,3,4,29,30] [0,3,4,59] (.ite (oT 30) (oX [oA 32 0,oB 33 (.bslice az 1 [oS ⟨#[44]⟩]),oZ 34 ai [oT 32,oT 33]] [0,3,4] [0,3,4,59] (oX [oA 35 0,oZ 36 dI [oT 35],oE 37 7 3,oF 1 37 36] [0,3,4] [0,3,4,59] (oX [oA 38 0,
 oB 39 (.bslice az 1 [oS ⟨#[44]⟩]),oZ 40 ai [oT 38,oT 39]] [0,3,4] [0,3,4,59] (.reg [oA 41 0,oZ 42 dI [oT 41],oE 43 8 3,oF 1 43 42])))) (.seq (oX [oB 45 (.eql false false [.int] (oT 29) (oN 5)),oA 44 45] [0,3,4,29,44] [0,3,4,59] (.ite (oT 44) (.skip) (.reg [oB 46 (.eql false false [.int] (oT 29) (oN 9)),oA 44 46])))
 (.keep [0,3,4,29,44] [0,3,4,59] (.ite (oT 44) (.reg [oA 47 0,oZ 48 dY [oT 47],oE 49 3 3,oF 1 49 48]) (oX [oB 51 (.eql false false [.int] (oT 29) (oN 8)),oA 50 51] [0,3,4,50] [0,3,4,59] (.ite (oT 50) (.block 2 (.loop 1 (.seq (oX [oA 52 0,oZ 53 af [oT 52,oS ⟨#[44]⟩]] [0,3,4,53] [0,3,4,59] (.ite (oT 53) (.skip) (.exit 2)))
 (.keep [0,3,4] [0,3,4,59] (.block 3 (.regd [oE 54 9 3,oC 55 1 54,oA 56 0,oB 57 (.callb 0 aF [oT 56,oN 4]),oB 58 (.bslice az 1 [oT 57])] [oB 59 (.append (some 59) az 1 16 (oT 55) (oT 58)),oE 60 9 3,.op none none (.store (some 3) 1 (oT 60) (oT 59))])))))) (.skip)))))))))) (.keep [3,4] [0,3,4,59] (oX [oD 61 11 3,oF 11 4 61] [4] [0,4,59] (.ret)))))))
def gB:List aK:= [.cell 4 true 11]
def rv:List Nat:= [3057000,1059059,2060003]
theorem rm:aS Tryz.prog dL rv gF gB 62:=aA ay (by kernel_rfl)
def nf:CC:=oX [oB 2 (.mv (oN 0))] [0] [] (.seq (oX [oA 3 0] [3] [] (.block 0 (oX [oB 5 (.eql false false [.str] (oT 3) (oS ⟨#[98,111,117,110,100]⟩)),oA 4 5] [3,4] [] (.ite (oT 4) (oX [oB 2 (.mv (oN 1))] [2] [] (.ret)) (oX [oB 7 (.eql false false [.str] (oT 3) (oS ⟨#[100,105,115,116,97,110,99,101]⟩)),oA 6 7] [3,6] [] (.ite (oT 6) (oX [oB 2 (.mv (oN 4))] [2] [] (.ret))
 (oX [oB 9 (.eql false false [.str] (oT 3) (oS ⟨#[115,97,109,101]⟩)),oA 8 9] [3,8] [] (.ite (oT 8) (oX [oB 2 (.mv (oN 5))] [2] [] (.ret)) (oX [oB 11 (.eql false false [.str] (oT 3) (oS ⟨#[104,101,97,100]⟩)),oA 10 11] [3,10] [] (.ite (oT 10) (oX [oB 2 (.mv (oN 6))] [2] [] (.ret)) (oX [oB 13 (.eql false false [.str] (oT 3) (oS ⟨#[97,110,99,101,115,116,111,114]⟩)),
 oA 12 13] [3,12] [] (.ite (oT 12) (oX [oB 2 (.mv (oN 7))] [2] [] (.ret)) (oX [oB 15 (.eql false false [.str] (oT 3) (oS ⟨#[112,97,116,104]⟩)),oA 14 15] [3,14] [] (.ite (oT 14) (oX [oB 2 (.mv (oN 8))] [2] [] (.ret)) (oX [oB 17 (.eql false false [.str] (oT 3) (oS ⟨#[110,111,100,101]⟩)),oA 16 17] [3,16] [] (.ite (oT 16) (oX [oB 2 (.mv (oN 9))] [2] [] (.ret)) (oX [
 oB 19 (.eql false false [.str] (oT 3) (oS ⟨#[100,101,112,116,104]⟩)),oA 18 19] [18] [] (.ite (oT 18) (oX [oB 2 (.mv (oN 10))] [2] [] (.ret)) (.skip))))))))))))))))))) (.keep [] [] (oX [oB 2 (.mv (oN 0))] [2] [] (.ret))))
def mS:List aK:= [.tmp 2]
def As:List Nat:= []
theorem Ai:aS Tryz.prog bt As nf mS 20:=aA ay (by kernel_rfl)
end Go.Gv
