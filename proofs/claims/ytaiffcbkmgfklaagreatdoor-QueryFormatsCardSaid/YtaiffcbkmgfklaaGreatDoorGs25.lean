/- A part of the framework and of the walks: C9. -/
import Derived.Test.YtaiffcbkmgfklaaGreatDoorGs17

namespace Go.Gv
open Go.Proofs
-- query_quoted while id=0: live [0:s, 6:b, 7:i] changed [6, 7] res [43]
def pD:CC:=oX [oB 4 (.mv (oS ⟨#[]⟩)),oB 5 (.mv (oN 0))] [0,1] [] (oX [oB 6 (.mv (.const on))] [0,1,6] [43] (.seq (oX [oA 8 1,oB 9 (.arith .add (oT 8) (oN 1)),oA 7 9] [0,6,7] [43] (.block 0 (.loop 1 (.seq (oX [oA 10 7,oA 11 0,oB 12 (.slen (oT 11)),oB 13 (.cmp .lss (oT 10) (oT 12))] [0,6,7,13] [43] (.ite (oT 13) (.skip) (.exit 0)))
 (.keep [0,6,7] [43] (.seq (.block 1 (.seq (oX [oA 16 0,oA 17 7,oB 18 (.sidx (oT 16) (oT 17)),oB 19 (.eql false false [.int] (oT 18) (.const (.int .u8 34)))] [0,6,7,19] [43] (.ite (oT 19) (.seq (oX [oA 20 7,oB 21 (.arith .add (oT 20) (oN 1)),oA 22 0,oB 23 (.slen (oT 22)),oB 24 (.eql false false [.int] (oT 21) (oT 23)),oA 25 24,oI 26 25 (.mv (oT 0)),oI 27 25 (.mv (oT 7)),
 oI 28 25 (.arith .add (oT 27) (oN 1)),oI 29 25 (.sidx (oT 26) (oT 28)),oI 30 25 (.eql true false [.int] (oT 29) (.const (.int .u8 34))),oB 31 (.pick (oT 25) (.const (.bool true)) (oT 30))] [0,6,7,31] [43] (.ite (oT 31) (oX [oA 32 6,oB 33 (.bstr (oT 32)),oA 34 7,oB 35 (.arith .add (oT 34) (oN 1)),oA 4 33,oA 5 35] [4,5] [43] (.ret)) (.skip))) (.keep [0,6,7] [43] (.reg [oA 36 7,
 oB 37 (.arith .add (oT 36) (oN 1)),oA 7 37]))) (.skip))) (.keep [0,6,7] [43] (.reg [oA 38 6,oA 39 0,oA 40 7,oB 41 (.sidx (oT 39) (oT 40)),oB 42 (.bslice vy 1 [oT 41]),oB 43 (.append none vy 1 1 (oT 38) (oT 42)),oA 6 43])))) (.keep [0,6,7] [43] (.reg [oA 14 7,oB 15 (.arith .add (oT 14) (oN 1)),oA 7 15])))))))) (.keep [] [] (oX [oB 4 (.mv (oS ⟨#[]⟩)),
 oB 5 (.mv (oN (-1)))] [4,5] [43] (.ret)))))
def pn:List aK:= [.tmp 4, .tmp 5]
def DN:List Nat:= []
theorem DA:aS Tryz.prog kg DN pD pn 44:=aA ay (by kernel_rfl)
-- query_Format range i=56 n=55 c=57 i2=83 id=0: live [1:q, 3:w, 54:] changed [] res [36]
def jk:CC:=oX [oB 1 (.box jO true (oT 0)),oB 2 (.mv (oS ⟨#[]⟩))] [1] [36,900] (.seq (oX [oE 6 0 1,oD 7 13 6,oZ 8 d9 [oT 7],oB 9 (.not (oT 8)),oA 10 9,oI 11 10 (.faddr 25 (oT 1)),oI 12 10 (.load false 1 (oT 11)),oI 13 10 (.cmp .lss (oT 12) (oN 0)),oB 14 (.pick (oT 10) (.const (.bool true)) (oT 13)),oA 15 14,oI 16 15 (.faddr 25 (oT 1)),
 oI 17 15 (.load false 1 (oT 16)),oI 18 15 (.cmp .gtr (oT 17) (oN 3)),oB 19 (.pick (oT 15) (.const (.bool true)) (oT 18)),oA 20 19,oI 21 20 (.faddr 24 (oT 1)),oI 22 20 (.load false 1 (oT 21)),oI 23 20 (.call bw [oT 22,.func iR]),oB 24 (.pick (oT 20) (.const (.bool true)) (oT 23)),oA 25 24,oI 26 25 (.faddr 13 (oT 1)),oI 27 25 (.load true 11 (oT 26)),
 oI 28 25 (.call f7 [oT 27]),oI 29 25 (.not (oT 28)),oB 30 (.pick (oT 25) (.const (.bool true)) (oT 29))] [1,30] [36,900] (.ite (oT 30) (oX [oB 2 (.mv (oS ⟨#[]⟩))] [2] [36,900] (.ret)) (.skip))) (.keep [1] [36,900] (.seq (oX [oE 31 0 1,oD 32 13 31,oZ 33 cg [oT 32,.const on],.frz 33 13,
 oZ 34 aC [oT 33,.func cT]] [1,34] [36,900,33] (.ite (oT 34) (oX [oB 2 (.mv (oS ⟨#[]⟩))] [2] [36,900] (.ret)) (.skip))) (.keep [1] [36,900] (mu 7 (.reg [oB 35 (.build [.pointer none,on] []),oB 36 (.tbx pg (oT 35)),oA 3 36]) (.keep [1,3] [36,900] (oX [oA 37 3,oE 38 0 1,oD 39 13 38,
 oZ 40 aU [oT 37,oT 39]] [1,3] [36,900] (.seq (oX [oE 41 13 1,oE 42 0 41,oC 43 1 42,oB 44 (.eql true false [.int] (oT 43) (oN 0))] [1,3,44] [36,900] (.ite (oT 44) (oX [oA 45 3,oG 46 45,oE 47 0 46,oZ 48 aa [oT 47,oS ⟨#[32,58,58,32]⟩]] [1,3] [36,900] (.reg [oA 49 3,oE 50 13 1,oD 51 11 50,oZ 52 bM [oT 49,oT 51]])) (.skip)))
 (.keep [1,3] [36,900] (.seq (oX [oE 53 24 1,oC 54 1 53,oB 55 (.len (oT 54)),oB 56 (.mv (oN 0))] [1,3,54,55,56] [36,900] (bn 0 56 55 57 1 (oX [oB 58 (.iaddr 3 (oT 54) (oT 56)),oD 59 3 58,oB 5 (.alloc gc [oi,ob,oe]),oF 3 5 59] [1,3,5,54,55,56] [36,900,5] (oX [oA 60 3,oG 61 60,oE 62 0 61,
 oZ 63 aa [oT 62,oS ⟨#[32]⟩]] [1,3,5,54,55,56] [36,900,5] (.seq (oX [oE 64 1 5,oC 65 1 64] [1,3,5,54,55,56,65] [36,900,5] (.ite (oT 65) (.reg [oA 66 3,oG 67 66,oE 68 0 67,oZ 69 aa [oT 68,oS ⟨#[33]⟩]]) (.skip))) (.keep [1,3,5,54,55,56] [36,900,5] (.regd [oA 70 3,oG 71 70,oE 72 0 71,oZ 73 b5 [],oE 74 0 5,oC 75 1 74,
 oB 76 (.iaddr 1 (oT 73) (oT 75)),oC 77 1 76,oB 78 (.scat (oT 77) (oS ⟨#[32]⟩)),oE 79 2 5,oC 80 1 79,oB 81 (.scat (oT 78) (oT 80))] [oZ 82 aa [oT 72,oT 81]]))))) 83)) (.keep [1,3] [36,900] (.seq (oX [oE 84 25 1,oC 85 1 84,oB 86 (.eql true false [.int] (oT 85) (oN 0))] [1,3,86] [36,900] (.ite (oT 86) (.regd [oA 87 3,oG 88 87,oE 89 0 88,
 oZ 90 bY [],oE 91 25 1,oC 92 1 91,oB 93 (.iaddr 1 (oT 90) (oT 92)),oC 94 1 93,oB 95 (.scat (oS ⟨#[32,115,116,114,97,116,101,103,121,32]⟩) (oT 94))] [oZ 96 aa [oT 89,oT 95]]) (.skip))) (.keep [3] [36,900] (oX [oA 97 3,oG 98 97,oE 99 0 98,oZ 100 cp [oT 99],oA 2 100] [2] [36,900] (.ret)))))))))))))))
def je:List aK:= [.tmp 2]
def DS:List Nat:= [1,200036]
theorem uL:aS Tryz.prog dM DS jk je 101:=aA ay (by kernel_rfl)
def ix:CC:=oX [oB 1 (.box au true (oT 0)),oB 2 (.mv (.const ob))] [1] [] (.seq (oX [oD 5 11 1,oZ 6 gU [oT 5]] [1,6] [] (.ite (oT 6) (oX [oB 2 (.mv (.const (.bool true)))] [2] [] (.ret)) (.skip))) (.keep [1] [] (oX [oD 8 11 1,oZ 9 dT [oT 8,oN 0,oN 1],oA 7 9,oB 10 (.ext (oT 7) 0),oB 11 (.ext (oT 7) 1),oA 3 10,oA 4 11] [1,3,4] [] (oX [
 oA 12 3,oB 13 (.cmp .leq (oT 12) (oN 60)),oA 14 13,oH 15 14 (.mv (oT 4)),oH 16 14 (.cmp .leq (oT 15) (oN 20)),oB 17 (.pick (oT 14) (oT 16) (.const ob)),oA 18 17,oH 19 18 (.load true 11 (oT 1)),oH 20 18 (.call eV [oT 19,.func dU]),oB 21 (.pick (oT 18) (oT 20) (.const ob)),oA 2 21] [2] [] (.ret)))))
def iq:List aK:= [.tmp 2]
def Gr:List Nat:= [1]
theorem wk:aS Tryz.prog f7 Gr ix iq 22:=aA ay (by kernel_rfl)
def jq:CC:=oX [oB 1 (.box au true (oT 0)),oB 2 (.mv (.const ob))] [1] [] (oX [oE 3 0 1,oC 4 1 3,oB 5 (.eql false false [.int] (oT 4) (oN 0)),oA 6 5,oH 7 6 (.faddr 1 (oT 1)),oH 8 6 (.load false 1 (oT 7)),oH 9 6 (.eql false false [.str] (oT 8) (oS ⟨#[]⟩)),oB 10 (.pick (oT 6) (oT 9) (.const ob)),oA 11 10,oH 12 11 (.faddr 2 (oT 1)),
 oH 13 11 (.load false 1 (oT 12)),oH 14 11 (.eql false false [.str] (oT 13) (oS ⟨#[]⟩)),oB 15 (.pick (oT 11) (oT 14) (.const ob)),oA 16 15,oH 17 16 (.faddr 3 (oT 1)),oH 18 16 (.load false 1 (oT 17)),oH 19 16 (.eql false false [.str] (oT 18) (oS ⟨#[]⟩)),oB 20 (.pick (oT 16) (oT 19) (.const ob)),oA 21 20,oH 22 21 (.faddr 4 (oT 1)),oH 23 21 (.load false 1 (oT 22)),
 oH 24 21 (.eql false false [.str] (oT 23) (oS ⟨#[]⟩)),oB 25 (.pick (oT 21) (oT 24) (.const ob)),oA 26 25,oH 27 26 (.faddr 5 (oT 1)),oH 28 26 (.load false 1 (oT 27)),oH 29 26 (.eql false false [.str] (oT 28) (oS ⟨#[]⟩)),oB 30 (.pick (oT 26) (oT 29) (.const ob)),oA 31 30,oH 32 31 (.faddr 6 (oT 1)),oH 33 31 (.load false 1 (oT 32)),oH 34 31 (.not (oT 33)),
 oB 35 (.pick (oT 31) (oT 34) (.const ob)),oA 36 35,oH 37 36 (.faddr 7 (oT 1)),oH 38 36 (.load false 1 (oT 37)),oH 39 36 (.eql false false [.int] (oT 38) (oN 0)),oB 40 (.pick (oT 36) (oT 39) (.const ob)),oA 41 40,oH 42 41 (.faddr 8 (oT 1)),oH 43 41 (.load false 1 (oT 42)),oH 44 41 (.eql false false [.int] (oT 43) (oN 0)),oB 45 (.pick (oT 41) (oT 44) (.const ob)),oA 46 45,
 oH 47 46 (.faddr 9 (oT 1)),oH 48 46 (.load false 1 (oT 47)),oH 49 46 (.len (oT 48)),oH 50 46 (.eql false false [.int] (oT 49) (oN 0)),oB 51 (.pick (oT 46) (oT 50) (.const ob)),oA 52 51,oH 53 52 (.faddr 10 (oT 1)),oH 54 52 (.load false 1 (oT 53)),oH 55 52 (.len (oT 54)),oH 56 52 (.eql false false [.int] (oT 55) (oN 0)),oB 57 (.pick (oT 52) (oT 56) (.const ob)),oA 2 57] [2] [] (.ret))
def jn:List aK:= [.tmp 2]
def Im:List Nat:= [1]
theorem ym:aS Tryz.prog gU Im jq jn 58:=aA ay (by kernel_rfl)
def sw:CC:=oX [oB 1 (.box gc true (oT 0)),oB 2 (.mv (.const ob))] [1] [] (oX [oE 3 0 1,oC 4 1 3,oB 5 (.cmp .lss (oT 4) (oN 1)),oA 6 5,oI 7 6 (.faddr 0 (oT 1)),oI 8 6 (.load false 1 (oT 7)),oI 9 6 (.cmp .gtr (oT 8) (oN 3)),oB 10 (.pick (oT 6) (.const (.bool true)) (oT 9)),oA 2 10] [2] [] (.ret))
def r8:List aK:= [.tmp 2]
def Io:List Nat:= [1]
theorem Ic:aS Tryz.prog iR Io sw r8 11:=aA ay (by kernel_rfl)
def cF:CC:=oX [oB 4 (.mv (.const ob))] [0,1] [] (oX [oA 5 0,oA 6 1,oZ 7 b9 [oT 5,oT 6],oB 8 (.cmp .geq (oT 7) (oN 0)),oA 4 8] [4] [] (.ret))
def cC:List aK:= [.tmp 4]
def oY:List Nat:= []
theorem iB:aS Tryz.prog bw oY cF cC 9:=aA ay (by kernel_rfl)
-- slices_IndexFunc_Filter range i=8 n=7 c=9 i2=18 id=0: live [0:s, 1:f] changed [] res []
def di:CC:=oX [oB 4 (.mv (oN 0))] [0,1] [] (.seq (oX [oA 6 0,oB 7 (.len (oT 6)),oB 8 (.mv (oN 0))] [0,1,7,8] [] (bn 0 8 7 9 1 (oX [oA 10 8,oA 5 10] [0,1,5,7,8] [] (oX [oA 11 1,oA 12 0,oA 13 5,oB 14 (.iaddr 3 (oT 12) (oT 13)),oD 15 3 14,oB 16 (.callv (oT 11) [oT 15])] [0,1,5,7,8,16] [] (.ite (oT 16) (oX [oA 17 5,oA 4 17] [4] [] (.ret)) (.skip)))) 18))
 (.keep [] [] (oX [oB 4 (.mv (oN (-1)))] [4] [] (.ret))))
def de:List aK:= [.tmp 4]
def qF:List Nat:= []
theorem j6:aS Tryz.prog b9 qF di de 19:=aA ay (by kernel_rfl)
-- query_leaves range i=18 n=17 c=19 i2=25 id=0: live [1:out, 16:] changed [1] res [1, 24]
def jj:CC:=oX [oB 2 (.box aj true (oT 0)),oB 4 (.mv (.const on))] [1,2] [1,24] (.seq (oX [oE 7 0 2,oC 8 1 7,oB 9 (.eql false false [.int] (oT 8) (oN 1))] [1,2,9] [1,24] (.ite (oT 9) (oX [oA 10 1,oD 11 13 2,oZ 12 hZ [oT 11],oB 13 (.bslice aj 13 [oT 12]),oB 14 (.append none aj 13 184 (oT 10) (oT 13)),oA 4 14] [4] [1,14,24] (.ret))
 (.skip))) (.keep [1,2] [1,24] (.seq (oX [oE 15 12 2,oC 16 1 15,oB 17 (.len (oT 16)),oB 18 (.mv (oN 0))] [1,16,17,18] [1,24] (bn 0 18 17 19 1 (oX [oB 20 (.iaddr 13 (oT 16) (oT 18)),oD 21 13 20,oB 6 (.alloc aj [oi,oi,oe,oe,oe,oe,ob,on,oe,oe,oi,oi,on]),oF 13 6 21] [1,6,16,17,18] [1,6,24] (.reg [oD 22 13 6,oA 23 1,oZ 24 cg [oT 22,oT 23],oA 1 24])) 25))
 (.keep [1] [1,24] (oX [oA 26 1,oA 4 26] [4] [1,14,24] (.ret))))))
def jd:List aK:= [.tmp 4]
def DP:List Nat:= [2]
theorem uK:aS Tryz.prog cg DP jj jd 27:=aA ay (by kernel_rfl)
def qW:CC:=oX [oB 1 (.box aj true (oT 0)),oB 2 (.alloc aj [oi,oi,oe,oe,oe,oe,ob,on,oe,oe,oi,oi,on])] [1,2] [2] (.seq (.regd [oE 3 0 1,oC 4 1 3,oE 5 1 1,oD 6 7 5,oZ 7 ej [oT 6],oE 8 8 1,oC 9 1 8] [oB 10 (.build [oi,oi,oe,oe,oe,oe,ob,on,oe,oe,oi,oi,on] [(0,1,oT 4),(1,7,oT 7),(8,1,oT 9)]),.op none none (.store (some 2) 13 (oT 2) (oT 10))])
 (.keep [2] [2] (.ret)))
def qx:List aK:= [.cell 2 true 13]
def Gq:List Nat:= [1,2002002]
theorem FU:aS Tryz.prog hZ Gq qW qx 11:=aA ay (by kernel_rfl)
-- query_copied range i=11 n=10 c=12 i2=22 id=0: live [2:, 3:out, 9:] changed [] res [2, 3, 20]
def pF:CC:=oX [oB 1 (.box aR true (oT 0)),oB 2 (.alloc aR [oi,oe,oe,oe,oe,ob,on])] [1,2] [2,20] (oX [oD 6 7 1,oB 3 (.alloc aR [oi,oe,oe,oe,oe,ob,on]),oF 7 3 6] [1,2,3] [2,3,20] (oX [oE 7 6 3,.op none none (.store none 1 (oT 7) (.const on))] [1,2,3] [2,3,20] (.seq (oX [oE 8 6 1,oC 9 1 8,oB 10 (.len (oT 9)),
 oB 11 (.mv (oN 0))] [2,3,9,10,11] [2,3,20] (bn 0 11 10 12 1 (oX [oB 13 (.iaddr 7 (oT 9) (oT 11)),oD 14 7 13,oB 5 (.alloc aR [oi,oe,oe,oe,oe,ob,on]),oF 7 5 14] [2,3,5,9,10,11] [2,3,5,20] (.regd [oE 15 6 3,oC 16 1 15,oD 17 7 5,oZ 18 ej [oT 17],oB 19 (.bslice aR 7 [oT 18])] [oB 20 (.append (some 20) aR 7 104 (oT 16) (oT 19)),oE 21 6 3,
 .op none none (.store (some 3) 1 (oT 21) (oT 20))])) 22)) (.keep [2,3] [2,3,20] (oX [oD 23 7 3,oF 7 2 23] [2] [2,20] (.ret))))))
def pq:List aK:= [.cell 2 true 7]
def DQ:List Nat:= [1,2021003,1020020]
theorem DE:aS Tryz.prog ej DQ pF pq 24:=aA ay (by kernel_rfl)
def hD:CC:=oX [oB 1 (.box aj true (oT 0)),oB 2 (.mv (.const ob))] [1] [] (oX [oE 3 1 1,oD 4 7 3,oZ 5 dC [oT 4],oB 6 (.not (oT 5)),oA 2 6] [2] [] (.ret))
def gN:List aK:= [.tmp 2]
def Au:List Nat:= [1]
theorem rJ:aS Tryz.prog cT Au hD gN 7:=aA ay (by kernel_rfl)
def gn:CC:=oX [oB 1 (.box aR true (oT 0)),oB 2 (.mv (.const ob))] [1] [] (oX [oD 6 7 1,oZ 7 bF [oT 6,oN 0,oN 1],oA 5 7,oB 8 (.ext (oT 5) 0),oB 9 (.ext (oT 5) 1),oA 3 8,oA 4 9] [1,3,4] [] (oX [oA 10 3,oB 11 (.cmp .leq (oT 10) (oN 60)),oA 12 11,oH 13 12 (.mv (oT 4)),oH 14 12 (.cmp .leq (oT 13) (oN 20)),
 oB 15 (.pick (oT 12) (oT 14) (.const ob)),oA 16 15,oH 17 16 (.load true 7 (oT 1)),oH 18 16 (.call ca [oT 17,.func bu]),oH 19 16 (.eql false false [.int] (oT 18) (oN 0)),oB 20 (.pick (oT 16) (oT 19) (.const ob)),oA 2 20] [2] [] (.ret)))
def gg:List aK:= [.tmp 2]
def zj:List Nat:= [1]
theorem qE:aS Tryz.prog dC zj gn gg 21:=aA ay (by kernel_rfl)
-- condition_measure range i=19 n=18 c=20 i2=37 id=0: live [1:nodes, 2:deep, 8:deepest, 17:] changed [1, 8] res []
def ff:CC:=oX [oB 3 (.box aR true (oT 0)),oB 6 (.mv (oN 0)),oB 7 (.mv (oN 0))] [1,2,3] [] (oX [oA 13 1,oB 14 (.arith .add (oT 13) (oN 1)),oA 1 14] [1,2,3] [] (oX [oA 15 2,oA 8 15] [1,2,3,8] [] (.seq (oX [oE 16 6 3,oC 17 1 16,oB 18 (.len (oT 17)),oB 19 (.mv (oN 0))] [1,2,8,17,18,19] [] (bn 0 19 18 20 1 (oX [oB 21 (.iaddr 7 (oT 17) (oT 19)),oD 22 7 21,
 oB 10 (.alloc aR [oi,oe,oe,oe,oe,ob,on]),oF 7 10 22] [1,2,8,10,17,18,19] [10] (.seq (oX [oA 23 1,oB 24 (.cmp .gtr (oT 23) (oN 60))] [1,2,8,10,17,18,19,24] [10] (.ite (oT 24) (.exit 0) (.skip))) (.keep [1,2,8,10,17,18,19] [10] (oX [oD 26 7 10,oA 27 1,oA 28 2,oB 29 (.arith .add (oT 28) (oN 1)),oZ 30 bF [oT 26,oT 27,oT 29],oA 25 30,oB 31 (.ext (oT 25) 0),
 oB 32 (.ext (oT 25) 1),oA 11 31,oA 12 32] [2,8,11,12,17,18,19] [] (.reg [oA 33 11,oA 34 8,oA 35 12,oB 36 (.mm true [oT 34,oT 35]),oA 1 33,oA 8 36]))))) 37)) (.keep [1,8] [] (oX [oA 38 1,oA 39 8,oA 6 38,oA 7 39] [6,7] [] (.ret))))))
def eY:List aK:= [.tmp 6, .tmp 7]
def wN:List Nat:= [3]
theorem oQ:aS Tryz.prog bF wN ff eY 40:=aA ay (by kernel_rfl)
-- condition_walk range i=18 n=17 c=19 i2=28 id=0: live [1:f, 16:] changed [] res []
def hJ:CC:=oX [oB 2 (.box aR true (oT 0)),oB 4 (.mv (oN 0))] [1,2] [] (.seq (oX [oA 9 1,oD 10 7 2,oB 11 (.callv (oT 9) [oT 10]),oA 5 11] [1,2,5] [] (oX [oA 12 5,oB 13 (.eql true false [.int] (oT 12) (oN 0))] [1,2,5,13] [] (.ite (oT 13) (oX [oA 14 5,oA 4 14] [4] [] (.ret)) (.skip)))) (.keep [1,2] [] (.seq (oX [oE 15 6 2,oC 16 1 15,oB 17 (.len (oT 16)),
 oB 18 (.mv (oN 0))] [1,16,17,18] [] (bn 0 18 17 19 1 (oX [oB 20 (.iaddr 7 (oT 16) (oT 18)),oD 21 7 20,oB 7 (.alloc aR [oi,oe,oe,oe,oe,ob,on]),oF 7 7 21] [1,7,16,17,18] [7] (oX [oD 22 7 7,oA 23 1,oZ 24 ca [oT 22,oT 23],oA 8 24] [1,8,16,17,18] [] (oX [oA 25 8,oB 26 (.eql true false [.int] (oT 25) (oN 0))] [1,8,16,17,18,26] [] (.ite (oT 26) (oX [oA 27 8,
 oA 4 27] [4] [] (.ret)) (.skip))))) 28)) (.keep [] [] (oX [oB 4 (.mv (oN 0))] [4] [] (.ret))))))
def gO:List aK:= [.tmp 4]
def Aw:List Nat:= [2]
theorem rL:aS Tryz.prog ca Aw hJ gO 29:=aA ay (by kernel_rfl)
def fg:CC:=oX [oB 1 (.box aR true (oT 0)),oB 2 (.mv (oN 0))] [1] [] (.seq (oX [oD 3 7 1,oZ 4 dB [oT 3],oB 5 (.not (oT 4))] [5] [] (.ite (oT 5) (oX [oB 2 (.mv (oN 1))] [2] [] (.ret)) (.skip))) (.keep [] [] (oX [oB 2 (.mv (oN 0))] [2] [] (.ret))))
def eZ:List aK:= [.tmp 2]
def wO:List Nat:= [1]
theorem oR:aS Tryz.prog bu wO fg eZ 6:=aA ay (by kernel_rfl)
def bB:CC:=oX [oB 1 (.box aR true (oT 0)),oB 2 (.mv (.const ob))] [1] [] (oX [oB 3 (.mv (oN 0)),oB 4 (.mv (oN 0))] [1,3,4] [] (oX [oE 6 0 1,oC 7 1 6,oB 8 (.build [oi,oe,oe,oe,oe,ob,on] [(0,1,oT 7)]),oB 5 (.alloc aR [oi,oe,oe,oe,oe,ob,on]),oF 7 5 8] [1,3,4,5] [5] (.seq (oX [oE 9 0 1,
 oC 10 1 9] [1,3,4,5,10] [5] (.block 0 (.seq (.block 8 (.seq (.block 7 (.seq (.block 6 (.seq (.block 5 (.seq (.block 4 (.seq (.block 3 (.seq (.block 2 (.seq (.block 1 (.seq (.seq (oX [oB 12 (.eql false false [.int] (oT 10) (oN 1)),oA 11 12] [1,3,4,5,10,11] [5] (.ite (oT 11) (.exit 1) (.skip))) (.keep [1,3,4,5,10] [5] (.seq (oX [oB 14 (.eql false false [.int] (oT 10) (oN 2)),
 oA 13 14] [1,3,4,5,10,13] [5] (.ite (oT 13) (.exit 2) (.skip))) (.keep [1,3,4,5,10] [5] (.seq (oX [oB 16 (.eql false false [.int] (oT 10) (oN 3)),oA 15 16] [1,3,4,5,10,15] [5] (.ite (oT 15) (.exit 3) (.skip))) (.keep [1,3,4,5,10] [5] (.seq (oX [oB 18 (.eql false false [.int] (oT 10) (oN 4)),oA 17 18] [1,3,4,5,10,17] [5] (.ite (oT 17) (.exit 4) (.skip))) (.keep [1,3,4,5,10] [5] (.seq (oX [
 oB 20 (.eql false false [.int] (oT 10) (oN 5)),oA 19 20] [1,3,4,5,10,19] [5] (.ite (oT 19) (.exit 5) (.skip))) (.keep [1,5,10] [5] (.seq (oX [oB 22 (.eql false false [.int] (oT 10) (oN 6)),oA 21 22] [1,5,10,21] [5] (.ite (oT 21) (.exit 6) (.skip))) (.keep [1,5,10] [5] (.seq (oX [oB 24 (.eql false false [.int] (oT 10) (oN 7)),oA 23 24] [1,5,10,23] [5] (.ite (oT 23) (.skip) (.reg [
 oB 25 (.eql false false [.int] (oT 10) (oN 8)),oA 23 25]))) (.keep [1,5,23] [5] (.ite (oT 23) (.exit 7) (.skip)))))))))))))))) (.keep [] [] (.exit 8)))) (.keep [1,3,4,5] [5] (.exit 0)))) (.keep [1,3,4,5] [5] (.reg [oE 26 5 1,oC 27 1 26,oE 28 5 5,oF 1 28 27])))) (.keep [1,3,4,5] [5] (.seq (.regd [oE 29 1 1,oC 30 1 29,oE 31 3 1,oC 32 1 31,oE 33 1 5,
 .op none none (.store (some 5) 1 (oT 33) (oT 30))] [oE 34 3 5,.op none none (.store (some 5) 1 (oT 34) (oT 32))]) (.keep [1,3,4,5] [5] (.exit 0)))))) (.keep [1,3,4,5] [5] (.seq (.regd [oE 35 1 1,oC 36 1 35,oE 37 4 1,oC 38 1 37,oE 39 2 1,oC 40 1 39,oE 41 1 5,.op none none (.store (some 5) 1 (oT 41) (oT 36)),oE 42 4 5,.op none none (.store (some 5) 1 (oT 42) (oT 38))] [oE 43 2 5,
 .op none none (.store (some 5) 1 (oT 43) (oT 40))]) (.keep [1,3,4,5] [5] (.exit 0)))))) (.keep [1,3,4,5] [5] (.seq (.seq (.regd [oE 44 1 1,oC 45 1 44,oE 46 2 1,oC 47 1 46,oE 48 3 1,oC 49 1 48,oE 50 1 5,.op none none (.store (some 5) 1 (oT 50) (oT 45)),oE 51 2 5,.op none none (.store (some 5) 1 (oT 51) (oT 47))] [oE 52 3 5,.op none none (.store (some 5) 1 (oT 52) (oT 49))])
 (.keep [1,3,4,5] [5] (oX [oE 53 2 1,oC 54 1 53,oB 55 (.eql false false [.str] (oT 54) (oS ⟨#[]⟩)),oA 56 55,oH 57 56 (.faddr 3 (oT 1)),oH 58 56 (.load false 1 (oT 57)),oH 59 56 (.eql true false [.str] (oT 58) (oS ⟨#[]⟩)),oB 60 (.pick (oT 56) (oT 59) (.const ob))] [1,3,4,5,60] [5] (.ite (oT 60) (oX [oB 2 (.mv (.const ob))] [2] [] (.ret)) (.skip))))) (.keep [1,3,4,5] [5] (.exit 0))))))
 (.keep [1,5] [5] (oX [oB 3 (.mv (oN 1)),oB 4 (.mv (oN 1))] [1,3,4,5] [5] (.exit 0))))) (.keep [1,5] [5] (oX [oB 3 (.mv (oN 2)),oB 4 (.mv (oN 60))] [1,3,4,5] [5] (.exit 0))))) (.keep [] [] (.seq (oX [oB 2 (.mv (.const ob))] [2] [] (.ret)) (.keep [1,3,4,5] [5] (.exit 0))))))) (.keep [1,3,4,5] [5] (oX [oE 61 6 1,oC 62 1 61,oB 63 (.len (oT 62)),oA 64 3,oB 65 (.cmp .geq (oT 63) (oT 64)),
 oA 66 65,oH 67 66 (.faddr 6 (oT 1)),oH 68 66 (.load false 1 (oT 67)),oH 69 66 (.len (oT 68)),oH 70 66 (.mv (oT 4)),oH 71 66 (.cmp .leq (oT 69) (oT 70)),oB 72 (.pick (oT 66) (oT 71) (.const ob)),oA 73 72,oH 74 73 (.faddr 1 (oT 1)),oH 75 73 (.load false 1 (oT 74)),oH 76 73 (.faddr 1 (oT 5)),oH 77 73 (.load false 1 (oT 76)),oH 78 73 (.eql false false [.str] (oT 75) (oT 77)),
 oB 79 (.pick (oT 73) (oT 78) (.const ob)),oA 80 79,oH 81 80 (.faddr 2 (oT 1)),oH 82 80 (.load false 1 (oT 81)),oH 83 80 (.faddr 2 (oT 5)),oH 84 80 (.load false 1 (oT 83)),oH 85 80 (.eql false false [.str] (oT 82) (oT 84)),oB 86 (.pick (oT 80) (oT 85) (.const ob)),oA 87 86,oH 88 87 (.faddr 3 (oT 1)),oH 89 87 (.load false 1 (oT 88)),oH 90 87 (.faddr 3 (oT 5)),
 oH 91 87 (.load false 1 (oT 90)),oH 92 87 (.eql false false [.str] (oT 89) (oT 91)),oB 93 (.pick (oT 87) (oT 92) (.const ob)),oA 94 93,oH 95 94 (.faddr 4 (oT 1)),oH 96 94 (.load false 1 (oT 95)),oH 97 94 (.faddr 4 (oT 5)),oH 98 94 (.load false 1 (oT 97)),oH 99 94 (.eql false false [.str] (oT 96) (oT 98)),oB 100 (.pick (oT 94) (oT 99) (.const ob)),oA 101 100,
 oH 102 101 (.faddr 5 (oT 1)),oH 103 101 (.load false 1 (oT 102)),oH 104 101 (.faddr 5 (oT 5)),oH 105 101 (.load false 1 (oT 104)),oH 106 101 (.eql false false [.bool] (oT 103) (oT 105)),oB 107 (.pick (oT 101) (oT 106) (.const ob)),oA 2 107] [2] [] (.ret))))))
def bA:List aK:= [.tmp 2]
def zi:List Nat:= [1,2034005,2033005,2043005,2042005,2041005,2052005,2051005,2050005]
theorem qD:aS Tryz.prog dB zi bB bA 108:=aA ay (by kernel_rfl)
-- query_writer_pattern range i=12 n=11 c=13 i2=50 id=1: live [2:w, 3:p, 10:] changed [] res [0, 4, 6]
def bd:CC:=oX [oB 2 (.box mI true (oT 0)),oB 3 (.box aj true (oT 1))] [2,3] [0,900,4,6] (oX [oE 7 0 3,oC 8 1 7] [2,3,8] [0,900,4,6] (.block 0 (oX [oB 52 (.eql false false [.int] (oT 8) (oN 1)),oA 51 52] [2,3,8,51] [0,900,4,6] (.ite (oT 51) (.reg [oC 53 1 2,oD 54 13 3,oZ 55 cE [oT 53,oT 54]]) (oX [
 oB 57 (.eql false false [.int] (oT 8) (oN 2)),oA 56 57] [2,3,8,56] [0,900,4,6] (.ite (oT 56) (.regd [oC 58 1 2,oG 59 58,oE 60 0 59,oE 61 9 3,oC 62 1 61,oB 63 (.scat (oS ⟨#[60]⟩) (oT 62)),oB 64 (.scat (oT 63) (oS ⟨#[62]⟩))] [oZ 65 aa [oT 60,oT 64]]) (oX [oB 67 (.eql false false [.int] (oT 8) (oN 3)),oA 66 67] [2,3,8,66] [0,900,4,6] (.ite (oT 66) (.regd [
 oC 68 1 2,oG 69 68,oE 70 0 69,oE 71 9 3,oC 72 1 71,oB 73 (.scat (oS ⟨#[60,47]⟩) (oT 72)),oB 74 (.scat (oT 73) (oS ⟨#[62]⟩))] [oZ 75 aa [oT 70,oT 74]]) (oX [oB 77 (.eql false false [.int] (oT 8) (oN 6)),oA 76 77] [2,3,76] [0,900,4,6] (.ite (oT 76) (oX [oE 78 12 3,oC 79 1 78,oB 80 (.iaddr 13 (oT 79) (oN 0)),oD 81 13 80,
 oB 4 (.alloc aj [oi,oi,oe,oe,oe,oe,ob,on,oe,oe,oi,oi,on]),oF 13 4 81,.frz 4 0] [2,3,4] [0,900,4,6] (oX [oC 82 1 2,oE 83 0 4,oC 84 1 83,oB 85 (.eql false false [.int] (oT 84) (oN 5)),oA 86 85,oI 87 86 (.faddr 0 (oT 4)),oI 88 86 (.load false 1 (oT 87)),oI 89 86 (.eql false false [.int] (oT 88) (oN 4)),oB 90 (.pick (oT 86) (.const (.bool true)) (oT 89)),
 oB 91 (.clo cR [oT 2,oT 4]),oZ 92 aH [oT 82,oT 90,oT 91]] [2,3] [0,900,4,6] (.regd [oC 93 1 2,oG 94 93,oE 95 0 94,oE 96 10 3,oC 97 1 96,oE 98 11 3,oC 99 1 98,oZ 100 ke [oT 97,oT 99]] [oZ 101 aa [oT 95,oT 100]]))) (oX [oE 9 12 3,oC 10 1 9,oB 11 (.len (oT 10)),
 oB 12 (.mv (oN 0))] [2,3,10,11,12] [0,900,4,6] (bn 1 12 11 13 2 (oX [oA 14 12,oB 15 (.iaddr 13 (oT 10) (oT 12)),oD 16 13 15,oB 6 (.alloc aj [oi,oi,oe,oe,oe,oe,ob,on,oe,oe,oi,oi,on]),oA 5 14,oF 13 6 16,.frz 6 0] [2,3,5,6,10,11,12] [0,900,4,6] (.seq (oX [oA 17 5,oB 18 (.cmp .gtr (oT 17) (oN 0)),oA 19 18,oH 20 19 (.faddr 0 (oT 3)),oH 21 19 (.load false 1 (oT 20)),
 oH 22 19 (.eql false false [.int] (oT 21) (oN 5)),oB 23 (.pick (oT 19) (oT 22) (.const ob))] [2,3,5,6,10,11,12,23] [0,900,4,6] (.ite (oT 23) (.reg [oC 24 1 2,oG 25 24,oE 26 0 25,oZ 27 aa [oT 26,oS ⟨#[32,124]⟩]]) (.skip))) (.keep [2,3,5,6,10,11,12] [0,900,4,6] (.seq (oX [oA 28 5,
 oB 29 (.cmp .gtr (oT 28) (oN 0))] [2,3,6,10,11,12,29] [0,900,4,6] (.ite (oT 29) (.reg [oC 30 1 2,oG 31 30,oE 32 0 31,oZ 33 aa [oT 32,oS ⟨#[32]⟩]]) (.skip))) (.keep [2,3,6,10,11,12] [0,900,4,6] (.reg [oC 34 1 2,oE 35 0 6,oC 36 1 35,oB 37 (.eql false false [.int] (oT 36) (oN 5)),oA 38 37,oI 39 38 (.faddr 0 (oT 6)),oI 40 38 (.load false 1 (oT 39)),
 oI 41 38 (.eql false false [.int] (oT 40) (oN 4)),oI 42 38 (.mv (oT 41)),oH 43 42 (.faddr 0 (oT 3)),oH 44 42 (.load false 1 (oT 43)),oH 45 42 (.eql false false [.int] (oT 44) (oN 4)),oI 46 38 (.pick (oT 42) (oT 45) (.const ob)),oB 47 (.pick (oT 38) (.const (.bool true)) (oT 46)),oB 48 (.clo bh [oT 2,oT 6]),
 oZ 49 aH [oT 34,oT 47,oT 48]])))))) 50))))))))))))
def bc:List aK:= []
def sU:List Nat:= [3,2]
theorem mo:aS Tryz.prog aU sU bd bc 102:=aA ay (by kernel_rfl)
def gE:CC:= .reg [oC 2 1 0,oD 3 13 1,oZ 4 aU [oT 2,oT 3]]
def gA:List aK:= []
def ru:List Nat:= []
theorem rl:aS Tryz.prog cR ru gE gA 5:=aA ay (by kernel_rfl)
def gD:CC:= .reg [oC 2 1 0,oD 3 13 1,oZ 4 aU [oT 2,oT 3]]
def gz:List aK:= []
def rq:List Nat:= []
theorem kO:aS Tryz.prog bh rq gD gz 5:=aA ay (by kernel_rfl)
def iT:CC:= .seq (.seq (.reg [oA 6 1]) ((.ite (oT 6) (.reg [oA 7 0,oG 8 7,oE 9 0 8,oZ 10 aa [oT 9,oS ⟨#[40]⟩]]) (.skip)))) ((.seq (.reg [oA 11 2,oB 12 (.callv (oT 11) [])]) ((.seq (.reg [oA 13 1]) ((.ite (oT 13) (.reg [oA 14 0,oG 15 14,oE 16 0 15,oZ 17 aa [oT 16,oS ⟨#[41]⟩]]) (.skip)))))))
def iG:List aK:= []
def zf:List Nat:= []
theorem iP:aS Tryz.prog aH zf iT iG 18:=aA ay (by kernel_rfl)
def a6:CC:=oX [oB 3 (.box aj true (oT 1))] [0,3] [0,900] (.seq (oX [oE 5 8 3,oC 6 1 5,oB 7 (.eql true false [.str] (oT 6) (oS ⟨#[]⟩))] [0,3,7] [0,900] (.ite (oT 7) (.regd [oA 8 0,oG 9 8,oE 10 0 9,oE 11 8 3,oC 12 1 11,oB 13 (.scat (oT 12) (oS ⟨#[58]⟩))] [oZ 14 aa [oT 10,oT 13]]) (.skip))) (.keep [0,3] [0,900] (.seq (oX [
 oE 15 1 3,oE 16 0 15,oC 17 1 16,oB 18 (.eql false false [.int] (oT 17) (oN 1)),oA 19 18,oI 20 19 (.faddr 1 (oT 3)),oI 21 19 (.faddr 0 (oT 20)),oI 22 19 (.load false 1 (oT 21)),oI 23 19 (.eql false false [.int] (oT 22) (oN 2)),oI 24 19 (.mv (oT 23)),oH 25 24 (.faddr 1 (oT 3)),oH 26 24 (.faddr 1 (oT 25)),oH 27 24 (.load false 1 (oT 26)),
 oH 28 24 (.eql false false [.str] (oT 27) (oS ⟨#[]⟩)),oI 29 19 (.pick (oT 24) (oT 28) (.const ob)),oB 30 (.pick (oT 19) (.const (.bool true)) (oT 29)),oA 4 30] [0,3,4] [0,900] (oX [oA 31 4] [0,3,31] [0,900] (.ite (oT 31) (oX [oA 32 0,oE 33 1 3,oD 34 7 33,oZ 35 be [oT 32,oT 34]] [] [0,900] (.ret)) (.skip)))) (.keep [0,3] [0,900] (oX [oA 36 0,oG 37 36,oE 38 0 37,
 oZ 39 aa [oT 38,oS ⟨#[91]⟩]] [0,3] [0,900] (oX [oA 40 0,oE 41 1 3,oD 42 7 41,oZ 43 be [oT 40,oT 42]] [0] [0,900] (.reg [oA 44 0,oG 45 44,oE 46 0 45,oZ 47 aa [oT 46,oS ⟨#[93]⟩]])))))))
def aZ:List aK:= []
def va:List Nat:= [3]
theorem np:aS Tryz.prog cE va a6 aZ 48:=aA ay (by kernel_rfl)
-- query_writer_cond range i=12 n=11 c=13 i2=45 id=1: live [2:w, 3:x, 10:] changed [] res [0, 4, 6]
def bb:CC:=oX [oB 2 (.box mI true (oT 0)),oB 3 (.box aR true (oT 1))] [2,3] [0,900,4,6] (oX [oE 7 0 3,oC 8 1 7] [2,3,8] [0,900,4,6] (.block 0 (oX [oB 47 (.eql false false [.int] (oT 8) (oN 1)),oA 46 47] [2,3,8,46] [0,900,4,6] (.ite (oT 46) (.reg [oC 48 1 2,oG 49 48,oE 50 0 49,oZ 51 aa [oT 50,oS ⟨#[91,93]⟩]]) (oX [
 oB 53 (.eql false false [.int] (oT 8) (oN 2)),oA 52 53] [2,3,8,52] [0,900,4,6] (.ite (oT 52) (.seq (oX [oE 54 1 3,oC 55 1 54,oB 56 (.eql true false [.str] (oT 55) (oS ⟨#[]⟩))] [2,3,56] [0,900,4,6] (.ite (oT 56) (.regd [oC 57 1 2,oG 58 57,oE 59 0 58,oE 60 1 3,oC 61 1 60,oB 62 (.scat (oT 61) (oS ⟨#[61]⟩))] [oZ 63 aa [oT 59,oT 62]]) (.skip)))
 (.keep [2,3] [0,900,4,6] (.reg [oC 64 1 2,oE 65 3 3,oC 66 1 65,oE 67 5 3,oC 68 1 67,oZ 69 bQ [oT 64,oT 66,oT 68]]))) (oX [oB 71 (.eql false false [.int] (oT 8) (oN 3)),oA 70 71] [2,3,8,70] [0,900,4,6] (.ite (oT 70) (.seq (.regd [oC 72 1 2,oG 73 72,oE 74 0 73,oE 75 1 3,oC 76 1 75,oB 77 (.scat (oT 76) (oS ⟨#[32,99,111,110,116,97,105,110,115,32]⟩))] [
 oZ 78 aa [oT 74,oT 77]]) (.keep [2,3] [0,900,4,6] (.reg [oC 79 1 2,oE 80 3 3,oC 81 1 80,oZ 82 aP [oT 79,oT 81]]))) (oX [oB 84 (.eql false false [.int] (oT 8) (oN 4)),oA 83 84] [2,3,8,83] [0,900,4,6] (.ite (oT 83) (.regd [oC 85 1 2,oG 86 85,oE 87 0 86,oE 88 1 3,oC 89 1 88,oB 90 (.scat (oT 89) (oS ⟨#[61]⟩)),oE 91 4 3,oC 92 1 91,
 oB 93 (.scat (oT 90) (oT 92)),oB 94 (.scat (oT 93) (oS ⟨#[46]⟩)),oE 95 2 3,oC 96 1 95,oB 97 (.scat (oT 94) (oT 96))] [oZ 98 aa [oT 87,oT 97]]) (oX [oB 100 (.eql false false [.int] (oT 8) (oN 5)),oA 99 100] [2,3,8,99] [0,900,4,6] (.ite (oT 99) (.seq (.regd [oC 101 1 2,oG 102 101,oE 103 0 102,oE 104 1 3,oC 105 1 104,
 oB 106 (.scat (oS ⟨#[105,110,40]⟩) (oT 105))] [oZ 107 aa [oT 103,oT 106]]) (.keep [2,3] [0,900,4,6] (.seq (oX [oE 108 2 3,oC 109 1 108,oB 110 (.eql true false [.str] (oT 109) (oS ⟨#[]⟩))] [2,3,110] [0,900,4,6] (.ite (oT 110) (.seq (.regd [oC 111 1 2,oG 112 111,oE 113 0 112,oE 114 2 3,oC 115 1 114,oB 116 (.scat (oS ⟨#[44]⟩) (oT 115)),
 oB 117 (.scat (oT 116) (oS ⟨#[61]⟩))] [oZ 118 aa [oT 113,oT 117]]) (.keep [2,3] [0,900,4,6] (.reg [oC 119 1 2,oE 120 3 3,oC 121 1 120,oZ 122 aP [oT 119,oT 121]]))) (.skip))) (.keep [2] [0,900,4,6] (.reg [oC 123 1 2,oG 124 123,oE 125 0 124,oZ 126 aa [oT 125,oS ⟨#[41]⟩]]))))) (oX [
 oB 128 (.eql false false [.int] (oT 8) (oN 6)),oA 127 128] [2,3,127] [0,900,4,6] (.ite (oT 127) (oX [oE 129 6 3,oC 130 1 129,oB 131 (.iaddr 7 (oT 130) (oN 0)),oD 132 7 131,oB 4 (.alloc aR [oi,oe,oe,oe,oe,ob,on]),oF 7 4 132,.frz 4 0] [2,4] [0,900,4,6] (oX [oC 133 1 2,oG 134 133,oE 135 0 134,oZ 136 aa [oT 135,oS ⟨#[33]⟩]] [2,4] [0,900,4,6] (.reg [
 oC 137 1 2,oE 138 0 4,oC 139 1 138,oB 140 (.eql false false [.int] (oT 139) (oN 8)),oA 141 140,oI 142 141 (.faddr 0 (oT 4)),oI 143 141 (.load false 1 (oT 142)),oI 144 141 (.eql false false [.int] (oT 143) (oN 7)),oB 145 (.pick (oT 141) (.const (.bool true)) (oT 144)),oB 146 (.clo dH [oT 2,oT 4]),oZ 147 aH [oT 137,oT 145,oT 146]]))) (oX [oE 9 6 3,
 oC 10 1 9,oB 11 (.len (oT 10)),oB 12 (.mv (oN 0))] [2,3,10,11,12] [0,900,4,6] (bn 1 12 11 13 2 (oX [oA 14 12,oB 15 (.iaddr 7 (oT 10) (oT 12)),oD 16 7 15,oB 6 (.alloc aR [oi,oe,oe,oe,oe,ob,on]),oA 5 14,oF 7 6 16,.frz 6 0] [2,3,5,6,10,11,12] [0,900,4,6] (.seq (oX [oA 17 5,oB 18 (.cmp .gtr (oT 17) (oN 0))] [2,3,6,10,11,12,18] [0,900,4,6] (.ite (oT 18) (.regd [oC 19 1 2,
 oG 20 19,oE 21 0 20,oB 22 (.bslice az 1 [oS ⟨#[32,38,32]⟩,oS ⟨#[32,124,32]⟩]),oE 23 0 3,oC 24 1 23,oB 25 (.arith .sub (oT 24) (oN 7)),oB 26 (.iaddr 1 (oT 22) (oT 25)),oC 27 1 26] [oZ 28 aa [oT 21,oT 27]]) (.skip))) (.keep [2,3,6,10,11,12] [0,900,4,6] (.reg [oC 29 1 2,oE 30 0 6,oC 31 1 30,oB 32 (.eql false false [.int] (oT 31) (oN 8)),oA 33 32,
 oI 34 33 (.faddr 0 (oT 6)),oI 35 33 (.load false 1 (oT 34)),oI 36 33 (.eql false false [.int] (oT 35) (oN 7)),oI 37 33 (.mv (oT 36)),oH 38 37 (.faddr 0 (oT 3)),oH 39 37 (.load false 1 (oT 38)),oH 40 37 (.eql false false [.int] (oT 39) (oN 7)),oI 41 33 (.pick (oT 37) (oT 40) (.const ob)),oB 42 (.pick (oT 33) (.const (.bool true)) (oT 41)),oB 43 (.clo dG [oT 2,oT 6]),
 oZ 44 aH [oT 29,oT 42,oT 43]])))) 45))))))))))))))))
def ba:List aK:= []
def ww:List Nat:= [3,2]
theorem oP:aS Tryz.prog be ww bb ba 148:=aA ay (by kernel_rfl)
def iX:CC:= .reg [oC 2 1 0,oD 3 7 1,oZ 4 be [oT 2,oT 3]]
def iK:List aK:= []
def ud:List Nat:= []
theorem tT:aS Tryz.prog dH ud iX iK 5:=aA ay (by kernel_rfl)
def iW:CC:= .reg [oC 2 1 0,oD 3 7 1,oZ 4 be [oT 2,oT 3]]
def iJ:List aK:= []
def uc:List Nat:= []
theorem tS:aS Tryz.prog dG uc iW iJ 5:=aA ay (by kernel_rfl)
def gw:CC:=oX [oA 6 0,oA 7 1,oZ 8 aP [oT 6,oT 7]] [0,2] [0,900] (oX [oA 9 2] [0,9] [0,900] (.ite (oT 9) (.reg [oA 10 0,oG 11 10,oE 12 0 11,oZ 13 aa [oT 12,oS ⟨#[37,99]⟩]]) (.skip)))
def gu:List aK:= []
def u9:List Nat:= []
theorem uV:aS Tryz.prog bQ u9 gw gu 14:=aA ay (by kernel_rfl)
def lm:CC:= .regd [oA 4 0,oG 5 4,oE 6 0 5,oA 7 1,oZ 8 fb [oT 7,oS ⟨#[34]⟩,oS ⟨#[34,34]⟩],oB 9 (.scat (oS ⟨#[34]⟩) (oT 8)),oB 10 (.scat (oT 9) (oS ⟨#[34]⟩))] [oZ 11 aa [oT 6,oT 10]]
def k8:List aK:= []
def xU:List Nat:= []
theorem xK:aS Tryz.prog aP xU lm k8 12:=aA ay (by kernel_rfl)
def dV:CC:=oX [oB 4 (.mv (oS ⟨#[]⟩))] [0,1] [] (.seq (.block 0 (oX [oA 6 0,oB 7 (.eql false false [.int] (oT 6) (oN 0)),oA 8 7,oH 9 8 (.mv (oT 1)),oH 10 8 (.eql false false [.int] (oT 9) (oN 1)),oB 11 (.pick (oT 8) (oT 10) (.const ob)),oA 5 11] [0,1,5] [] (.ite (oT 5) (oX [oB 4 (.mv (oS ⟨#[63]⟩))] [4] [] (.ret)) (oX [oA 13 0,
 oB 14 (.eql false false [.int] (oT 13) (oN 0)),oA 15 14,oH 16 15 (.mv (oT 1)),oH 17 15 (.eql false false [.int] (oT 16) (oN (-1))),oB 18 (.pick (oT 15) (oT 17) (.const ob)),oA 12 18] [0,1,12] [] (.ite (oT 12) (oX [oB 4 (.mv (oS ⟨#[42]⟩))] [4] [] (.ret)) (oX [oA 20 0,oB 21 (.eql false false [.int] (oT 20) (oN 1)),oA 22 21,oH 23 22 (.mv (oT 1)),
 oH 24 22 (.eql false false [.int] (oT 23) (oN (-1))),oB 25 (.pick (oT 22) (oT 24) (.const ob)),oA 19 25] [0,1,19] [] (.ite (oT 19) (oX [oB 4 (.mv (oS ⟨#[43]⟩))] [4] [] (.ret)) (oX [oA 27 0,oA 28 1,oB 29 (.eql false false [.int] (oT 27) (oT 28)),oA 26 29] [0,1,26] [] (.ite (oT 26) (oX [oA 30 0,oZ 31 bp [oT 30],oB 32 (.scat (oS ⟨#[123]⟩) (oT 31)),
 oB 33 (.scat (oT 32) (oS ⟨#[125]⟩)),oA 4 33] [4] [] (.ret)) (oX [oA 35 1,oB 36 (.eql false false [.int] (oT 35) (oN (-1))),oA 34 36] [0,1,34] [] (.ite (oT 34) (oX [oA 37 0,oZ 38 bp [oT 37],oB 39 (.scat (oS ⟨#[123]⟩) (oT 38)),oB 40 (.scat (oT 39) (oS ⟨#[44,125]⟩)),oA 4 40] [4] [] (.ret)) (.skip)))))))))))) (.keep [0,1] [] (oX [oA 41 0,oZ 42 bp [oT 41],
 oB 43 (.scat (oS ⟨#[123]⟩) (oT 42)),oB 44 (.scat (oT 43) (oS ⟨#[44]⟩)),oA 45 1,oZ 46 bp [oT 45],oB 47 (.scat (oT 44) (oT 46)),oB 48 (.scat (oT 47) (oS ⟨#[125]⟩)),oA 4 48] [4] [] (.ret))))
def dN:List aK:= [.tmp 4]
def DL:List Nat:= []
theorem Dy:aS Tryz.prog ke DL dV dN 49:=aA ay (by kernel_rfl)
def jz:CC:=oX [oB 6 (.mv (oS ⟨#[]⟩))] [0,1,2] [] (oX [oA 7 0,oA 8 1,oA 9 2,oZ 10 gS [oT 7,oT 8,oT 9,oN (-1)],oA 6 10] [6] [] (.ret))
def jt:List aK:= [.tmp 6]
def u7:List Nat:= []
theorem uU:aS Tryz.prog fb u7 jz jt 11:=aA ay (by kernel_rfl)
-- strings_Replace range i=53 n=52 c=54 i2=73 id=0: live [0:s, 1:old, 2:new, 10:b, 11:start] changed [11] res [10]
-- strings_Replace range i=78 n=77 c=79 i2=98 id=2: live [0:s, 2:new, 10:b, 11:start] changed [11] res [10]
def me:CC:=oX [oB 8 (.mv (oS ⟨#[]⟩))] [0,1,2,3] [] (.seq (oX [oA 16 1,oA 17 2,oB 18 (.eql false false [.str] (oT 16) (oT 17)),oA 19 18,oI 20 19 (.mv (oT 3)),oI 21 19 (.eql false false [.int] (oT 20) (oN 0)),oB 22 (.pick (oT 19) (.const (.bool true)) (oT 21))] [0,1,2,3,22] [] (.ite (oT 22) (oX [oA 23 0,oA 8 23] [8] [10] (.ret)) (.skip))) (.keep [0,1,2,3] [] (.seq (oX [
 oA 24 0,oA 25 1,oZ 26 lU [oT 24,oT 25],oA 9 26] [0,1,2,3,9] [] (oX [oA 27 9,oB 28 (.eql false false [.int] (oT 27) (oN 0))] [0,1,2,3,9,28] [] (.ite (oT 28) (oX [oA 29 0,oA 8 29] [8] [10] (.ret)) (oX [oA 30 3,oB 31 (.cmp .lss (oT 30) (oN 0)),oA 32 31,oI 33 32 (.mv (oT 9)),oI 34 32 (.mv (oT 3)),oI 35 32 (.cmp .lss (oT 33) (oT 34)),
 oB 36 (.pick (oT 32) (.const (.bool true)) (oT 35))] [0,1,2,3,9,36] [] (.ite (oT 36) (.reg [oA 37 9,oA 3 37]) (.skip)))))) (.keep [0,1,2,3] [] (oX [oB 10 (.alloc yF [.pointer none,on])] [0,1,2,3,10] [10] (oX [oA 38 0,oB 39 (.slen (oT 38)),oA 40 3,oA 41 2,oB 42 (.slen (oT 41)),oA 43 1,oB 44 (.slen (oT 43)),oB 45 (.arith .sub (oT 42) (oT 44)),
 oB 46 (.arith .mul (oT 40) (oT 45)),oB 47 (.arith .add (oT 39) (oT 46)),oZ 48 un [oT 10,oT 47]] [0,1,2,3,10] [10] (oX [oB 11 (.mv (oN 0))] [0,1,2,3,10,11] [10] (.seq (oX [oA 49 1,oB 50 (.slen (oT 49)),oB 51 (.cmp .gtr (oT 50) (oN 0))] [0,1,2,3,10,11,51] [10] (.ite (oT 51) (oX [oA 52 3,oB 53 (.mv (oN 0))] [0,1,2,10,11,52,53] [10] (bn 0 53 52 54 1 (oX [oA 55 11,
 oA 56 0,oA 57 11,oB 58 (.sslice (oT 56) (some (oT 57)) none),oA 59 1,oZ 60 DW [oT 58,oT 59],oB 61 (.arith .add (oT 55) (oT 60)),oA 12 61] [0,1,2,10,11,12,52,53] [10] (oX [oA 62 0,oA 63 11,oA 64 12,oB 65 (.sslice (oT 62) (some (oT 63)) (some (oT 64))),oZ 66 aa [oT 10,oT 65]] [0,1,2,10,12,52,53] [10] (oX [oA 67 2,
 oZ 68 aa [oT 10,oT 67]] [0,1,2,10,12,52,53] [10] (.reg [oA 69 12,oA 70 1,oB 71 (.slen (oT 70)),oB 72 (.arith .add (oT 69) (oT 71)),oA 11 72])))) 73)) (oX [oA 74 2,oZ 75 aa [oT 10,oT 74]] [0,2,3,10,11] [10] (oX [oA 76 3,oB 77 (.arith .sub (oT 76) (oN 1)),oB 78 (.mv (oN 0))] [0,2,10,11,77,78] [10] (bn 2 78 77 79 3 (oX [oA 81 0,
 oA 82 11,oB 83 (.sslice (oT 81) (some (oT 82)) none),oZ 84 mB [oT 83],oA 80 84,oB 85 (.ext (oT 80) 0),oB 86 (.ext (oT 80) 1),oA 13 85,oA 14 86] [0,2,10,11,14,77,78] [10] (oX [oA 87 11,oA 88 14,oB 89 (.arith .add (oT 87) (oT 88)),oA 15 89] [0,2,10,11,15,77,78] [10] (oX [oA 90 0,oA 91 11,oA 92 15,oB 93 (.sslice (oT 90) (some (oT 91)) (some (oT 92))),
 oZ 94 aa [oT 10,oT 93]] [0,2,10,15,77,78] [10] (oX [oA 95 2,oZ 96 aa [oT 10,oT 95]] [0,2,10,15,77,78] [10] (.reg [oA 97 15,oA 11 97]))))) 98))))) (.keep [0,10,11] [10] (oX [oA 99 0,oA 100 11,oB 101 (.sslice (oT 99) (some (oT 100)) none),oZ 102 aa [oT 10,oT 101]] [10] [10] (oX [
 oZ 103 cp [oT 10],oA 8 103] [8] [10] (.ret))))))))))))
def lZ:List aK:= [.tmp 8]
def zd:List Nat:= []
theorem yW:aS Tryz.prog gS zd me lZ 104:=aA ay (by kernel_rfl)
-- strings_Count while id=0: live [0:s, 1:substr, 5:n] changed [0, 5] res []
def rb:CC:=oX [oB 0 (.mv (.const ob))] [] [] (oX [oZ 5 eW [oS ⟨#[60,115,62,32,91,119,111,114,100,61,34,84,104,101,34,37,99,93]⟩],oA 4 5,oB 6 (.ext (oT 4) 0),oB 7 (.ext (oT 4) 1),oB 8 (.ext (oT 4) 2),oB 1 (.alloc jO [oi,oi,oe,oe,oe,oe,ob,on,oe,oe,oi,oi,on,oi,oe,oe,oe,oe,oe,ob,oi,oi,on,on,on,oi]),oF 26 1 6,oA 2 7,oA 3 8] [1,2,3] [1] (oX [oA 9 3,
 oB 10 (.eql false false [.int] (oT 9) (oN 0)),oA 11 10,oH 12 11 (.mv (oT 2)),oH 13 11 (.eql false false [.int] (oT 12) (oN 0)),oB 14 (.pick (oT 11) (oT 13) (.const ob)),oA 15 14,oH 16 15 (.faddr 0 (oT 1)),oH 17 15 (.faddr 0 (oT 16)),oH 18 15 (.load false 1 (oT 17)),oH 19 15 (.eql false false [.int] (oT 18) (oN 4)),oB 20 (.pick (oT 15) (oT 19) (.const ob)),oA 21 20,
 oH 22 21 (.faddr 0 (oT 1)),oH 23 21 (.faddr 12 (oT 22)),oH 24 21 (.load false 1 (oT 23)),oH 25 21 (.len (oT 24)),oH 26 21 (.eql false false [.int] (oT 25) (oN 2)),oB 27 (.pick (oT 21) (oT 26) (.const ob)),oA 28 27,oH 29 28 (.faddr 0 (oT 1)),oH 30 28 (.faddr 12 (oT 29)),oH 31 28 (.load false 1 (oT 30)),oH 32 28 (.iaddr 13 (oT 31) (oN 1)),oH 33 28 (.faddr 1 (oT 32)),
 oH 34 28 (.faddr 5 (oT 33)),oH 35 28 (.load false 1 (oT 34)),oB 36 (.pick (oT 28) (oT 35) (.const ob)),oA 37 36,oH 38 37 (.faddr 0 (oT 1)),oH 39 37 (.load true 13 (oT 38)),oH 40 37 (.call m8 [oT 39]),oH 41 37 (.eql false false [.int] (oT 40) (oN 2)),oB 42 (.pick (oT 37) (oT 41) (.const ob)),oA 43 42,oH 44 43 (.load true 26 (oT 1)),oH 45 43 (.call dM [oT 44]),
 oH 46 43 (.eql false false [.str] (oT 45) (oS ⟨#[60,115,62,32,91,119,111,114,100,61,34,84,104,101,34,37,99,93]⟩)),oB 47 (.pick (oT 43) (oT 46) (.const ob)),oA 0 47] [0] [] (.ret)))
def qC:List aK:= [.tmp 0]
def Gw:List Nat:= []
theorem FZ:aS Tryz.prog jp Gw rb qC 48:=aA ay (by kernel_rfl)
-- query_labels range i=25 n=24 c=26 i2=32 id=0: live [1:out, 23:] changed [1] res [1, 21, 31]
-- law23_QueryLeaves range i=27 n=26 c=28 i2=73 id=0: live [3:q, 4:x, 5:y, 6:names] changed [6] res [3, 72]
-- law23_QueryLeaves range i=48 n=47 c=49 i2=62 id=2: live [3:q, 4:x, 5:y, 6:names, 7:i, 8:known, 26:, 27:, 46:] changed [8] res [3, 72]
-- r23_SamePattern range i=59 n=58 c=60 i2=74 id=0: live [2:a, 3:b] changed [] res []
def mf:CC:=oX [oB 2 (.box aj true (oT 0)),oB 3 (.box aj true (oT 1)),oB 4 (.mv (.const ob))] [2,3] [] (.seq (oX [oE 6 0 2,oC 7 1 6,oE 8 0 3,oC 9 1 8,oB 10 (.eql true false [.int] (oT 7) (oT 9)),oA 11 10,oI 12 11 (.faddr 1 (oT 2)),oI 13 11 (.load true 7 (oT 12)),oI 14 11 (.faddr 1 (oT 3)),oI 15 11 (.load true 7 (oT 14)),
 oI 16 11 (.call fA [oT 13,oT 15]),oI 17 11 (.not (oT 16)),oB 18 (.pick (oT 11) (.const (.bool true)) (oT 17)),oA 19 18,oI 20 19 (.faddr 8 (oT 2)),oI 21 19 (.load false 1 (oT 20)),oI 22 19 (.faddr 8 (oT 3)),oI 23 19 (.load false 1 (oT 22)),oI 24 19 (.eql true false [.str] (oT 21) (oT 23)),oB 25 (.pick (oT 19) (.const (.bool true)) (oT 24)),oA 26 25,oI 27 26 (.faddr 9 (oT 2)),
 oI 28 26 (.load false 1 (oT 27)),oI 29 26 (.faddr 9 (oT 3)),oI 30 26 (.load false 1 (oT 29)),oI 31 26 (.eql true false [.str] (oT 28) (oT 30)),oB 32 (.pick (oT 26) (.const (.bool true)) (oT 31)),oA 33 32,oI 34 33 (.faddr 10 (oT 2)),oI 35 33 (.load false 1 (oT 34)),oI 36 33 (.faddr 10 (oT 3)),oI 37 33 (.load false 1 (oT 36)),oI 38 33 (.eql true false [.int] (oT 35) (oT 37)),
 oB 39 (.pick (oT 33) (.const (.bool true)) (oT 38)),oA 40 39,oI 41 40 (.faddr 11 (oT 2)),oI 42 40 (.load false 1 (oT 41)),oI 43 40 (.faddr 11 (oT 3)),oI 44 40 (.load false 1 (oT 43)),oI 45 40 (.eql true false [.int] (oT 42) (oT 44)),oB 46 (.pick (oT 40) (.const (.bool true)) (oT 45)),oA 47 46,oI 48 47 (.faddr 12 (oT 2)),oI 49 47 (.load false 1 (oT 48)),oI 50 47 (.len (oT 49)),
 oI 51 47 (.faddr 12 (oT 3)),oI 52 47 (.load false 1 (oT 51)),oI 53 47 (.len (oT 52)),oI 54 47 (.eql true false [.int] (oT 50) (oT 53)),oB 55 (.pick (oT 47) (.const (.bool true)) (oT 54))] [2,3,55] [] (.ite (oT 55) (oX [oB 4 (.mv (.const ob))] [4] [] (.ret)) (.skip))) (.keep [2,3] [] (.seq (oX [oE 56 12 2,oC 57 1 56,oB 58 (.len (oT 57)),
 oB 59 (.mv (oN 0))] [2,3,58,59] [] (bn 0 59 58 60 1 (oX [oA 61 59,oA 5 61] [2,3,5,58,59] [] (.seq (.regd [oE 62 12 2,oC 63 1 62,oA 64 5,oB 65 (.iaddr 13 (oT 63) (oT 64)),oD 66 13 65,oE 67 12 3,oC 68 1 67,oA 69 5,oB 70 (.iaddr 13 (oT 68) (oT 69)),oD 71 13 70] [oZ 72 cW [oT 66,oT 71],oB 73 (.not (oT 72))]) (.keep [2,3,58,59,73] [] (.ite (oT 73) (oX [
 oB 4 (.mv (.const ob))] [4] [] (.ret)) (.skip))))) 74)) (.keep [] [] (oX [oB 4 (.mv (.const (.bool true)))] [4] [] (.ret))))))
def l5:List aK:= [.tmp 4]
def ze:List Nat:= [2,3]
theorem yX:aS Tryz.prog cW ze mf l5 75:=aA ay (by kernel_rfl)
-- r22_Texts range i=13 n=12 c=14 i2=25 id=0: live [0:a, 1:b] changed [] res []
def uw:CC:=oX [oB 4 (.mv (.const ob))] [0,1] [] (.seq (oX [oA 6 0,oB 7 (.len (oT 6)),oA 8 1,oB 9 (.len (oT 8)),oB 10 (.eql true false [.int] (oT 7) (oT 9))] [0,1,10] [] (.ite (oT 10) (oX [oB 4 (.mv (.const ob))] [4] [] (.ret)) (.skip))) (.keep [0,1] [] (.seq (oX [oA 11 0,oB 12 (.len (oT 11)),oB 13 (.mv (oN 0))] [0,1,12,13] [] (bn 0 13 12 14 1 (oX [oA 15 13,
 oA 5 15] [0,1,5,12,13] [] (.seq (.regd [oA 16 0,oA 17 5,oB 18 (.iaddr 1 (oT 16) (oT 17)),oC 19 1 18,oA 20 1,oA 21 5,oB 22 (.iaddr 1 (oT 20) (oT 21)),oC 23 1 22] [oB 24 (.eql true false [.str] (oT 19) (oT 23))]) (.keep [0,1,12,13,24] [] (.ite (oT 24) (oX [oB 4 (.mv (.const ob))] [4] [] (.ret)) (.skip))))) 25)) (.keep [] [] (oX [oB 4 (.mv (.const (.bool true)))] [4] [] (.ret))))))
def tH:List aK:= [.tmp 4]
def KK:List Nat:= []
theorem Ks:aS Tryz.prog o4 KK uw tH 26:=aA ay (by kernel_rfl)
end Go.Gv
