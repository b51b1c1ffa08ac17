/- A part of the framework and of the walks: C9 W33 W34 W35 W76. -/
import Derived.Test.YtaiffcbkmgfklaaGreatDoorGu10
import Derived.Test.YtaiffcbkmgfklaaGreatDoorGu14
import Derived.Test.YtaiffcbkmgfklaaGreatDoorGu13
import Derived.Test.YtaiffcbkmgfklaaGreatDoorGu12
set_option linter.unusedSimpArgs false
set_option linter.unusedVariables false
set_option maxRecDepth 100000

namespace Go.Gv
open Go.Proofs
-- query_quoted while id=0: live [0:s, 6:b, 7:i] changed [6, 7] res [43]
def pq:CC:=oX [oB 4 (.mv (oS ⟨#[]⟩)),oB 5 (.mv (oN 0))] [0,1] [] (oX [oB 6 (.mv (.const on))] [0,1,6] [43] (.seq (oX [oA 8 1,oB 9 (.arith .add (oT 8) (oN 1)),oA 7 9] [0,6,7] [43] (.block 0 (.loop 1 (.seq (oX [oA 10 7,oA 11 0,oB 12 (.slen (oT 11)),oB 13 (.cmp .lss (oT 10) (oT 12))] [0,6,7,13] [43] (.ite (oT 13) (.skip) (.exit 0)))
 (.keep [0,6,7] [43] (.seq (.block 1 (.seq (oX [oA 16 0,oA 17 7,oB 18 (.sidx (oT 16) (oT 17)),oB 19 (.eql false false [.int] (oT 18) (.const (.int .u8 34)))] [0,6,7,19] [43] (.ite (oT 19) (.seq (oX [oA 20 7,oB 21 (.arith .add (oT 20) (oN 1)),oA 22 0,oB 23 (.slen (oT 22)),oB 24 (.eql false false [.int] (oT 21) (oT 23)),oA 25 24,oI 26 25 (.mv (oT 0)),oI 27 25 (.mv (oT 7)),
 oI 28 25 (.arith .add (oT 27) (oN 1)),oI 29 25 (.sidx (oT 26) (oT 28)),oI 30 25 (.eql true false [.int] (oT 29) (.const (.int .u8 34))),oB 31 (.pick (oT 25) (.const (.bool true)) (oT 30))] [0,6,7,31] [43] (.ite (oT 31) (oX [oA 32 6,oB 33 (.bstr (oT 32)),oA 34 7,oB 35 (.arith .add (oT 34) (oN 1)),oA 4 33,oA 5 35] [4,5] [43] (.ret)) (.skip))) (.keep [0,6,7] [43] (.reg [oA 36 7,
 oB 37 (.arith .add (oT 36) (oN 1)),oA 7 37]))) (.skip))) (.keep [0,6,7] [43] (.reg [oA 38 6,oA 39 0,oA 40 7,oB 41 (.sidx (oT 39) (oT 40)),oB 42 (.bslice vD 1 [oT 41]),oB 43 (.append none vD 1 1 (oT 38) (oT 42)),oA 6 43])))) (.keep [0,6,7] [43] (.reg [oA 14 7,oB 15 (.arith .add (oT 14) (oN 1)),oA 7 15])))))))) (.keep [] [] (oX [oB 4 (.mv (oS ⟨#[]⟩)),
 oB 5 (.mv (oN (-1)))] [4,5] [43] (.ret)))))
def pa:List aI:= [.tmp 4, .tmp 5]
def EF:List Nat:= []
theorem Et:aR Tryz.prog jj EF pq pa 44:=aA ay (by kernel_rfl)
-- query_Format range i=56 n=55 c=57 i2=83 id=0: live [1:q, 3:w, 54:] changed [] res [36]
def pw:CC:=oX [oB 1 (.box gJ true (oT 0)),oB 2 (.mv (oS ⟨#[]⟩))] [1] [36,900] (.seq (oX [oE 6 0 1,oD 7 13 6,oZ 8 ft [oT 7],oB 9 (.not (oT 8)),oA 10 9,oI 11 10 (.faddr 25 (oT 1)),oI 12 10 (.load false 1 (oT 11)),oI 13 10 (.cmp .lss (oT 12) (oN 0)),oB 14 (.pick (oT 10) (.const (.bool true)) (oT 13)),oA 15 14,oI 16 15 (.faddr 25 (oT 1)),
 oI 17 15 (.load false 1 (oT 16)),oI 18 15 (.cmp .gtr (oT 17) (oN 3)),oB 19 (.pick (oT 15) (.const (.bool true)) (oT 18)),oA 20 19,oI 21 20 (.faddr 24 (oT 1)),oI 22 20 (.load false 1 (oT 21)),oI 23 20 (.call cp [oT 22,.func LQ]),oB 24 (.pick (oT 20) (.const (.bool true)) (oT 23)),oA 25 24,oI 26 25 (.faddr 13 (oT 1)),oI 27 25 (.load true 11 (oT 26)),
 oI 28 25 (.call kO [oT 27]),oI 29 25 (.not (oT 28)),oB 30 (.pick (oT 25) (.const (.bool true)) (oT 29))] [1,30] [36,900] (.ite (oT 30) (oX [oB 2 (.mv (oS ⟨#[]⟩))] [2] [36,900] (.ret)) (.skip))) (.keep [1] [36,900] (.seq (oX [oE 31 0 1,oD 32 13 31,oZ 33 cq [oT 32,.const on],.frz 33 13,
 oZ 34 aP [oT 33,.func fD]] [1,34] [36,900,33] (.ite (oT 34) (oX [oB 2 (.mv (oS ⟨#[]⟩))] [2] [36,900] (.ret)) (.skip))) (.keep [1] [36,900] (iB 7 (.reg [oB 35 (.build [.pointer none,on] []),oB 36 (.tbx uJ (oT 35)),oA 3 36]) (.keep [1,3] [36,900] (oX [oA 37 3,oE 38 0 1,oD 39 13 38,
 oZ 40 bP [oT 37,oT 39]] [1,3] [36,900] (.seq (oX [oE 41 13 1,oE 42 0 41,oC 43 1 42,oB 44 (.eql true false [.int] (oT 43) (oN 0))] [1,3,44] [36,900] (.ite (oT 44) (oX [oA 45 3,oG 46 45,oE 47 0 46,oZ 48 ac [oT 47,oS ⟨#[32,58,58,32]⟩]] [1,3] [36,900] (.reg [oA 49 3,oE 50 13 1,oD 51 11 50,oZ 52 ym [oT 49,oT 51]])) (.skip)))
 (.keep [1,3] [36,900] (.seq (oX [oE 53 24 1,oC 54 1 53,oB 55 (.len (oT 54)),oB 56 (.mv (oN 0))] [1,3,54,55,56] [36,900] (bi 0 56 55 57 1 (oX [oB 58 (.iaddr 3 (oT 54) (oT 56)),oD 59 3 58,oB 5 (.alloc db [oi,ob,oe]),oF 3 5 59] [1,3,5,54,55,56] [36,900,5] (oX [oA 60 3,oG 61 60,oE 62 0 61,
 oZ 63 ac [oT 62,oS ⟨#[32]⟩]] [1,3,5,54,55,56] [36,900,5] (.seq (oX [oE 64 1 5,oC 65 1 64] [1,3,5,54,55,56,65] [36,900,5] (.ite (oT 65) (.reg [oA 66 3,oG 67 66,oE 68 0 67,oZ 69 ac [oT 68,oS ⟨#[33]⟩]]) (.skip))) (.keep [1,3,5,54,55,56] [36,900,5] (.regd [oA 70 3,oG 71 70,oE 72 0 71,oZ 73 cw [],oE 74 0 5,oC 75 1 74,
 oB 76 (.iaddr 1 (oT 73) (oT 75)),oC 77 1 76,oB 78 (.scat (oT 77) (oS ⟨#[32]⟩)),oE 79 2 5,oC 80 1 79,oB 81 (.scat (oT 78) (oT 80))] [oZ 82 ac [oT 72,oT 81]]))))) 83)) (.keep [1,3] [36,900] (.seq (oX [oE 84 25 1,oC 85 1 84,oB 86 (.eql true false [.int] (oT 85) (oN 0))] [1,3,86] [36,900] (.ite (oT 86) (.regd [oA 87 3,oG 88 87,oE 89 0 88,
 oZ 90 cx [],oE 91 25 1,oC 92 1 91,oB 93 (.iaddr 1 (oT 90) (oT 92)),oC 94 1 93,oB 95 (.scat (oS ⟨#[32,115,116,114,97,116,101,103,121,32]⟩) (oT 94))] [oZ 96 ac [oT 89,oT 95]]) (.skip))) (.keep [3] [36,900] (oX [oA 97 3,oG 98 97,oE 99 0 98,oZ 100 dh [oT 99],oA 2 100] [2] [36,900] (.ret)))))))))))))))
def pf:List aI:= [.tmp 2]
def EJ:List Nat:= [1,200036]
theorem Ew:aR Tryz.prog jk EJ pw pf 101:=aA ay (by kernel_rfl)
def qX:CC:=oX [oB 1 (.box aq true (oT 0)),oB 2 (.mv (.const ob))] [1] [] (.seq (oX [oD 5 11 1,oZ 6 mK [oT 5]] [1,6] [] (.ite (oT 6) (oX [oB 2 (.mv (.const (.bool true)))] [2] [] (.ret)) (.skip))) (.keep [1] [] (oX [oD 8 11 1,oZ 9 EO [oT 8,oN 0,oN 1],oA 7 9,oB 10 (.ext (oT 7) 0),oB 11 (.ext (oT 7) 1),oA 3 10,oA 4 11] [1,3,4] [] (oX [
 oA 12 3,oB 13 (.cmp .leq (oT 12) (oN 60)),oA 14 13,oH 15 14 (.mv (oT 4)),oH 16 14 (.cmp .leq (oT 15) (oN 20)),oB 17 (.pick (oT 14) (oT 16) (.const ob)),oA 18 17,oH 19 18 (.load true 11 (oT 1)),oH 20 18 (.call I5 [oT 19,.func LR]),oB 21 (.pick (oT 18) (oT 20) (.const ob)),oA 2 21] [2] [] (.ret)))))
def qr:List aI:= [.tmp 2]
def Hm:List Nat:= [1]
theorem GO:aR Tryz.prog kO Hm qX qr 22:=aA ay (by kernel_rfl)
def sv:CC:=oX [oB 1 (.box aq true (oT 0)),oB 2 (.mv (.const ob))] [1] [] (oX [oE 3 0 1,oC 4 1 3,oB 5 (.eql false false [.int] (oT 4) (oN 0)),oA 6 5,oH 7 6 (.faddr 1 (oT 1)),oH 8 6 (.load false 1 (oT 7)),oH 9 6 (.eql false false [.str] (oT 8) (oS ⟨#[]⟩)),oB 10 (.pick (oT 6) (oT 9) (.const ob)),oA 11 10,oH 12 11 (.faddr 2 (oT 1)),
 oH 13 11 (.load false 1 (oT 12)),oH 14 11 (.eql false false [.str] (oT 13) (oS ⟨#[]⟩)),oB 15 (.pick (oT 11) (oT 14) (.const ob)),oA 16 15,oH 17 16 (.faddr 3 (oT 1)),oH 18 16 (.load false 1 (oT 17)),oH 19 16 (.eql false false [.str] (oT 18) (oS ⟨#[]⟩)),oB 20 (.pick (oT 16) (oT 19) (.const ob)),oA 21 20,oH 22 21 (.faddr 4 (oT 1)),oH 23 21 (.load false 1 (oT 22)),
 oH 24 21 (.eql false false [.str] (oT 23) (oS ⟨#[]⟩)),oB 25 (.pick (oT 21) (oT 24) (.const ob)),oA 26 25,oH 27 26 (.faddr 5 (oT 1)),oH 28 26 (.load false 1 (oT 27)),oH 29 26 (.eql false false [.str] (oT 28) (oS ⟨#[]⟩)),oB 30 (.pick (oT 26) (oT 29) (.const ob)),oA 31 30,oH 32 31 (.faddr 6 (oT 1)),oH 33 31 (.load false 1 (oT 32)),oH 34 31 (.not (oT 33)),
 oB 35 (.pick (oT 31) (oT 34) (.const ob)),oA 36 35,oH 37 36 (.faddr 7 (oT 1)),oH 38 36 (.load false 1 (oT 37)),oH 39 36 (.eql false false [.int] (oT 38) (oN 0)),oB 40 (.pick (oT 36) (oT 39) (.const ob)),oA 41 40,oH 42 41 (.faddr 8 (oT 1)),oH 43 41 (.load false 1 (oT 42)),oH 44 41 (.eql false false [.int] (oT 43) (oN 0)),oB 45 (.pick (oT 41) (oT 44) (.const ob)),oA 46 45,
 oH 47 46 (.faddr 9 (oT 1)),oH 48 46 (.load false 1 (oT 47)),oH 49 46 (.len (oT 48)),oH 50 46 (.eql false false [.int] (oT 49) (oN 0)),oB 51 (.pick (oT 46) (oT 50) (.const ob)),oA 52 51,oH 53 52 (.faddr 10 (oT 1)),oH 54 52 (.load false 1 (oT 53)),oH 55 52 (.len (oT 54)),oH 56 52 (.eql false false [.int] (oT 55) (oN 0)),oB 57 (.pick (oT 52) (oT 56) (.const ob)),oA 2 57] [2] [] (.ret))
def sd:List aI:= [.tmp 2]
def I2:List Nat:= [1]
theorem IR:aR Tryz.prog mK I2 sv sd 58:=aA ay (by kernel_rfl)
def eE:CC:=oX [oB 4 (.mv (.const ob))] [0,1] [] (oX [oA 5 0,oA 6 1,oZ 7 cV [oT 5,oT 6],oB 8 (.cmp .geq (oT 7) (oN 0)),oA 4 8] [4] [] (.ret))
def eq:List aI:= [.tmp 4]
def ow:List Nat:= []
theorem ol:aR Tryz.prog cp ow eE eq 9:=aA ay (by kernel_rfl)
-- slices_IndexFunc_Filter range i=8 n=7 c=9 i2=18 id=0: live [0:s, 1:f] changed [] res []
def fN:CC:=oX [oB 4 (.mv (oN 0))] [0,1] [] (.seq (oX [oA 6 0,oB 7 (.len (oT 6)),oB 8 (.mv (oN 0))] [0,1,7,8] [] (bi 0 8 7 9 1 (oX [oA 10 8,oA 5 10] [0,1,5,7,8] [] (oX [oA 11 1,oA 12 0,oA 13 5,oB 14 (.iaddr 3 (oT 12) (oT 13)),oD 15 3 14,oB 16 (.callv (oT 11) [oT 15])] [0,1,5,7,8,16] [] (.ite (oT 16) (oX [oA 17 5,oA 4 17] [4] [] (.ret)) (.skip)))) 18))
 (.keep [] [] (oX [oB 4 (.mv (oN (-1)))] [4] [] (.ret))))
def fI:List aI:= [.tmp 4]
def qz:List Nat:= []
theorem qx:aR Tryz.prog cV qz fN fI 19:=aA ay (by kernel_rfl)
-- query_leaves range i=18 n=17 c=19 i2=25 id=0: live [1:out, 16:] changed [1] res [1, 24]
def iu:CC:=oX [oB 2 (.box ag true (oT 0)),oB 4 (.mv (.const on))] [1,2] [1,24] (.seq (oX [oE 7 0 2,oC 8 1 7,oB 9 (.eql false false [.int] (oT 8) (oN 1))] [1,2,9] [1,24] (.ite (oT 9) (oX [oA 10 1,oD 11 13 2,oZ 12 gD [oT 11],oB 13 (.bslice ag 13 [oT 12]),oB 14 (.append none ag 13 184 (oT 10) (oT 13)),oA 4 14] [4] [1,14,24] (.ret))
 (.skip))) (.keep [1,2] [1,24] (.seq (oX [oE 15 12 2,oC 16 1 15,oB 17 (.len (oT 16)),oB 18 (.mv (oN 0))] [1,16,17,18] [1,24] (bi 0 18 17 19 1 (oX [oB 20 (.iaddr 13 (oT 16) (oT 18)),oD 21 13 20,oB 6 (.alloc ag [oi,oi,oe,oe,oe,oe,ob,on,oe,oe,oi,oi,on]),oF 13 6 21] [1,6,16,17,18] [1,6,24] (.reg [oD 22 13 6,oA 23 1,oZ 24 cq [oT 22,oT 23],oA 1 24])) 25))
 (.keep [1] [1,24] (oX [oA 26 1,oA 4 26] [4] [1,14,24] (.ret))))))
def il:List aI:= [.tmp 4]
def EH:List Nat:= [2]
theorem uO:aR Tryz.prog cq EH iu il 27:=aA ay (by kernel_rfl)
def qW:CC:=oX [oB 1 (.box ag true (oT 0)),oB 2 (.alloc ag [oi,oi,oe,oe,oe,oe,ob,on,oe,oe,oi,oi,on])] [1,2] [2] (.seq (.regd [oE 3 0 1,oC 4 1 3,oE 5 1 1,oD 6 7 5,oZ 7 dP [oT 6],oE 8 8 1,oC 9 1 8] [oB 10 (.build [oi,oi,oe,oe,oe,oe,ob,on,oe,oe,oi,oi,on] [(0,1,oT 4),(1,7,oT 7),(8,1,oT 9)]),.op none none (.store (some 2) 13 (oT 2) (oT 10))])
 (.keep [2] [2] (.ret)))
def qq:List aI:= [.cell 2 true 13]
def Hl:List Nat:= [1,2002002]
theorem GN:aR Tryz.prog gD Hl qW qq 11:=aA ay (by kernel_rfl)
-- query_copied range i=11 n=10 c=12 i2=22 id=0: live [2:, 3:out, 9:] changed [] res [2, 3, 20]
def pu:CC:=oX [oB 1 (.box aH true (oT 0)),oB 2 (.alloc aH [oi,oe,oe,oe,oe,ob,on])] [1,2] [2,20] (oX [oD 6 7 1,oB 3 (.alloc aH [oi,oe,oe,oe,oe,ob,on]),oF 7 3 6] [1,2,3] [2,3,20] (oX [oE 7 6 3,.op none none (.store none 1 (oT 7) (.const on))] [1,2,3] [2,3,20] (.seq (oX [oE 8 6 1,oC 9 1 8,oB 10 (.len (oT 9)),
 oB 11 (.mv (oN 0))] [2,3,9,10,11] [2,3,20] (bi 0 11 10 12 1 (oX [oB 13 (.iaddr 7 (oT 9) (oT 11)),oD 14 7 13,oB 5 (.alloc aH [oi,oe,oe,oe,oe,ob,on]),oF 7 5 14] [2,3,5,9,10,11] [2,3,5,20] (.regd [oE 15 6 3,oC 16 1 15,oD 17 7 5,oZ 18 dP [oT 17],oB 19 (.bslice aH 7 [oT 18])] [oB 20 (.append (some 20) aH 7 104 (oT 16) (oT 19)),oE 21 6 3,
 .op none none (.store (some 3) 1 (oT 21) (oT 20))])) 22)) (.keep [2,3] [2,3,20] (oX [oD 23 7 3,oF 7 2 23] [2] [2,20] (.ret))))))
def pe:List aI:= [.cell 2 true 7]
def EI:List Nat:= [1,2021003,1020020]
theorem Ev:aR Tryz.prog dP EI pu pe 24:=aA ay (by kernel_rfl)
def m0:CC:=oX [oB 1 (.box ag true (oT 0)),oB 2 (.mv (.const ob))] [1] [] (oX [oE 3 1 1,oD 4 7 3,oZ 5 gu [oT 4],oB 6 (.not (oT 5)),oA 2 6] [2] [] (.ret))
def my:List aI:= [.tmp 2]
def Bj:List Nat:= [1]
theorem AY:aR Tryz.prog fD Bj m0 my 7:=aA ay (by kernel_rfl)
def lK:CC:=oX [oB 1 (.box aH true (oT 0)),oB 2 (.mv (.const ob))] [1] [] (oX [oD 6 7 1,oZ 7 dW [oT 6,oN 0,oN 1],oA 5 7,oB 8 (.ext (oT 5) 0),oB 9 (.ext (oT 5) 1),oA 3 8,oA 4 9] [1,3,4] [] (oX [oA 10 3,oB 11 (.cmp .leq (oT 10) (oN 60)),oA 12 11,oH 13 12 (.mv (oT 4)),oH 14 12 (.cmp .leq (oT 13) (oN 20)),
 oB 15 (.pick (oT 12) (oT 14) (.const ob)),oA 16 15,oH 17 16 (.load true 7 (oT 1)),oH 18 16 (.call fE [oT 17,.func cX]),oH 19 16 (.eql false false [.int] (oT 18) (oN 0)),oB 20 (.pick (oT 16) (oT 19) (.const ob)),oA 2 20] [2] [] (.ret)))
def lm:List aI:= [.tmp 2]
def zS:List Nat:= [1]
theorem zx:aR Tryz.prog gu zS lK lm 21:=aA ay (by kernel_rfl)
-- condition_measure range i=19 n=18 c=20 i2=37 id=0: live [1:nodes, 2:deep, 8:deepest, 17:] changed [1, 8] res []
def jE:CC:=oX [oB 3 (.box aH true (oT 0)),oB 6 (.mv (oN 0)),oB 7 (.mv (oN 0))] [1,2,3] [] (oX [oA 13 1,oB 14 (.arith .add (oT 13) (oN 1)),oA 1 14] [1,2,3] [] (oX [oA 15 2,oA 8 15] [1,2,3,8] [] (.seq (oX [oE 16 6 3,oC 17 1 16,oB 18 (.len (oT 17)),oB 19 (.mv (oN 0))] [1,2,8,17,18,19] [] (bi 0 19 18 20 1 (oX [oB 21 (.iaddr 7 (oT 17) (oT 19)),oD 22 7 21,
 oB 10 (.alloc aH [oi,oe,oe,oe,oe,ob,on]),oF 7 10 22] [1,2,8,10,17,18,19] [10] (.seq (oX [oA 23 1,oB 24 (.cmp .gtr (oT 23) (oN 60))] [1,2,8,10,17,18,19,24] [10] (.ite (oT 24) (.exit 0) (.skip))) (.keep [1,2,8,10,17,18,19] [10] (oX [oD 26 7 10,oA 27 1,oA 28 2,oB 29 (.arith .add (oT 28) (oN 1)),oZ 30 dW [oT 26,oT 27,oT 29],oA 25 30,oB 31 (.ext (oT 25) 0),
 oB 32 (.ext (oT 25) 1),oA 11 31,oA 12 32] [2,8,11,12,17,18,19] [] (.reg [oA 33 11,oA 34 8,oA 35 12,oB 36 (.mm true [oT 34,oT 35]),oA 1 33,oA 8 36]))))) 37)) (.keep [1,8] [] (oX [oA 38 1,oA 39 8,oA 6 38,oA 7 39] [6,7] [] (.ret))))))
def jd:List aI:= [.tmp 6, .tmp 7]
def wU:List Nat:= [3]
theorem ws:aR Tryz.prog dW wU jE jd 40:=aA ay (by kernel_rfl)
-- condition_walk range i=18 n=17 c=19 i2=28 id=0: live [1:f, 16:] changed [] res []
def m6:CC:=oX [oB 2 (.box aH true (oT 0)),oB 4 (.mv (oN 0))] [1,2] [] (.seq (oX [oA 9 1,oD 10 7 2,oB 11 (.callv (oT 9) [oT 10]),oA 5 11] [1,2,5] [] (oX [oA 12 5,oB 13 (.eql true false [.int] (oT 12) (oN 0))] [1,2,5,13] [] (.ite (oT 13) (oX [oA 14 5,oA 4 14] [4] [] (.ret)) (.skip)))) (.keep [1,2] [] (.seq (oX [oE 15 6 2,oC 16 1 15,oB 17 (.len (oT 16)),
 oB 18 (.mv (oN 0))] [1,16,17,18] [] (bi 0 18 17 19 1 (oX [oB 20 (.iaddr 7 (oT 16) (oT 18)),oD 21 7 20,oB 7 (.alloc aH [oi,oe,oe,oe,oe,ob,on]),oF 7 7 21] [1,7,16,17,18] [7] (oX [oD 22 7 7,oA 23 1,oZ 24 fE [oT 22,oT 23],oA 8 24] [1,8,16,17,18] [] (oX [oA 25 8,oB 26 (.eql true false [.int] (oT 25) (oN 0))] [1,8,16,17,18,26] [] (.ite (oT 26) (oX [oA 27 8,
 oA 4 27] [4] [] (.ret)) (.skip))))) 28)) (.keep [] [] (oX [oB 4 (.mv (oN 0))] [4] [] (.ret))))))
def mA:List aI:= [.tmp 4]
def Bl:List Nat:= [2]
theorem A0:aR Tryz.prog fE Bl m6 mA 29:=aA ay (by kernel_rfl)
def jF:CC:=oX [oB 1 (.box aH true (oT 0)),oB 2 (.mv (oN 0))] [1] [] (.seq (oX [oD 3 7 1,oZ 4 gr [oT 3],oB 5 (.not (oT 4))] [5] [] (.ite (oT 5) (oX [oB 2 (.mv (oN 1))] [2] [] (.ret)) (.skip))) (.keep [] [] (oX [oB 2 (.mv (oN 0))] [2] [] (.ret))))
def je:List aI:= [.tmp 2]
def wV:List Nat:= [1]
theorem wt:aR Tryz.prog cX wV jF je 6:=aA ay (by kernel_rfl)
def lJ:CC:=oX [oB 1 (.box aH true (oT 0)),oB 2 (.mv (.const ob))] [1] [] (oX [oB 3 (.mv (oN 0)),oB 4 (.mv (oN 0))] [1,3,4] [] (oX [oE 6 0 1,oC 7 1 6,oB 8 (.build [oi,oe,oe,oe,oe,ob,on] [(0,1,oT 7)]),oB 5 (.alloc aH [oi,oe,oe,oe,oe,ob,on]),oF 7 5 8] [1,3,4,5] [5] (.seq (oX [oE 9 0 1,
 oC 10 1 9] [1,3,4,5,10] [5] (.block 0 (.seq (.block 8 (.seq (.block 7 (.seq (.block 6 (.seq (.block 5 (.seq (.block 4 (.seq (.block 3 (.seq (.block 2 (.seq (.block 1 (.seq (.seq (oX [oB 12 (.eql false false [.int] (oT 10) (oN 1)),oA 11 12] [1,3,4,5,10,11] [5] (.ite (oT 11) (.exit 1) (.skip))) (.keep [1,3,4,5,10] [5] (.seq (oX [oB 14 (.eql false false [.int] (oT 10) (oN 2)),
 oA 13 14] [1,3,4,5,10,13] [5] (.ite (oT 13) (.exit 2) (.skip))) (.keep [1,3,4,5,10] [5] (.seq (oX [oB 16 (.eql false false [.int] (oT 10) (oN 3)),oA 15 16] [1,3,4,5,10,15] [5] (.ite (oT 15) (.exit 3) (.skip))) (.keep [1,3,4,5,10] [5] (.seq (oX [oB 18 (.eql false false [.int] (oT 10) (oN 4)),oA 17 18] [1,3,4,5,10,17] [5] (.ite (oT 17) (.exit 4) (.skip))) (.keep [1,3,4,5,10] [5] (.seq (oX [
 oB 20 (.eql false false [.int] (oT 10) (oN 5)),oA 19 20] [1,3,4,5,10,19] [5] (.ite (oT 19) (.exit 5) (.skip))) (.keep [1,5,10] [5] (.seq (oX [oB 22 (.eql false false [.int] (oT 10) (oN 6)),oA 21 22] [1,5,10,21] [5] (.ite (oT 21) (.exit 6) (.skip))) (.keep [1,5,10] [5] (.seq (oX [oB 24 (.eql false false [.int] (oT 10) (oN 7)),oA 23 24] [1,5,10,23] [5] (.ite (oT 23) (.skip) (.reg [
 oB 25 (.eql false false [.int] (oT 10) (oN 8)),oA 23 25]))) (.keep [1,5,23] [5] (.ite (oT 23) (.exit 7) (.skip)))))))))))))))) (.keep [] [] (.exit 8)))) (.keep [1,3,4,5] [5] (.exit 0)))) (.keep [1,3,4,5] [5] (.reg [oE 26 5 1,oC 27 1 26,oE 28 5 5,oF 1 28 27])))) (.keep [1,3,4,5] [5] (.seq (.regd [oE 29 1 1,oC 30 1 29,oE 31 3 1,oC 32 1 31,oE 33 1 5,
 .op none none (.store (some 5) 1 (oT 33) (oT 30))] [oE 34 3 5,.op none none (.store (some 5) 1 (oT 34) (oT 32))]) (.keep [1,3,4,5] [5] (.exit 0)))))) (.keep [1,3,4,5] [5] (.seq (.regd [oE 35 1 1,oC 36 1 35,oE 37 4 1,oC 38 1 37,oE 39 2 1,oC 40 1 39,oE 41 1 5,.op none none (.store (some 5) 1 (oT 41) (oT 36)),oE 42 4 5,.op none none (.store (some 5) 1 (oT 42) (oT 38))] [oE 43 2 5,
 .op none none (.store (some 5) 1 (oT 43) (oT 40))]) (.keep [1,3,4,5] [5] (.exit 0)))))) (.keep [1,3,4,5] [5] (.seq (.seq (.regd [oE 44 1 1,oC 45 1 44,oE 46 2 1,oC 47 1 46,oE 48 3 1,oC 49 1 48,oE 50 1 5,.op none none (.store (some 5) 1 (oT 50) (oT 45)),oE 51 2 5,.op none none (.store (some 5) 1 (oT 51) (oT 47))] [oE 52 3 5,.op none none (.store (some 5) 1 (oT 52) (oT 49))])
 (.keep [1,3,4,5] [5] (oX [oE 53 2 1,oC 54 1 53,oB 55 (.eql false false [.str] (oT 54) (oS ⟨#[]⟩)),oA 56 55,oH 57 56 (.faddr 3 (oT 1)),oH 58 56 (.load false 1 (oT 57)),oH 59 56 (.eql true false [.str] (oT 58) (oS ⟨#[]⟩)),oB 60 (.pick (oT 56) (oT 59) (.const ob))] [1,3,4,5,60] [5] (.ite (oT 60) (oX [oB 2 (.mv (.const ob))] [2] [] (.ret)) (.skip))))) (.keep [1,3,4,5] [5] (.exit 0))))))
 (.keep [1,5] [5] (oX [oB 3 (.mv (oN 1)),oB 4 (.mv (oN 1))] [1,3,4,5] [5] (.exit 0))))) (.keep [1,5] [5] (oX [oB 3 (.mv (oN 2)),oB 4 (.mv (oN 60))] [1,3,4,5] [5] (.exit 0))))) (.keep [] [] (.seq (oX [oB 2 (.mv (.const ob))] [2] [] (.ret)) (.keep [1,3,4,5] [5] (.exit 0))))))) (.keep [1,3,4,5] [5] (oX [oE 61 6 1,oC 62 1 61,oB 63 (.len (oT 62)),oA 64 3,oB 65 (.cmp .geq (oT 63) (oT 64)),
 oA 66 65,oH 67 66 (.faddr 6 (oT 1)),oH 68 66 (.load false 1 (oT 67)),oH 69 66 (.len (oT 68)),oH 70 66 (.mv (oT 4)),oH 71 66 (.cmp .leq (oT 69) (oT 70)),oB 72 (.pick (oT 66) (oT 71) (.const ob)),oA 73 72,oH 74 73 (.faddr 1 (oT 1)),oH 75 73 (.load false 1 (oT 74)),oH 76 73 (.faddr 1 (oT 5)),oH 77 73 (.load false 1 (oT 76)),oH 78 73 (.eql false false [.str] (oT 75) (oT 77)),
 oB 79 (.pick (oT 73) (oT 78) (.const ob)),oA 80 79,oH 81 80 (.faddr 2 (oT 1)),oH 82 80 (.load false 1 (oT 81)),oH 83 80 (.faddr 2 (oT 5)),oH 84 80 (.load false 1 (oT 83)),oH 85 80 (.eql false false [.str] (oT 82) (oT 84)),oB 86 (.pick (oT 80) (oT 85) (.const ob)),oA 87 86,oH 88 87 (.faddr 3 (oT 1)),oH 89 87 (.load false 1 (oT 88)),oH 90 87 (.faddr 3 (oT 5)),
 oH 91 87 (.load false 1 (oT 90)),oH 92 87 (.eql false false [.str] (oT 89) (oT 91)),oB 93 (.pick (oT 87) (oT 92) (.const ob)),oA 94 93,oH 95 94 (.faddr 4 (oT 1)),oH 96 94 (.load false 1 (oT 95)),oH 97 94 (.faddr 4 (oT 5)),oH 98 94 (.load false 1 (oT 97)),oH 99 94 (.eql false false [.str] (oT 96) (oT 98)),oB 100 (.pick (oT 94) (oT 99) (.const ob)),oA 101 100,
 oH 102 101 (.faddr 5 (oT 1)),oH 103 101 (.load false 1 (oT 102)),oH 104 101 (.faddr 5 (oT 5)),oH 105 101 (.load false 1 (oT 104)),oH 106 101 (.eql false false [.bool] (oT 103) (oT 105)),oB 107 (.pick (oT 101) (oT 106) (.const ob)),oA 2 107] [2] [] (.ret))))))
def ll:List aI:= [.tmp 2]
def zR:List Nat:= [1,2034005,2033005,2043005,2042005,2041005,2052005,2051005,2050005]
theorem zw:aR Tryz.prog gr zR lJ ll 108:=aA ay (by kernel_rfl)
-- query_writer_pattern range i=12 n=11 c=13 i2=50 id=1: live [2:w, 3:p, 10:] changed [] res [0, 4, 6]
def cE:CC:=oX [oB 2 (.box rG true (oT 0)),oB 3 (.box ag true (oT 1))] [2,3] [0,900,4,6] (oX [oE 7 0 3,oC 8 1 7] [2,3,8] [0,900,4,6] (.block 0 (oX [oB 52 (.eql false false [.int] (oT 8) (oN 1)),oA 51 52] [2,3,8,51] [0,900,4,6] (.ite (oT 51) (.reg [oC 53 1 2,oD 54 13 3,oZ 55 eB [oT 53,oT 54]]) (oX [
 oB 57 (.eql false false [.int] (oT 8) (oN 2)),oA 56 57] [2,3,8,56] [0,900,4,6] (.ite (oT 56) (.regd [oC 58 1 2,oG 59 58,oE 60 0 59,oE 61 9 3,oC 62 1 61,oB 63 (.scat (oS ⟨#[60]⟩) (oT 62)),oB 64 (.scat (oT 63) (oS ⟨#[62]⟩))] [oZ 65 ac [oT 60,oT 64]]) (oX [oB 67 (.eql false false [.int] (oT 8) (oN 3)),oA 66 67] [2,3,8,66] [0,900,4,6] (.ite (oT 66) (.regd [
 oC 68 1 2,oG 69 68,oE 70 0 69,oE 71 9 3,oC 72 1 71,oB 73 (.scat (oS ⟨#[60,47]⟩) (oT 72)),oB 74 (.scat (oT 73) (oS ⟨#[62]⟩))] [oZ 75 ac [oT 70,oT 74]]) (oX [oB 77 (.eql false false [.int] (oT 8) (oN 6)),oA 76 77] [2,3,76] [0,900,4,6] (.ite (oT 76) (oX [oE 78 12 3,oC 79 1 78,oB 80 (.iaddr 13 (oT 79) (oN 0)),oD 81 13 80,
 oB 4 (.alloc ag [oi,oi,oe,oe,oe,oe,ob,on,oe,oe,oi,oi,on]),oF 13 4 81,.frz 4 0] [2,3,4] [0,900,4,6] (oX [oC 82 1 2,oE 83 0 4,oC 84 1 83,oB 85 (.eql false false [.int] (oT 84) (oN 5)),oA 86 85,oI 87 86 (.faddr 0 (oT 4)),oI 88 86 (.load false 1 (oT 87)),oI 89 86 (.eql false false [.int] (oT 88) (oN 4)),oB 90 (.pick (oT 86) (.const (.bool true)) (oT 89)),
 oB 91 (.clo sp [oT 2,oT 4]),oZ 92 cA [oT 82,oT 90,oT 91]] [2,3] [0,900,4,6] (.regd [oC 93 1 2,oG 94 93,oE 95 0 94,oE 96 10 3,oC 97 1 96,oE 98 11 3,oC 99 1 98,oZ 100 HC [oT 97,oT 99]] [oZ 101 ac [oT 95,oT 100]]))) (oX [oE 9 12 3,oC 10 1 9,oB 11 (.len (oT 10)),
 oB 12 (.mv (oN 0))] [2,3,10,11,12] [0,900,4,6] (bi 1 12 11 13 2 (oX [oA 14 12,oB 15 (.iaddr 13 (oT 10) (oT 12)),oD 16 13 15,oB 6 (.alloc ag [oi,oi,oe,oe,oe,oe,ob,on,oe,oe,oi,oi,on]),oA 5 14,oF 13 6 16,.frz 6 0] [2,3,5,6,10,11,12] [0,900,4,6] (.seq (oX [oA 17 5,oB 18 (.cmp .gtr (oT 17) (oN 0)),oA 19 18,oH 20 19 (.faddr 0 (oT 3)),oH 21 19 (.load false 1 (oT 20)),
 oH 22 19 (.eql false false [.int] (oT 21) (oN 5)),oB 23 (.pick (oT 19) (oT 22) (.const ob))] [2,3,5,6,10,11,12,23] [0,900,4,6] (.ite (oT 23) (.reg [oC 24 1 2,oG 25 24,oE 26 0 25,oZ 27 ac [oT 26,oS ⟨#[32,124]⟩]]) (.skip))) (.keep [2,3,5,6,10,11,12] [0,900,4,6] (.seq (oX [oA 28 5,
 oB 29 (.cmp .gtr (oT 28) (oN 0))] [2,3,6,10,11,12,29] [0,900,4,6] (.ite (oT 29) (.reg [oC 30 1 2,oG 31 30,oE 32 0 31,oZ 33 ac [oT 32,oS ⟨#[32]⟩]]) (.skip))) (.keep [2,3,6,10,11,12] [0,900,4,6] (.reg [oC 34 1 2,oE 35 0 6,oC 36 1 35,oB 37 (.eql false false [.int] (oT 36) (oN 5)),oA 38 37,oI 39 38 (.faddr 0 (oT 6)),oI 40 38 (.load false 1 (oT 39)),
 oI 41 38 (.eql false false [.int] (oT 40) (oN 4)),oI 42 38 (.mv (oT 41)),oH 43 42 (.faddr 0 (oT 3)),oH 44 42 (.load false 1 (oT 43)),oH 45 42 (.eql false false [.int] (oT 44) (oN 4)),oI 46 38 (.pick (oT 42) (oT 45) (.const ob)),oB 47 (.pick (oT 38) (.const (.bool true)) (oT 46)),oB 48 (.clo bS [oT 2,oT 6]),
 oZ 49 cA [oT 34,oT 47,oT 48]])))))) 50))))))))))))
def cD:List aI:= []
def tc:List Nat:= [3,2]
theorem sZ:aR Tryz.prog bP tc cE cD 102:=aA ay (by kernel_rfl)
def f0:CC:= .reg [oC 2 1 0,oD 3 13 1,oZ 4 bP [oT 2,oT 3]]
def fX:List aI:= []
def rA:List Nat:= []
theorem rq:aR Tryz.prog bS rA f0 fX 5:=aA ay (by kernel_rfl)
def hZ:CC:= .seq (.seq (.reg [oA 6 1]) ((.ite (oT 6) (.reg [oA 7 0,oG 8 7,oE 9 0 8,oZ 10 ac [oT 9,oS ⟨#[40]⟩]]) (.skip)))) ((.seq (.reg [oA 11 2,oB 12 (.callv (oT 11) [])]) ((.seq (.reg [oA 13 1]) ((.ite (oT 13) (.reg [oA 14 0,oG 15 14,oE 16 0 15,oZ 17 ac [oT 16,oS ⟨#[41]⟩]]) (.skip)))))))
def gY:List aI:= []
def zO:List Nat:= []
theorem zs:aR Tryz.prog cA zO hZ gY 18:=aA ay (by kernel_rfl)
def bX:CC:=oX [oB 3 (.box ag true (oT 1))] [0,3] [0,900] (.seq (oX [oE 5 8 3,oC 6 1 5,oB 7 (.eql true false [.str] (oT 6) (oS ⟨#[]⟩))] [0,3,7] [0,900] (.ite (oT 7) (.regd [oA 8 0,oG 9 8,oE 10 0 9,oE 11 8 3,oC 12 1 11,oB 13 (.scat (oT 12) (oS ⟨#[58]⟩))] [oZ 14 ac [oT 10,oT 13]]) (.skip))) (.keep [0,3] [0,900] (.seq (oX [
 oE 15 1 3,oE 16 0 15,oC 17 1 16,oB 18 (.eql false false [.int] (oT 17) (oN 1)),oA 19 18,oI 20 19 (.faddr 1 (oT 3)),oI 21 19 (.faddr 0 (oT 20)),oI 22 19 (.load false 1 (oT 21)),oI 23 19 (.eql false false [.int] (oT 22) (oN 2)),oI 24 19 (.mv (oT 23)),oH 25 24 (.faddr 1 (oT 3)),oH 26 24 (.faddr 1 (oT 25)),oH 27 24 (.load false 1 (oT 26)),
 oH 28 24 (.eql false false [.str] (oT 27) (oS ⟨#[]⟩)),oI 29 19 (.pick (oT 24) (oT 28) (.const ob)),oB 30 (.pick (oT 19) (.const (.bool true)) (oT 29)),oA 4 30] [0,3,4] [0,900] (oX [oA 31 4] [0,3,31] [0,900] (.ite (oT 31) (oX [oA 32 0,oE 33 1 3,oD 34 7 33,oZ 35 dU [oT 32,oT 34]] [] [0,900] (.ret)) (.skip)))) (.keep [0,3] [0,900] (oX [oA 36 0,oG 37 36,oE 38 0 37,
 oZ 39 ac [oT 38,oS ⟨#[91]⟩]] [0,3] [0,900] (oX [oA 40 0,oE 41 1 3,oD 42 7 41,oZ 43 dU [oT 40,oT 42]] [0] [0,900] (.reg [oA 44 0,oG 45 44,oE 46 0 45,oZ 47 ac [oT 46,oS ⟨#[93]⟩]])))))))
def bW:List aI:= []
def vg:List Nat:= [3]
theorem u5:aR Tryz.prog eB vg bX bW 48:=aA ay (by kernel_rfl)
-- query_writer_cond range i=12 n=11 c=13 i2=45 id=1: live [2:w, 3:x, 10:] changed [] res [0, 4, 6]
def eG:CC:=oX [oB 2 (.box rG true (oT 0)),oB 3 (.box aH true (oT 1))] [2,3] [0,900,4,6] (oX [oE 7 0 3,oC 8 1 7] [2,3,8] [0,900,4,6] (.block 0 (oX [oB 47 (.eql false false [.int] (oT 8) (oN 1)),oA 46 47] [2,3,8,46] [0,900,4,6] (.ite (oT 46) (.reg [oC 48 1 2,oG 49 48,oE 50 0 49,oZ 51 ac [oT 50,oS ⟨#[91,93]⟩]]) (oX [
 oB 53 (.eql false false [.int] (oT 8) (oN 2)),oA 52 53] [2,3,8,52] [0,900,4,6] (.ite (oT 52) (.seq (oX [oE 54 1 3,oC 55 1 54,oB 56 (.eql true false [.str] (oT 55) (oS ⟨#[]⟩))] [2,3,56] [0,900,4,6] (.ite (oT 56) (.regd [oC 57 1 2,oG 58 57,oE 59 0 58,oE 60 1 3,oC 61 1 60,oB 62 (.scat (oT 61) (oS ⟨#[61]⟩))] [oZ 63 ac [oT 59,oT 62]]) (.skip)))
 (.keep [2,3] [0,900,4,6] (.reg [oC 64 1 2,oE 65 3 3,oC 66 1 65,oE 67 5 3,oC 68 1 67,oZ 69 eA [oT 64,oT 66,oT 68]]))) (oX [oB 71 (.eql false false [.int] (oT 8) (oN 3)),oA 70 71] [2,3,8,70] [0,900,4,6] (.ite (oT 70) (.seq (.regd [oC 72 1 2,oG 73 72,oE 74 0 73,oE 75 1 3,oC 76 1 75,oB 77 (.scat (oT 76) (oS ⟨#[32,99,111,110,116,97,105,110,115,32]⟩))] [
 oZ 78 ac [oT 74,oT 77]]) (.keep [2,3] [0,900,4,6] (.reg [oC 79 1 2,oE 80 3 3,oC 81 1 80,oZ 82 dx [oT 79,oT 81]]))) (oX [oB 84 (.eql false false [.int] (oT 8) (oN 4)),oA 83 84] [2,3,8,83] [0,900,4,6] (.ite (oT 83) (.regd [oC 85 1 2,oG 86 85,oE 87 0 86,oE 88 1 3,oC 89 1 88,oB 90 (.scat (oT 89) (oS ⟨#[61]⟩)),oE 91 4 3,oC 92 1 91,
 oB 93 (.scat (oT 90) (oT 92)),oB 94 (.scat (oT 93) (oS ⟨#[46]⟩)),oE 95 2 3,oC 96 1 95,oB 97 (.scat (oT 94) (oT 96))] [oZ 98 ac [oT 87,oT 97]]) (oX [oB 100 (.eql false false [.int] (oT 8) (oN 5)),oA 99 100] [2,3,8,99] [0,900,4,6] (.ite (oT 99) (.seq (.regd [oC 101 1 2,oG 102 101,oE 103 0 102,oE 104 1 3,oC 105 1 104,
 oB 106 (.scat (oS ⟨#[105,110,40]⟩) (oT 105))] [oZ 107 ac [oT 103,oT 106]]) (.keep [2,3] [0,900,4,6] (.seq (oX [oE 108 2 3,oC 109 1 108,oB 110 (.eql true false [.str] (oT 109) (oS ⟨#[]⟩))] [2,3,110] [0,900,4,6] (.ite (oT 110) (.seq (.regd [oC 111 1 2,oG 112 111,oE 113 0 112,oE 114 2 3,oC 115 1 114,oB 116 (.scat (oS ⟨#[44]⟩) (oT 115)),
 oB 117 (.scat (oT 116) (oS ⟨#[61]⟩))] [oZ 118 ac [oT 113,oT 117]]) (.keep [2,3] [0,900,4,6] (.reg [oC 119 1 2,oE 120 3 3,oC 121 1 120,oZ 122 dx [oT 119,oT 121]]))) (.skip))) (.keep [2] [0,900,4,6] (.reg [oC 123 1 2,oG 124 123,oE 125 0 124,oZ 126 ac [oT 125,oS ⟨#[41]⟩]]))))) (oX [
 oB 128 (.eql false false [.int] (oT 8) (oN 6)),oA 127 128] [2,3,127] [0,900,4,6] (.ite (oT 127) (oX [oE 129 6 3,oC 130 1 129,oB 131 (.iaddr 7 (oT 130) (oN 0)),oD 132 7 131,oB 4 (.alloc aH [oi,oe,oe,oe,oe,ob,on]),oF 7 4 132,.frz 4 0] [2,4] [0,900,4,6] (oX [oC 133 1 2,oG 134 133,oE 135 0 134,oZ 136 ac [oT 135,oS ⟨#[33]⟩]] [2,4] [0,900,4,6] (.reg [
 oC 137 1 2,oE 138 0 4,oC 139 1 138,oB 140 (.eql false false [.int] (oT 139) (oN 8)),oA 141 140,oI 142 141 (.faddr 0 (oT 4)),oI 143 141 (.load false 1 (oT 142)),oI 144 141 (.eql false false [.int] (oT 143) (oN 7)),oB 145 (.pick (oT 141) (.const (.bool true)) (oT 144)),oB 146 (.clo vo [oT 2,oT 4]),oZ 147 cA [oT 137,oT 145,oT 146]]))) (oX [oE 9 6 3,
 oC 10 1 9,oB 11 (.len (oT 10)),oB 12 (.mv (oN 0))] [2,3,10,11,12] [0,900,4,6] (bi 1 12 11 13 2 (oX [oA 14 12,oB 15 (.iaddr 7 (oT 10) (oT 12)),oD 16 7 15,oB 6 (.alloc aH [oi,oe,oe,oe,oe,ob,on]),oA 5 14,oF 7 6 16,.frz 6 0] [2,3,5,6,10,11,12] [0,900,4,6] (.seq (oX [oA 17 5,oB 18 (.cmp .gtr (oT 17) (oN 0))] [2,3,6,10,11,12,18] [0,900,4,6] (.ite (oT 18) (.regd [oC 19 1 2,
 oG 20 19,oE 21 0 20,oB 22 (.bslice aF 1 [oS ⟨#[32,38,32]⟩,oS ⟨#[32,124,32]⟩]),oE 23 0 3,oC 24 1 23,oB 25 (.arith .sub (oT 24) (oN 7)),oB 26 (.iaddr 1 (oT 22) (oT 25)),oC 27 1 26] [oZ 28 ac [oT 21,oT 27]]) (.skip))) (.keep [2,3,6,10,11,12] [0,900,4,6] (.reg [oC 29 1 2,oE 30 0 6,oC 31 1 30,oB 32 (.eql false false [.int] (oT 31) (oN 8)),oA 33 32,
 oI 34 33 (.faddr 0 (oT 6)),oI 35 33 (.load false 1 (oT 34)),oI 36 33 (.eql false false [.int] (oT 35) (oN 7)),oI 37 33 (.mv (oT 36)),oH 38 37 (.faddr 0 (oT 3)),oH 39 37 (.load false 1 (oT 38)),oH 40 37 (.eql false false [.int] (oT 39) (oN 7)),oI 41 33 (.pick (oT 37) (oT 40) (.const ob)),oB 42 (.pick (oT 33) (.const (.bool true)) (oT 41)),oB 43 (.clo vn [oT 2,oT 6]),
 oZ 44 cA [oT 29,oT 42,oT 43]])))) 45))))))))))))))))
def ew:List aI:= []
def wE:List Nat:= [3,2]
theorem v9:aR Tryz.prog dU wE eG ew 148:=aA ay (by kernel_rfl)
def fS:CC:=oX [oA 6 0,oA 7 1,oZ 8 dx [oT 6,oT 7]] [0,2] [0,900] (oX [oA 9 2] [0,9] [0,900] (.ite (oT 9) (.reg [oA 10 0,oG 11 10,oE 12 0 11,oZ 13 ac [oT 12,oS ⟨#[37,99]⟩]]) (.skip)))
def fR:List aI:= []
def vf:List Nat:= []
theorem uZ:aR Tryz.prog eA vf fS fR 14:=aA ay (by kernel_rfl)
def kw:CC:= .regd [oA 4 0,oG 5 4,oE 6 0 5,oA 7 1,oZ 8 ez [oT 7,oS ⟨#[34]⟩,oS ⟨#[34,34]⟩],oB 9 (.scat (oS ⟨#[34]⟩) (oT 8)),oB 10 (.scat (oT 9) (oS ⟨#[34]⟩))] [oZ 11 ac [oT 6,oT 10]]
def ka:List aI:= []
def yc:List Nat:= []
theorem xQ:aR Tryz.prog dx yc kw ka 12:=aA ay (by kernel_rfl)
def iI:CC:=oX [oB 6 (.mv (oS ⟨#[]⟩))] [0,1,2] [] (oX [oA 7 0,oA 8 1,oA 9 2,oZ 10 gi [oT 7,oT 8,oT 9,oN (-1)],oA 6 10] [6] [] (.ret))
def iC:List aI:= [.tmp 6]
def ve:List Nat:= []
theorem uY:aR Tryz.prog ez ve iI iC 11:=aA ay (by kernel_rfl)
-- strings_Replace range i=53 n=52 c=54 i2=73 id=0: live [0:s, 1:old, 2:new, 10:b, 11:start] changed [11] res [10]
-- strings_Replace range i=78 n=77 c=79 i2=98 id=2: live [0:s, 2:new, 10:b, 11:start] changed [11] res [10]
def lv:CC:=oX [oB 8 (.mv (oS ⟨#[]⟩))] [0,1,2,3] [] (.seq (oX [oA 16 1,oA 17 2,oB 18 (.eql false false [.str] (oT 16) (oT 17)),oA 19 18,oI 20 19 (.mv (oT 3)),oI 21 19 (.eql false false [.int] (oT 20) (oN 0)),oB 22 (.pick (oT 19) (.const (.bool true)) (oT 21))] [0,1,2,3,22] [] (.ite (oT 22) (oX [oA 23 0,oA 8 23] [8] [10] (.ret)) (.skip))) (.keep [0,1,2,3] [] (.seq (oX [
 oA 24 0,oA 25 1,oZ 26 kX [oT 24,oT 25],oA 9 26] [0,1,2,3,9] [] (oX [oA 27 9,oB 28 (.eql false false [.int] (oT 27) (oN 0))] [0,1,2,3,9,28] [] (.ite (oT 28) (oX [oA 29 0,oA 8 29] [8] [10] (.ret)) (oX [oA 30 3,oB 31 (.cmp .lss (oT 30) (oN 0)),oA 32 31,oI 33 32 (.mv (oT 9)),oI 34 32 (.mv (oT 3)),oI 35 32 (.cmp .lss (oT 33) (oT 34)),
 oB 36 (.pick (oT 32) (.const (.bool true)) (oT 35))] [0,1,2,3,9,36] [] (.ite (oT 36) (.reg [oA 37 9,oA 3 37]) (.skip)))))) (.keep [0,1,2,3] [] (oX [oB 10 (.alloc yK [.pointer none,on])] [0,1,2,3,10] [10] (oX [oA 38 0,oB 39 (.slen (oT 38)),oA 40 3,oA 41 2,oB 42 (.slen (oT 41)),oA 43 1,oB 44 (.slen (oT 43)),oB 45 (.arith .sub (oT 42) (oT 44)),
 oB 46 (.arith .mul (oT 40) (oT 45)),oB 47 (.arith .add (oT 39) (oT 46)),oZ 48 uo [oT 10,oT 47]] [0,1,2,3,10] [10] (oX [oB 11 (.mv (oN 0))] [0,1,2,3,10,11] [10] (.seq (oX [oA 49 1,oB 50 (.slen (oT 49)),oB 51 (.cmp .gtr (oT 50) (oN 0))] [0,1,2,3,10,11,51] [10] (.ite (oT 51) (oX [oA 52 3,oB 53 (.mv (oN 0))] [0,1,2,10,11,52,53] [10] (bi 0 53 52 54 1 (oX [oA 55 11,
 oA 56 0,oA 57 11,oB 58 (.sslice (oT 56) (some (oT 57)) none),oA 59 1,oZ 60 EN [oT 58,oT 59],oB 61 (.arith .add (oT 55) (oT 60)),oA 12 61] [0,1,2,10,11,12,52,53] [10] (oX [oA 62 0,oA 63 11,oA 64 12,oB 65 (.sslice (oT 62) (some (oT 63)) (some (oT 64))),oZ 66 ac [oT 10,oT 65]] [0,1,2,10,12,52,53] [10] (oX [oA 67 2,
 oZ 68 ac [oT 10,oT 67]] [0,1,2,10,12,52,53] [10] (.reg [oA 69 12,oA 70 1,oB 71 (.slen (oT 70)),oB 72 (.arith .add (oT 69) (oT 71)),oA 11 72])))) 73)) (oX [oA 74 2,oZ 75 ac [oT 10,oT 74]] [0,2,3,10,11] [10] (oX [oA 76 3,oB 77 (.arith .sub (oT 76) (oN 1)),oB 78 (.mv (oN 0))] [0,2,10,11,77,78] [10] (bi 2 78 77 79 3 (oX [oA 81 0,
 oA 82 11,oB 83 (.sslice (oT 81) (some (oT 82)) none),oZ 84 lW [oT 83],oA 80 84,oB 85 (.ext (oT 80) 0),oB 86 (.ext (oT 80) 1),oA 13 85,oA 14 86] [0,2,10,11,14,77,78] [10] (oX [oA 87 11,oA 88 14,oB 89 (.arith .add (oT 87) (oT 88)),oA 15 89] [0,2,10,11,15,77,78] [10] (oX [oA 90 0,oA 91 11,oA 92 15,oB 93 (.sslice (oT 90) (some (oT 91)) (some (oT 92))),
 oZ 94 ac [oT 10,oT 93]] [0,2,10,15,77,78] [10] (oX [oA 95 2,oZ 96 ac [oT 10,oT 95]] [0,2,10,15,77,78] [10] (.reg [oA 97 15,oA 11 97]))))) 98))))) (.keep [0,10,11] [10] (oX [oA 99 0,oA 100 11,oB 101 (.sslice (oT 99) (some (oT 100)) none),oZ 102 ac [oT 10,oT 101]] [10] [10] (oX [
 oZ 103 dh [oT 10],oA 8 103] [8] [10] (.ret))))))))))))
def kY:List aI:= [.tmp 8]
def zC:List Nat:= []
theorem zh:aR Tryz.prog gi zC lv kY 104:=aA ay (by kernel_rfl)
-- strings_Count while id=0: live [0:s, 1:substr, 5:n] changed [0, 5] res []
def rc:CC:=oX [oB 0 (.mv (.const ob))] [] [] (oX [oZ 5 ep [oS ⟨#[60,115,62,32,91,119,111,114,100,61,34,84,104,101,34,37,99,93]⟩],oA 4 5,oB 6 (.ext (oT 4) 0),oB 7 (.ext (oT 4) 1),oB 8 (.ext (oT 4) 2),oB 1 (.alloc gJ [oi,oi,oe,oe,oe,oe,ob,on,oe,oe,oi,oi,on,oi,oe,oe,oe,oe,oe,ob,oi,oi,on,on,on,oi]),oF 26 1 6,oA 2 7,oA 3 8] [1,2,3] [1] (oX [oA 9 3,
 oB 10 (.eql false false [.int] (oT 9) (oN 0)),oA 11 10,oH 12 11 (.mv (oT 2)),oH 13 11 (.eql false false [.int] (oT 12) (oN 0)),oB 14 (.pick (oT 11) (oT 13) (.const ob)),oA 15 14,oH 16 15 (.faddr 0 (oT 1)),oH 17 15 (.faddr 0 (oT 16)),oH 18 15 (.load false 1 (oT 17)),oH 19 15 (.eql false false [.int] (oT 18) (oN 4)),oB 20 (.pick (oT 15) (oT 19) (.const ob)),oA 21 20,
 oH 22 21 (.faddr 0 (oT 1)),oH 23 21 (.faddr 12 (oT 22)),oH 24 21 (.load false 1 (oT 23)),oH 25 21 (.len (oT 24)),oH 26 21 (.eql false false [.int] (oT 25) (oN 2)),oB 27 (.pick (oT 21) (oT 26) (.const ob)),oA 28 27,oH 29 28 (.faddr 0 (oT 1)),oH 30 28 (.faddr 12 (oT 29)),oH 31 28 (.load false 1 (oT 30)),oH 32 28 (.iaddr 13 (oT 31) (oN 1)),oH 33 28 (.faddr 1 (oT 32)),
 oH 34 28 (.faddr 5 (oT 33)),oH 35 28 (.load false 1 (oT 34)),oB 36 (.pick (oT 28) (oT 35) (.const ob)),oA 37 36,oH 38 37 (.faddr 0 (oT 1)),oH 39 37 (.load true 13 (oT 38)),oH 40 37 (.call mL [oT 39]),oH 41 37 (.eql false false [.int] (oT 40) (oN 2)),oB 42 (.pick (oT 37) (oT 41) (.const ob)),oA 43 42,oH 44 43 (.load true 26 (oT 1)),oH 45 43 (.call jk [oT 44]),
 oH 46 43 (.eql false false [.str] (oT 45) (oS ⟨#[60,115,62,32,91,119,111,114,100,61,34,84,104,101,34,37,99,93]⟩)),oB 47 (.pick (oT 43) (oT 46) (.const ob)),oA 0 47] [0] [] (.ret)))
def qv:List aI:= [.tmp 0]
def Hq:List Nat:= []
theorem GU:aR Tryz.prog kQ Hq rc qv 48:=aA ay (by kernel_rfl)
-- query_labels range i=25 n=24 c=26 i2=32 id=0: live [1:out, 23:] changed [1] res [1, 21, 31]
-- law23_QueryLeaves range i=27 n=26 c=28 i2=73 id=0: live [3:q, 4:x, 5:y, 6:names] changed [6] res [3, 72]
-- law23_QueryLeaves range i=48 n=47 c=49 i2=62 id=2: live [3:q, 4:x, 5:y, 6:names, 7:i, 8:known, 26:, 27:, 46:] changed [8] res [3, 72]
-- r23_SamePattern range i=59 n=58 c=60 i2=74 id=0: live [2:a, 3:b] changed [] res []
def lG:CC:=oX [oB 2 (.box ag true (oT 0)),oB 3 (.box ag true (oT 1)),oB 4 (.mv (.const ob))] [2,3] [] (.seq (oX [oE 6 0 2,oC 7 1 6,oE 8 0 3,oC 9 1 8,oB 10 (.eql true false [.int] (oT 7) (oT 9)),oA 11 10,oI 12 11 (.faddr 1 (oT 2)),oI 13 11 (.load true 7 (oT 12)),oI 14 11 (.faddr 1 (oT 3)),oI 15 11 (.load true 7 (oT 14)),
 oI 16 11 (.call eN [oT 13,oT 15]),oI 17 11 (.not (oT 16)),oB 18 (.pick (oT 11) (.const (.bool true)) (oT 17)),oA 19 18,oI 20 19 (.faddr 8 (oT 2)),oI 21 19 (.load false 1 (oT 20)),oI 22 19 (.faddr 8 (oT 3)),oI 23 19 (.load false 1 (oT 22)),oI 24 19 (.eql true false [.str] (oT 21) (oT 23)),oB 25 (.pick (oT 19) (.const (.bool true)) (oT 24)),oA 26 25,oI 27 26 (.faddr 9 (oT 2)),
 oI 28 26 (.load false 1 (oT 27)),oI 29 26 (.faddr 9 (oT 3)),oI 30 26 (.load false 1 (oT 29)),oI 31 26 (.eql true false [.str] (oT 28) (oT 30)),oB 32 (.pick (oT 26) (.const (.bool true)) (oT 31)),oA 33 32,oI 34 33 (.faddr 10 (oT 2)),oI 35 33 (.load false 1 (oT 34)),oI 36 33 (.faddr 10 (oT 3)),oI 37 33 (.load false 1 (oT 36)),oI 38 33 (.eql true false [.int] (oT 35) (oT 37)),
 oB 39 (.pick (oT 33) (.const (.bool true)) (oT 38)),oA 40 39,oI 41 40 (.faddr 11 (oT 2)),oI 42 40 (.load false 1 (oT 41)),oI 43 40 (.faddr 11 (oT 3)),oI 44 40 (.load false 1 (oT 43)),oI 45 40 (.eql true false [.int] (oT 42) (oT 44)),oB 46 (.pick (oT 40) (.const (.bool true)) (oT 45)),oA 47 46,oI 48 47 (.faddr 12 (oT 2)),oI 49 47 (.load false 1 (oT 48)),oI 50 47 (.len (oT 49)),
 oI 51 47 (.faddr 12 (oT 3)),oI 52 47 (.load false 1 (oT 51)),oI 53 47 (.len (oT 52)),oI 54 47 (.eql true false [.int] (oT 50) (oT 53)),oB 55 (.pick (oT 47) (.const (.bool true)) (oT 54))] [2,3,55] [] (.ite (oT 55) (oX [oB 4 (.mv (.const ob))] [4] [] (.ret)) (.skip))) (.keep [2,3] [] (.seq (oX [oE 56 12 2,oC 57 1 56,oB 58 (.len (oT 57)),
 oB 59 (.mv (oN 0))] [2,3,58,59] [] (bi 0 59 58 60 1 (oX [oA 61 59,oA 5 61] [2,3,5,58,59] [] (.seq (.regd [oE 62 12 2,oC 63 1 62,oA 64 5,oB 65 (.iaddr 13 (oT 63) (oT 64)),oD 66 13 65,oE 67 12 3,oC 68 1 67,oA 69 5,oB 70 (.iaddr 13 (oT 68) (oT 69)),oD 71 13 70] [oZ 72 cz [oT 66,oT 71],oB 73 (.not (oT 72))]) (.keep [2,3,58,59,73] [] (.ite (oT 73) (oX [
 oB 4 (.mv (.const ob))] [4] [] (.ret)) (.skip))))) 74)) (.keep [] [] (oX [oB 4 (.mv (.const (.bool true)))] [4] [] (.ret))))))
def li:List aI:= [.tmp 4]
def zN:List Nat:= [2,3]
theorem zr:aR Tryz.prog cz zN lG li 75:=aA ay (by kernel_rfl)
-- r22_Texts range i=13 n=12 c=14 i2=25 id=0: live [0:a, 1:b] changed [] res []
def uy:CC:=oX [oB 4 (.mv (.const ob))] [0,1] [] (.seq (oX [oA 6 0,oB 7 (.len (oT 6)),oA 8 1,oB 9 (.len (oT 8)),oB 10 (.eql true false [.int] (oT 7) (oT 9))] [0,1,10] [] (.ite (oT 10) (oX [oB 4 (.mv (.const ob))] [4] [] (.ret)) (.skip))) (.keep [0,1] [] (.seq (oX [oA 11 0,oB 12 (.len (oT 11)),oB 13 (.mv (oN 0))] [0,1,12,13] [] (bi 0 13 12 14 1 (oX [oA 15 13,
 oA 5 15] [0,1,5,12,13] [] (.seq (.regd [oA 16 0,oA 17 5,oB 18 (.iaddr 1 (oT 16) (oT 17)),oC 19 1 18,oA 20 1,oA 21 5,oB 22 (.iaddr 1 (oT 20) (oT 21)),oC 23 1 22] [oB 24 (.eql true false [.str] (oT 19) (oT 23))]) (.keep [0,1,12,13,24] [] (.ite (oT 24) (oX [oB 4 (.mv (.const ob))] [4] [] (.ret)) (.skip))))) 25)) (.keep [] [] (oX [oB 4 (.mv (.const (.bool true)))] [4] [] (.ret))))))
def tS:List aI:= [.tmp 4]
def Lz:List Nat:= []
theorem Li:aR Tryz.prog oO Lz uy tS 26:=aA ay (by kernel_rfl)
end Go.Gv

namespace Go.Gv
open Cod (enc dec)
variable {S S0:Nat→Spc}
theorem Uq {α:Type} {l:List α} {k:Nat} {a:α} {P:α→Prop} (h: ∀x∈l.take k,P x) (ha:l[k]?=some a) (hp:P a): ∀x∈l.take (k+1),P x:=by
 rw[cC ha]
 intro x hx
 rcases List.mem_append.1 hx with hx | hx
 ·exact h x hx
 ·simp at hx
  subst hx
  exact hp
def Tt {X:Type} (m:X→Nat) (n:Nat) (x:X):Prop:=m x≤n
abbrev KM (n:Nat):Spc:=dG (a2 Cond Cond) (Tt (fun x=> iN x.1) n) (enc (X:=Bool)) fun x y=> (y=true↔x.1=x.2)
theorem WD {a b:Cond} (h1:a.op=b.op) (h2:a.name=b.name) (h3:a.arg=b.arg) (h4:a.val=b.val) (h5:a.lab=b.lab) (h6:a.fold=b.fold) (h7:a.kids=b.kids):a=b:=by
 cases a;cases b;simp only at*;subst h1;subst h2;subst h3;subst h4;subst h5;subst h6;subst h7;rfl
theorem OD (n:Nat) (h1:S eN=KM n):Walk xg vR S (a2 Cond Cond) (Tt (fun x=> iN x.1) (n+1)) (enc (X:=Bool)) fun x y=> (y=true↔x.1=x.2):=by
 rintro⟨a,b⟩ hn
 have hn:iN a≤n+1:=hn
 have hpre: ∀k∈a.kids,∀y,Tt (fun x:Cond×Cond=> iN x.1) n (k,y):=fun k hk y=> by have:=Oe hk;show iN k≤n;omega
 simp[xg,vR]
 refine⟨fun e1=> ⟨fun e2=> ⟨fun e3=> ⟨fun e4=> ⟨fun e5=> ⟨fun e6 _ _=> ⟨fun h e=> h (by rw[e]),fun hl _=> ?_⟩,fun h e=> h (by rw[e])⟩,fun h e=> h (by rw[e])⟩,fun h e=> h (by rw[e])⟩,fun h e=> h (by rw[e])⟩,fun h e=> h (by rw[e])⟩,fun h e=> h (by rw[e])⟩
 refine aO (X:=Unit) [2,3] [] a.kids.length (fun k _=> a.kids.take k=b.kids.take k) (fun _=> []) (fun _=> []) () (by simp) (by simp) (by omega) (by simp) (by simp) (by simp) (by simp) (by simp) ?_ ?_
 ·rintro k -hk hP
  obtain⟨x,hx⟩:=cP hk
  obtain⟨y,hy⟩:=cP (l:=b.kids) (k:=k) (by omega)
  have hx1:=cn hx
  obtain⟨_,hgx⟩:=List.getElem?_eq_some_iff.1 hx
  obtain⟨_,hgy⟩:=List.getElem?_eq_some_iff.1 hy
  simp[h1,hk,hx,hy,hgx,hgy,hpre x hx1, -Bool.forall_bool]
  refine⟨by omega,fun r hr=> ⟨fun hf e=> ?_,fun ht=> ?_⟩⟩
  ·subst e
   rw[hx] at hy
   cases hy
   rw[hr.2 rfl] at hf
   cases hf
  ·rw[cC hx,cC hy,hP,hr.1 ht]
 ·rintro -hP
  simp
  have h8:a.kids=b.kids:=by
   rw[List.take_of_length_le (by omega),List.take_of_length_le (by omega)] at hP
   exact hP
  exact WD e1 e2 e3 e4 e5 e6 h8
abbrev vJ:Spc:=dG (a2 Pat Int) (fun _=> True) (enc (X:=Bool)) fun x y=> y=(decide (x.2≤100) && nc x.1)
abbrev Av:Spc:=dG (a2 Cond Cond) (fun _=> True) (enc (X:=Bool)) fun x y=> (y=true↔x.1=x.2)
theorem Mo (h1:S eN=Av):Walk uv tP S (a2 Pat Int) (fun _=> True) (enc (X:=Bool)) fun x y=> y=(decide (x.2≤100) && nc x.1):=by
 rintro⟨p,d⟩ -
 simp[uv,tP,h1, -Bool.forall_bool]
 clear h1
 refine⟨fun h h'=> absurd h (by omega),fun hd y hy=> ?_⟩
 have hy:y=true↔p.cond=Cond0:=hy
 rw[decide_eq_true hd,Bool.true_and]
 revert hy
 revert y
 repeat' first | apply And.intro | intro _
 all_goals (rw[Bool.eq_iff_iff,CO];unfold Dz;simp_all;try omega)
abbrev FX (n:Nat):Spc:=dG (a2 Pat Int) (fun x=> fb x.1≤n∧0≤x.2∧x.2≤101) (enc (X:=Bool)) fun x y=> y=(cJ x.1 x.2 && fg nc x.1)
theorem Kh (n:Nat) (h1:S oL=vJ) (h2:S fe=FX n):Walk sr r8 S (a2 Pat Int) (fun x=> fb x.1≤n+1∧0≤x.2∧x.2≤101) (enc (X:=Bool)) fun x y=> y=(cJ x.1 x.2 && fg nc x.1):=by
 rintro⟨p,d⟩ ⟨hn,hd0,hd1⟩
 have hpre: ∀k∈p.kids,fb k≤n:=fun k hk=> by have:=mD hk;have:fb p≤n+1:=hn;omega
 simp only at hd0 hd1
 simp[sr,r8,h1]
 rw[lN,f8]
 refine⟨fun h=> ?_,fun hd hnd _=> ?_⟩
 ·simp only[Bool.and_eq_true,decide_eq_true_eq]
  intro h1
  rw[h h1.1,Bool.false_and]
 refine aO (X:=Unit) [1,12] [] p.kids.length (fun k _=> ∀x∈p.kids.take k,(cJ x (d+1) && fg nc x)=true) (fun _=> []) (fun _=> []) () (by simp) (by simp) (by omega) (by simp) (by simp) (by simp) (by simp) (by simp) ?_ ?_
 ·rintro k -hk hP
  obtain⟨x,hx⟩:=cP hk
  have hx1:=cn hx
  obtain⟨_,hgx⟩:=List.getElem?_eq_some_iff.1 hx
  have q1:=hpre x hx1
  simp[h2,hk,hx,hgx,q1, -Bool.forall_bool]
  refine⟨by simp only[InR];omega,by omega,fun hf _ hall _=> ⟨x,hx1,hf (hall x hx1)⟩,fun t1 t2=> ?_⟩
  have:=Uq (P:=fun x=> (cJ x (d+1) && fg nc x)=true) hP hx (by simp[t1,t2])
  simpa using this
 ·rintro -hP
  simp
  simp at hP
  simp[hnd,hd]
  exact⟨fun x hx=> (hP x hx).1,fun x hx=> (hP x hx).2⟩
end Go.Gv

namespace Go.Gv
open Cod (enc dec)
variable {S S0:Nat→Spc}
theorem QP {a b A B:Int} (h0:0≤a) (h1:a≤A) (h2:0≤b) (h3:b≤B):0≤a*b∧a*b≤A*B:=⟨Int.mul_nonneg h0 h2,Int.mul_le_mul h1 h3 h2 (by omega)⟩
def PPat (n:Nat) (p:Pat):Prop:=fb p≤n∧sU eL p=true
theorem PPat.kid {n:Nat} {p k:Pat} (h:PPat (n+1) p) (hk:k∈p.kids):PPat n k:=by
 have h1:=mD hk
 have h2:=h.1
 exact⟨by omega,M4 h.2 hk⟩
abbrev o3:Spc:=dG (a1 Pat) (fun _=> True) (enc (X:=Bool)) fun x y=> y=sU eL x
abbrev BZ:Spc:=dG (a2 Pat Int) (fun x=> 0≤x.2∧x.2≤101) (enc (X:=Bool)) fun x y=> y=(cJ x.1 x.2 && fg nc x.1)
abbrev O7 (n:Nat):Spc:=dG (a1 Pat) (PPat n) (enc (X:=Int)) fun x y=> y=l9 x
end Go.Gv

namespace Go.Gv
open Cod (enc dec)
variable {S S0:Nat→Spc}
abbrev JD:D:= .v (.slice none 0 0)
def XC (x:Pat) (l:List Pat):Prop:=l.length+ (aY x).length≤100000000
abbrev Hu (n:Nat):Spc:=Zx (X:=Pat) (Y:=Pat) (fun x l=> fb x≤n∧XC x l) (fun x l r=> r=l++aY x) ag 13
abbrev i_leavesA:Spc:=Zx (X:=Pat) (Y:=Pat) (fun x l=> XC x l) (fun x l r=> r=l++aY x) ag 13
theorem Vo {ks:List Pat} {k:Nat} {x:Pat} (l:List Pat) (hx:ks[k]?=some x): (l++ (ks.take k).flatMap aY) ++aY x=l++ (ks.take (k+1)).flatMap aY:=by
 rw[cC hx,List.flatMap_append,List.flatMap_singleton,List.append_assoc]
theorem PA {ks:List Pat} {k:Nat} {x:Pat} {l:List Pat} (hx:ks[k]?=some x) (h:l.length+ (ks.flatMap aY).length≤100000000):XC x (l++ (ks.take k).flatMap aY):=by
 have:ks=ks.take k++x::ks.drop (k+1):=by rw[←dv hx,List.take_append_drop]
 rw[this] at h
 simp only[List.flatMap_append,List.flatMap_cons,List.length_append] at h
 unfold XC
 rw[List.length_append]
 omega
theorem Ki (n:Nat) (h1:S dq=Hu n):L7 (X:=Pat) (Y:=Pat) kS kH S (fun x l=> fb x≤n+1∧XC x l) (fun x l r=> r=l++aY x) ag 13:=by
 rintro v l p ⟨hp,hl⟩
 have hk: ∀k∈p.kids,fb k≤n:=fun k hk=> by have:=mD hk;have:fb p≤n+1:=hp;omega
 have hl':=hl
 unfold XC at hl'
 rw[bz] at hl'
 simp[kS,kH]
 refine⟨fun h1=> ⟨by simp[h1] at hl';omega,by simp[h1] at hl';omega,fun v=> jO (l++aY p) (by simp[bz,h1]) rfl⟩,fun hne _=> ?_⟩
 rw[if_neg hne] at hl'
 refine aO (X:=Value×List Pat) [15] [] p.kids.length (fun k x=> x.2=l++ (p.kids.take k).flatMap aY) (fun x=> [(1, .own 1 x.1)]) (fun x=> [(1, .row x.1 ag 13 (x.2.map enc))]) (v,l) (by simp) (by simp) (by omega) (by simp) (by simp) (by simp) (by simp) (by simp[isNilRow]) ?_ ?_
 ·rintro k ⟨v,m⟩ hkl hm
  simp only at hm
  obtain⟨x,hx⟩:=cP hkl
  have hx1:=cn hx
  obtain⟨_,hgx⟩:=List.getElem?_eq_some_iff.1 hx
  have q1:=PA hx hl'
  rw[←hm] at q1
  have q2:=hk x hx1
  simp[h1,hkl,hx,hgx,q1,q2]
  intro v'
  refine .inl ?_
  rw[hm,Vo _ hx]
 ·rintro⟨v,m⟩ hm
  simp only at hm
  rw[List.take_length] at hm
  simp
  refine jO m (by simp) ?_
  rw[hm,bz,if_neg hne]
abbrev Wg:Spc:=qda (Y:=Pat) (aE Pat (aD a0)) (fun x=> x.2.1=JD∧XC x.1 []) (fun x r=> r=aY x.1) ag 13
theorem Io (h1:S dq=i_leavesA):Rk (Y:=Pat) kS kH S (aE Pat (aD a0)) (fun x=> x.2.1=JD∧XC x.1 []) (fun x r=> r=aY x.1) ag 13:=by
 rintro⟨p,d,⟨⟩⟩ ⟨hd,hl⟩
 have hd:d=JD:=hd
 subst hd
 have hl': ([]:List Pat).length+ (aY p).length≤100000000:=hl
 rw[bz] at hl'
 simp[kS,kH]
 refine⟨fun h1 v=> jO (aY p) (by simp[bz,h1]) rfl,fun hne _=> ?_⟩
 rw[if_neg hne] at hl'
 refine aO (X:=Value×List Pat) [15] [] p.kids.length (fun k x=> x.2= [] ++ (p.kids.take k).flatMap aY) (fun x=> [(1, .own 1 x.1)]) (fun x=> [(1, .row x.1 ag 13 (x.2.map enc))]) (.slice none 0 0, []) (by simp) (by simp) (by omega) (by simp) (by simp) (by simp) (by simp) (by simp[isNilRow]) ?_ ?_
 ·rintro k ⟨v,m⟩ hkl hm
  simp only at hm
  obtain⟨x,hx⟩:=cP hkl
  have hx1:=cn hx
  obtain⟨_,hgx⟩:=List.getElem?_eq_some_iff.1 hx
  have q1:=PA hx hl'
  rw[←hm] at q1
  simp[h1,hkl,hx,hgx,q1]
  intro v'
  refine .inl ?_
  rw[hm,Vo _ hx]
  rfl
 ·rintro⟨v,m⟩ hm
  simp only at hm
  rw[List.take_length] at hm
  simp
  refine jO m (by simp) ?_
  rw[hm,bz,if_neg hne]
  rfl
abbrev s_leaves:Spc:=qcG Wg i_leavesA
abbrev KH:Spc:=dG (a1 Pat) (fun x=> sU eL x=true) (enc (X:=Int)) fun x y=> y=l9 x
abbrev yS:Spc:=dG (a1 Pat) (fun _=> True) (enc (X:=Int)) fun x y=> y=if sU eL x then l9 x else 0
end Go.Gv

namespace Go.Gv
open Cod (enc dec)
variable {S S0:Nat→Spc}
theorem RB {σ:Sg} {H:ab} {k j b el n:Nat} {cs cs':List D} (hkj:j≠k) (hk:H k=some (.box b cs)) (hl:cs.length=cs'.length) (hc: ∀ (m:Nat) (c c':D),cs[m]?=some c→cs'[m]?=some c'→FrzTo cF c c'):
 Wk σ H σ (au (au H k (some (.box b cs'))) j (some (.row (.slice none 0 0) el n []))):=by
 refine Ke (Hf:=cF) id (fun t=> .same _) (fun i r h=> ?_) (fun i j r s _ _ e=> .inl e) (fun i r h=> by simp[cF] at h)
 by_cases e:i=j
 ·subst e
  simp[au] at h
  subst h
  exact .inr ⟨rfl,rfl⟩
 ·by_cases e2:i=k
  ·subst e2
   simp[au,e] at h
   subst h
   exact .inl ⟨_,hk, .inr ⟨rfl,hl,hc⟩⟩
  ·simp only[au,e,e2,if_false] at h
   exact .inl ⟨r,h, .inl rfl⟩
def Nf:Nat→Cond→Prop
 | 0,_=> False
 | n+1,x=> x.kids.length≤1000000∧ ∀k∈x.kids,Nf n k
abbrev Gb (n:Nat):Spc:=dG (a1 Cond) (Nf n) (enc (X:=Cond)) fun x y=> y=x
theorem Fq (n:Nat) (h1:S dP=Gb n):Walk pu pe S (a1 Cond) (Nf (n+1)) (enc (X:=Cond)) fun x y=> y=x:=by
 rintro⟨op,name,arg,val,lab,fold,kids⟩ ⟨hlen,hk⟩
 simp only at hlen hk
 simp[pu,pe]
 intro b2 b3 hkl
 refine RT (RB (k:=3) (j:=20) (b:=b3) (el:=aH) (n:=7) (cs':= [.v (.int .i64 op), .v (.string name), .v (.string arg), .v (.string val), .v (.string lab), .v (.bool fold), .own 20 (.slice none 0 0)]) (by decide) (by simp;rfl) (by simp) ?_) ?_
 ·intro m c c' hc hc'
  match m with
  | 0 | 1 | 2 | 3 | 4 | 5=> simp at hc hc';subst hc;subst hc';exact .same _
  | 6=> simp at hc hc';subst hc;subst hc';exact .nilown _
  | m+7=> simp at hc
 refine aO (X:=Value×List Cond) [2,9] [2] kids.length (fun k x=> x.2=kids.take k) (fun x=> [(3, .bptr 3 b3 0)]) (fun x=> [(3, .box b3 [.v (.int .i64 op), .v (.string name), .v (.string arg), .v (.string val), .v (.string lab), .v (.bool fold), .own 20 x.1]),(20, .row x.1 aH 7 (x.2.map enc))]) (.slice none 0 0, []) (by simp) (by simp) (by omega) (by simp) (by simp) (by simp) (by simp) (by simp) ?_ ?_
 ·rintro k ⟨v,m⟩ hkl' hm
  simp only at hm
  obtain⟨x,hx⟩:=cP hkl'
  obtain⟨_,hgx⟩:=List.getElem?_eq_some_iff.1 hx
  have hx1:=hk x (cn hx)
  have hml:m.length=k:=by rw[hm,List.length_take];omega
  simp[h1,hkl',hx,hgx,hx1]
  refine⟨by omega,by omega,fun v=> .inl (.inl ?_)⟩
  rw[hm,List.map_take,List.take_add_one]
  simp[hx]
 ·rintro⟨v,m⟩ hm
  simp only at hm
  rw[List.take_length] at hm
  subst hm
  simp
  refine fK (Y:=Cond) ⟨op,name,arg,val,lab,fold,m⟩ ?_ rfl
  simp
  refine .agg (by simp) fun i c c' h h'=> ?_
  match i with
  | 0 | 1 | 2 | 3 | 4 | 5=> simp at h h';subst h;subst h';exact .same _
  | 6=> simp at h h';subst h;subst h';exact th aH (by simp)
  | i+7=> simp at h
theorem qmH {H:ab} {l l':List D} (h:FzL H l l'):FrzTo H (.agg l) (.agg l'):= .agg h.get.1 h.get.2
abbrev Ch:Spc:=dG (a1 Cond) (fun x=> ∃n,Nf n x) (enc (X:=Cond)) fun x y=> y=x
def zY (p:Pat):Pat:=⟨p.op,p.cond,p.lab,⟨#[]⟩,0,0, []⟩
abbrev Az:Spc:=dG (a1 Pat) (fun p=> ∃n,Nf n p.cond) (enc (X:=Pat)) fun x y=> y=zY x
theorem Ix (h1:S dP=Ch):Walk qW qq S (a1 Pat) (fun p=> ∃n,Nf n p.cond) (enc (X:=Pat)) fun x y=> y=zY x:=by
 rintro p hp
 simp[qW,qq,h1,hp]
 intro b
 refine fK (Y:=Pat) (zY p) ?_ rfl
 unfold zY
 simp
 refine qmH ?_
 simp
def eo (p:Pat):List Pat:=(aY p).map zY
theorem ud (p:Pat):eo p=if p.op=1 then[zY p] else p.kids.flatMap eo:=by
 unfold eo
 rw[bz]
 split
 ·rfl
 ·rw[List.map_flatMap]
def PLc (p:Pat):Prop:= ∀y∈aY p,∃n,Nf n y.cond
theorem PLc.kid {p k:Pat} (h:PLc p) (hne: ¬p.op=1) (hk:k∈p.kids):PLc k:=fun y hy=> h y (by rw[bz,if_neg hne];exact List.mem_flatMap.2 ⟨k,hk,hy⟩)
theorem Vq {ks:List Pat} {k:Nat} {x:Pat} (l:List Pat) (hx:ks[k]?=some x): (l++ (ks.take k).flatMap eo) ++eo x=l++ (ks.take (k+1)).flatMap eo:=by
 rw[cC hx,List.flatMap_append,List.flatMap_singleton,List.append_assoc]
def qbq (x:Pat) (l:List Pat):Prop:=l.length+ (aY x).length≤100000000∧PLc x
theorem qaD (ks:List Pat): (ks.flatMap eo).length=(ks.flatMap aY).length:=by
 induction ks with
 | nil=> rfl
 | cons k ks ih=> simp only[List.flatMap_cons,List.length_append,ih];unfold eo;simp
theorem Vp {ks:List Pat} {k:Nat} {x:Pat} {l:List Pat} (hx:ks[k]?=some x) (h:l.length+ (ks.flatMap aY).length≤100000000) (hc:PLc x):qbq x (l++ (ks.take k).flatMap eo):=by
 have:=PA hx h
 unfold XC at this
 refine⟨?_,hc⟩
 simp only[List.length_append] at this ⊢
 rw[qaD]
 exact this
abbrev Df (n:Nat):Spc:=Zx (X:=Pat) (Y:=Pat) (fun x l=> fb x≤n∧qbq x l) (fun x l r=> r=l++eo x) ag 13
abbrev i_leavesQA:Spc:=Zx (X:=Pat) (Y:=Pat) (fun x l=> qbq x l) (fun x l r=> r=l++eo x) ag 13
theorem Fp (n:Nat) (h1:S cq=Df n) (h2:S gD=Az):L7 (X:=Pat) (Y:=Pat) iu il S (fun x l=> fb x≤n+1∧qbq x l) (fun x l r=> r=l++eo x) ag 13:=by
 rintro v l p ⟨hp,hl,hc⟩
 have hk: ∀k∈p.kids,fb k≤n:=fun k hk=> by have:=mD hk;have:fb p≤n+1:=hp;omega
 have hl':=hl
 rw[bz] at hl'
 simp[iu,il,h2]
 refine⟨fun h1=> ?_,fun hne _=> ?_⟩
 ·have hcc: ∃n,Nf n p.cond:=hc p (by rw[bz,if_pos h1];simp)
  simp[h1] at hl'
  exact⟨hcc,by omega,by omega,fun v=> jO (l++eo p) (by simp[ud,h1]) rfl⟩
 rw[if_neg hne] at hl'
 refine aO (X:=Value×List Pat) [16] [] p.kids.length (fun k x=> x.2=l++ (p.kids.take k).flatMap eo) (fun x=> [(1, .own 1 x.1)]) (fun x=> [(1, .row x.1 ag 13 (x.2.map enc))]) (v,l) (by simp) (by simp) (by omega) (by simp) (by simp) (by simp) (by simp) (by simp[isNilRow]) ?_ ?_
 ·rintro k ⟨v,m⟩ hkl hm
  simp only at hm
  obtain⟨x,hx⟩:=cP hkl
  have hx1:=cn hx
  obtain⟨_,hgx⟩:=List.getElem?_eq_some_iff.1 hx
  have q1:=Vp hx hl' (hc.kid hne hx1)
  rw[←hm] at q1
  have q2:=hk x hx1
  simp[h1,hkl,hx,hgx,q1,q2]
  intro v'
  refine .inl ?_
  rw[hm,Vq _ hx]
 ·rintro⟨v,m⟩ hm
  simp only at hm
  rw[List.take_length] at hm
  simp
  refine jO m (by simp) ?_
  rw[hm,ud,if_neg hne]
abbrev ST:Spc:=qda (Y:=Pat) (aE Pat (aD a0)) (fun x=> x.2.1=JD∧qbq x.1 []) (fun x r=> r=eo x.1) ag 13
theorem Ec (h1:S cq=i_leavesQA) (h2:S gD=Az):Rk (Y:=Pat) iu il S (aE Pat (aD a0)) (fun x=> x.2.1=JD∧qbq x.1 []) (fun x r=> r=eo x.1) ag 13:=by
 rintro⟨p,d,⟨⟩⟩ ⟨hd,hl,hc⟩
 have hd:d=JD:=hd
 subst hd
 have hl': ([]:List Pat).length+ (aY p).length≤100000000:=hl
 rw[bz] at hl'
 simp[iu,il,h2]
 refine⟨fun h1=> ⟨hc p (by rw[bz,if_pos h1];simp),fun v=> jO (eo p) (by simp[ud,h1]) rfl⟩,fun hne _=> ?_⟩
 rw[if_neg hne] at hl'
 refine aO (X:=Value×List Pat) [16] [] p.kids.length (fun k x=> x.2= [] ++ (p.kids.take k).flatMap eo) (fun x=> [(1, .own 1 x.1)]) (fun x=> [(1, .row x.1 ag 13 (x.2.map enc))]) (.slice none 0 0, []) (by simp) (by simp) (by omega) (by simp) (by simp) (by simp) (by simp) (by simp[isNilRow]) ?_ ?_
 ·rintro k ⟨v,m⟩ hkl hm
  simp only at hm
  obtain⟨x,hx⟩:=cP hkl
  have hx1:=cn hx
  obtain⟨_,hgx⟩:=List.getElem?_eq_some_iff.1 hx
  have q1:=Vp hx hl' (hc.kid hne hx1)
  rw[←hm] at q1
  simp[h1,hkl,hx,hgx,q1]
  intro v'
  refine .inl ?_
  rw[hm,Vq _ hx]
  rfl
 ·rintro⟨v,m⟩ hm
  simp only at hm
  rw[List.take_length] at hm
  simp
  refine jO m (by simp) ?_
  rw[hm,ud,if_neg hne]
  rfl
abbrev s_leavesQ:Spc:=qcG ST i_leavesQA
end Go.Gv
