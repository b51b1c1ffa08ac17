/- A part of the framework and of the walks: C5 W50 W51 W53 W64 W65 W66 W67 W3 W30 C3 W38 V9 V10 V14 W79 W84. -/
import Derived.Recover
import Derived.Tactics2
import Derived.Test.YtaiffcbkmgfklaaGreatDoorGw12
import Derived.Test.YtaiffcbkmgfklaaGreatDoorGw19
import Derived.Test.YtaiffcbkmgfklaaGreatDoorGw13
import Derived.Test.YtaiffcbkmgfklaaGreatDoorGw17
import Derived.Test.YtaiffcbkmgfklaaGreatDoorGw14
import Derived.Test.YtaiffcbkmgfklaaGreatDoorGw15
set_option linter.unusedSimpArgs false
set_option linter.unusedVariables false
set_option maxRecDepth 100000

namespace Go.Gv
open Go.Proofs
def cc_r23_parser_now : CC := oX [oB 2 (.alloc ty_corporaref23_token [.int .u8 0,oe,oi])] [0,2] [0,2] (.seq (.regd [oA 3 0,oG 4 3,oE 5 0 4,oC 6 1 5,oA 7 0,oG 8 7,oE 9 1 8,oC 10 1 9] [oB 11 (.iaddr 3 (oT 6) (oT 10)),oD 12 3 11,.op none none (.store (some 2) 3 (oT 2) (oT 12))]) (.keep [2] [0,2] (.ret)))
def rs_r23_parser_now : List CRes := [.cell 2 true 3]
def im_r23_parser_now : List Nat := [2002002]
theorem ok_r23_parser_now : FnOk Tryz.prog f_r23_parser_now im_r23_parser_now cc_r23_parser_now rs_r23_parser_now 13 := fnOk1 mixed (by kernel_rfl)
def cc_r23_parser_next : CC := oX [oB 2 (.alloc ty_corporaref23_token [.int .u8 0,oe,oi])] [0,2] [0,2] (.seq (.regd [oA 3 0,oG 4 3,oE 5 0 4,oC 6 1 5,oA 7 0,oG 8 7,oE 9 1 8,oC 10 1 9,oB 11 (.arith .add (oT 10) (oN 1)),oA 12 0,oG 13 12,oE 14 0 13,oC 15 1 14,oB 16 (.len (oT 15)),oB 17 (.arith .sub (oT 16) (oN 1)),oB 18 (.mm false [oT 11,oT 17])] [oB 19 (.iaddr 3 (oT 6) (oT 18)),
 oD 20 3 19,.op none none (.store (some 2) 3 (oT 2) (oT 20))]) (.keep [2] [0,2] (.ret)))
def rs_r23_parser_next : List CRes := [.cell 2 true 3]
def im_r23_parser_next : List Nat := [2002002]
theorem ok_r23_parser_next : FnOk Tryz.prog f_r23_parser_next im_r23_parser_next cc_r23_parser_next rs_r23_parser_next 21 := fnOk1 mixed (by kernel_rfl)
def cc_r23_parser_error : CC := oX [oA 6 0,oG 7 6,oE 8 3 7,oC 9 1 8,oB 10 (.eql false false [.int] (oT 9) (oN 0))] [0,1,2,10] [0] (.ite (oT 10) (.reg [oA 11 0,oA 12 0,oA 13 1,oA 14 2,oG 15 11,oE 16 3 15,oF 1 16 13,oG 17 12,oE 18 4 17,oF 1 18 14]) (.skip))
def rs_r23_parser_error : List CRes := []
def im_r23_parser_error : List Nat := []
theorem ok_r23_parser_error : FnOk Tryz.prog f_r23_parser_error im_r23_parser_error cc_r23_parser_error rs_r23_parser_error 19 := fnOk1 mixed (by kernel_rfl)
def cc_r23_parser_wrong : CC := .reg [oA 2 0,oA 3 0,oZ 4 f_r23_parser_now [oT 3],oB 5 (.fld false 1 2 (oT 4)),oZ 6 f_r23_parser_error [oT 2,oN 3,oT 5]]
def rs_r23_parser_wrong : List CRes := []
def im_r23_parser_wrong : List Nat := []
theorem ok_r23_parser_wrong : FnOk Tryz.prog f_r23_parser_wrong im_r23_parser_wrong cc_r23_parser_wrong rs_r23_parser_wrong 7 := fnOk1 mixed (by kernel_rfl)
def cc_r23_parser_is : CC := oX [oB 6 (.mv (.const ob))] [0,1,2] [0] (oX [oA 7 0,oG 8 7,oE 9 3 8,oC 10 1 9,oB 11 (.eql false false [.int] (oT 10) (oN 0)),oA 12 11,oH 13 12 (.mv (oT 0)),oH 14 12 (.call f_r23_parser_now [oT 13]),oH 15 12 (.fld false 1 0 (oT 14)),oH 16 12 (.mv (oT 1)),oH 17 12 (.eql false false [.int] (oT 15) (oT 16)),oB 18 (.pick (oT 12) (oT 17) (.const ob)),oA 19 18,
 oH 20 19 (.mv (oT 0)),oH 21 19 (.call f_r23_parser_now [oT 20]),oH 22 19 (.fld false 1 1 (oT 21)),oH 23 19 (.mv (oT 2)),oH 24 19 (.eql false false [.str] (oT 22) (oT 23)),oB 25 (.pick (oT 19) (oT 24) (.const ob)),oA 6 25] [6] [0] (.ret))
def rs_r23_parser_is : List CRes := [.tmp 6]
def im_r23_parser_is : List Nat := []
theorem ok_r23_parser_is : FnOk Tryz.prog f_r23_parser_is im_r23_parser_is cc_r23_parser_is rs_r23_parser_is 26 := fnOk1 mixed (by kernel_rfl)
def cc_r23_parser_eat : CC := oX [oB 4 (.mv (.const ob))] [0,1] [0] (.seq (oX [oA 5 0,oA 6 1,oZ 7 f_r23_parser_is [oT 5,.const (.int .u8 111),oT 6]] [0,7] [0] (.ite (oT 7) (oX [oA 8 0,oG 9 8,oE 10 1 9,oC 11 1 10,oB 12 (.arith .add (oT 11) (oN 1)),oG 13 8,oE 14 1 13,oF 1 14 12] [] [0] (oX [oB 4 (.mv (.const (.bool true)))] [4] [0] (.ret))) (.skip))) (.keep [] [0] (oX [
 oB 4 (.mv (.const ob))] [4] [0] (.ret))))
def rs_r23_parser_eat : List CRes := [.tmp 4]
def im_r23_parser_eat : List Nat := []
theorem ok_r23_parser_eat : FnOk Tryz.prog f_r23_parser_eat im_r23_parser_eat cc_r23_parser_eat rs_r23_parser_eat 15 := fnOk1 mixed (by kernel_rfl)
def cc_r23_parser_want : CC := oX [oB 6 (.mv (oS ⟨#[]⟩))] [0,1,2] [0] (oX [oA 8 0,oZ 9 f_r23_parser_now [oT 8],oB 7 (.alloc ty_corporaref23_token [.int .u8 0,oe,oi]),oF 3 7 9] [0,1,2,7] [0,7] (.seq (oX [oA 10 0,oG 11 10,oE 12 3 11,oC 13 1 12,oB 14 (.eql true false [.int] (oT 13) (oN 0))] [0,1,2,7,14] [0,7] (.ite (oT 14) (oX [oB 6 (.mv (oS ⟨#[]⟩))] [6] [0] (.ret)) (.skip)))
 (.keep [0,1,2,7] [0,7] (.seq (oX [oE 15 0 7,oC 16 1 15,oA 17 1,oB 18 (.eql true false [.int] (oT 16) (oT 17)),oA 19 18,oI 20 19 (.mv (oT 1)),oI 21 19 (.eql false false [.int] (oT 20) (.const (.int .u8 111))),oI 22 19 (.mv (oT 21)),oH 23 22 (.faddr 1 (oT 7)),oH 24 22 (.load false 1 (oT 23)),oH 25 22 (.mv (oT 2)),oH 26 22 (.eql true false [.str] (oT 24) (oT 25)),
 oI 27 19 (.pick (oT 22) (oT 26) (.const ob)),oB 28 (.pick (oT 19) (.const (.bool true)) (oT 27))] [0,7,28] [0,7] (.ite (oT 28) (oX [oA 29 0,oZ 30 f_r23_parser_wrong [oT 29]] [] [0] (oX [oB 6 (.mv (oS ⟨#[]⟩))] [6] [0] (.ret))) (.skip))) (.keep [0,7] [0,7] (oX [oA 31 0,oG 32 31,oE 33 1 32,oC 34 1 33,oB 35 (.arith .add (oT 34) (oN 1)),oG 36 31,oE 37 1 36,oF 1 37 35] [7] [0,7] (oX [
 oE 38 1 7,oC 39 1 38,oA 6 39] [6] [0] (.ret))))))))
def rs_r23_parser_want : List CRes := [.tmp 6]
def im_r23_parser_want : List Nat := []
theorem ok_r23_parser_want : FnOk Tryz.prog f_r23_parser_want im_r23_parser_want cc_r23_parser_want rs_r23_parser_want 40 := fnOk1 mixed (by kernel_rfl)
-- r23_parser_number while id=0: live [0:p, 1:limit, 2:at, 7:s, 8:n, 9:i] changed [8, 9] res [0]
def cc_r23_parser_number : CC := oX [oB 6 (.mv (oN 0))] [0,1,2] [0] (oX [oA 10 0,oZ 11 f_r23_parser_want [oT 10,.const (.int .u8 100),oS ⟨#[]⟩],oA 7 11] [0,1,2,7] [0] (oX [oB 8 (.mv (oN 0))] [0,1,2,7,8] [0] (.seq (oX [oB 9 (.mv (oN 0))] [0,1,2,7,8,9] [0] (.block 0 (.loop 1 (.seq (oX [oA 12 9,oA 13 7,oB 14 (.slen (oT 13)),
 oB 15 (.cmp .lss (oT 12) (oT 14))] [0,1,2,7,8,9,15] [0] (.ite (oT 15) (.skip) (.exit 0))) (.keep [0,1,2,7,8,9] [0] (.seq (.block 1 (.reg [oA 18 8,oB 19 (.arith .mul (oN 10) (oT 18)),oA 20 7,oA 21 9,oB 22 (.sidx (oT 20) (oT 21)),oB 23 (.arith .sub (oT 22) (.const (.int .u8 48))),oB 24 (.conv .i64 (oT 23)),oB 25 (.arith .add (oT 19) (oT 24)),oB 26 (.mm false [oT 25,oN 1000000]),oA 8 26]))
 (.keep [0,1,2,7,8,9] [0] (.reg [oA 16 9,oB 17 (.arith .add (oT 16) (oN 1)),oA 9 17])))))))) (.keep [0,1,2,8] [0] (.seq (oX [oA 27 8,oA 28 1,oB 29 (.cmp .gtr (oT 27) (oT 28))] [0,2,8,29] [0] (.ite (oT 29) (.reg [oA 30 0,oA 31 2,oZ 32 f_r23_parser_error [oT 30,oN 8,oT 31]]) (.skip))) (.keep [8] [0] (oX [oA 33 8,oA 6 33] [6] [0] (.ret))))))))
def rs_r23_parser_number : List CRes := [.tmp 6]
def im_r23_parser_number : List Nat := []
theorem ok_r23_parser_number : FnOk Tryz.prog f_r23_parser_number im_r23_parser_number cc_r23_parser_number rs_r23_parser_number 34 := fnOk1 mixed (by kernel_rfl)
def cc_r23_parser_fold : CC := oX [oB 2 (.mv (.const ob))] [0] [0] (oX [oA 3 0,oZ 4 f_r23_parser_eat [oT 3,oS ⟨#[37,99]⟩],oA 2 4] [2] [0] (.ret))
def rs_r23_parser_fold : List CRes := [.tmp 2]
def im_r23_parser_fold : List Nat := []
theorem ok_r23_parser_fold : FnOk Tryz.prog f_r23_parser_fold im_r23_parser_fold cc_r23_parser_fold rs_r23_parser_fold 5 := fnOk1 mixed (by kernel_rfl)
-- r23_parser_alt while id=0: live [0:p, 2:, 3:l] changed [3] res [0, 2, 6, 13]
def cc_r23_parser_alt : CC := oX [oB 2 (.alloc ty_Pattern [oi,oi,oe,oe,oe,oe,ob,on,oe,oe,oi,oi,on])] [0,2] [0,2,6,13] (oX [oA 4 0,oZ 5 f_r23_parser_seq [oT 4],oB 6 (.mslice ty_Pattern 13 [oT 5]),oA 3 6] [0,2,3] [0,2,6,13] (.seq (.block 0 (.loop 1 (.seq (oX [oA 7 0,oZ 8 f_r23_parser_eat [oT 7,oS ⟨#[124]⟩]] [0,2,3,8] [0,2,6,13] (.ite (oT 8) (.skip) (.exit 0)))
 (.keep [0,2,3] [0,2,6,13] (.block 1 (.reg [oA 9 3,oA 10 0,oZ 11 f_r23_parser_seq [oT 10],oB 12 (.bslice ty_Pattern 13 [oT 11]),oB 13 (.append (some 6) ty_Pattern 13 184 (oT 9) (oT 12)),oA 3 13])))))) (.keep [2,3] [0,2,6,13] (.seq (oX [oA 14 3,oB 15 (.len (oT 14)),oB 16 (.eql false false [.int] (oT 15) (oN 1))] [2,3,16] [0,2,6,13] (.ite (oT 16) (oX [oA 17 3,
 oB 18 (.iaddr 13 (oT 17) (oN 0)),oD 19 13 18,oF 13 2 19] [2] [0,2,6,13] (.ret)) (.skip))) (.keep [2,3] [0,2,6,13] (oX [oA 20 3,oB 21 (.build [oi,oi,oe,oe,oe,oe,ob,on,oe,oe,oi,oi,on] [(0,1,oN 5),(12,1,oT 20)]),oF 13 2 21] [2] [0,2,6,13] (.ret)))))))
def rs_r23_parser_alt : List CRes := [.cell 2 true 13]
def im_r23_parser_alt : List Nat := [100006, 1013006]
theorem ok_r23_parser_alt : FnOk Tryz.prog f_r23_parser_alt im_r23_parser_alt cc_r23_parser_alt rs_r23_parser_alt 22 := fnOk1 mixed (by kernel_rfl)
def cc_r23_parser_begins : CC := oX [oB 2 (.mv (.const ob))] [0] [0] (oX [oA 5 0,oZ 6 f_r23_parser_now [oT 5],oB 3 (.alloc ty_corporaref23_token [.int .u8 0,oe,oi]),oF 3 3 6] [0,3] [0,3] (.seq (oX [oA 7 0,oG 8 7,oE 9 3 8,oC 10 1 9,oB 11 (.eql true false [.int] (oT 10) (oN 0))] [0,3,11] [0,3] (.ite (oT 11) (oX [oB 2 (.mv (.const ob))] [2] [0] (.ret)) (.skip)))
 (.keep [0,3] [0,3] (.seq (oX [oE 12 0 3,oC 13 1 12,oB 14 (.eql false false [.int] (oT 13) (.const (.int .u8 110)))] [0,3,14] [0,3] (.ite (oT 14) (oX [oA 15 0,oZ 16 f_r23_parser_next [oT 15],oB 4 (.alloc ty_corporaref23_token [.int .u8 0,oe,oi]),oF 3 4 16] [0,4] [0,4] (.seq (oX [oE 17 0 4,oC 18 1 17,oB 19 (.eql false false [.int] (oT 18) (.const (.int .u8 111))),oA 20 19,
 oH 21 20 (.faddr 1 (oT 4)),oH 22 20 (.load false 1 (oT 21)),oH 23 20 (.eql false false [.str] (oT 22) (oS ⟨#[58]⟩)),oB 24 (.pick (oT 20) (oT 23) (.const ob))] [0,24] [0] (.ite (oT 24) (oX [oB 2 (.mv (.const (.bool true)))] [2] [0] (.ret)) (.skip))) (.keep [0] [0] (oX [oA 25 0,oG 26 25,oE 27 2 26,oC 28 1 27,oB 29 (.cmp .gtr (oT 28) (oN 0)),oA 30 29,oI 31 30 (.mv (oT 0)),
 oI 32 30 (.call f_r23_parser_tail [oT 31]),oI 33 30 (.not (oT 32)),oB 34 (.pick (oT 30) (.const (.bool true)) (oT 33)),oA 2 34] [2] [0] (.ret))))) (.skip))) (.keep [3] [0,3] (oX [oE 35 0 3,oC 36 1 35,oB 37 (.eql false false [.int] (oT 36) (.const (.int .u8 115))),oA 38 37,oI 39 38 (.faddr 0 (oT 3)),oI 40 38 (.load false 1 (oT 39)),
 oI 41 38 (.eql false false [.int] (oT 40) (.const (.int .u8 111))),oI 42 38 (.mv (oT 41)),oH 43 42 (.faddr 1 (oT 3)),oH 44 42 (.load false 1 (oT 43)),oH 45 42 (.eql false false [.str] (oT 44) (oS ⟨#[91]⟩)),oH 46 42 (.mv (oT 45)),oI 47 46 (.faddr 1 (oT 3)),oI 48 46 (.load false 1 (oT 47)),oI 49 46 (.eql false false [.str] (oT 48) (oS ⟨#[60]⟩)),
 oH 50 42 (.pick (oT 46) (.const (.bool true)) (oT 49)),oH 51 42 (.mv (oT 50)),oI 52 51 (.faddr 1 (oT 3)),oI 53 51 (.load false 1 (oT 52)),oI 54 51 (.eql false false [.str] (oT 53) (oS ⟨#[60,47]⟩)),oH 55 42 (.pick (oT 51) (.const (.bool true)) (oT 54)),oH 56 42 (.mv (oT 55)),oI 57 56 (.faddr 1 (oT 3)),oI 58 56 (.load false 1 (oT 57)),
 oI 59 56 (.eql false false [.str] (oT 58) (oS ⟨#[40]⟩)),oH 60 42 (.pick (oT 56) (.const (.bool true)) (oT 59)),oI 61 38 (.pick (oT 42) (oT 60) (.const ob)),oB 62 (.pick (oT 38) (.const (.bool true)) (oT 61)),oA 2 62] [2] [0] (.ret)))))))
def rs_r23_parser_begins : List CRes := [.tmp 2]
def im_r23_parser_begins : List Nat := []
theorem ok_r23_parser_begins : FnOk Tryz.prog f_r23_parser_begins im_r23_parser_begins cc_r23_parser_begins rs_r23_parser_begins 63 := fnOk1 mixed (by kernel_rfl)
def cc_r23_parser_tail : CC := oX [oB 2 (.mv (.const ob))] [0] [0] (oX [oA 4 0,oZ 5 f_r23_parser_now [oT 4],oB 6 (.fld false 1 1 (oT 5)),oA 3 6] [3] [0] (oX [oA 7 3,oB 8 (.eql false false [.str] (oT 7) (oS ⟨#[115,116,114,97,116,101,103,121]⟩)),oA 9 8,oI 10 9 (.mv (oT 3)),oI 11 9 (.eql false false [.str] (oT 10) (oS ⟨#[119,105,116,104,105,110]⟩)),
 oB 12 (.pick (oT 9) (.const (.bool true)) (oT 11)),oA 13 12,oI 14 13 (.mv (oT 3)),oI 15 13 (.eql false false [.str] (oT 14) (oS ⟨#[99,111,110,116,97,105,110,105,110,103]⟩)),oB 16 (.pick (oT 13) (.const (.bool true)) (oT 15)),oA 17 16,oI 18 17 (.mv (oT 3)),oI 19 17 (.eql false false [.str] (oT 18) (oS ⟨#[111,118,101,114,108,97,112,112,105,110,103]⟩)),
 oB 20 (.pick (oT 17) (.const (.bool true)) (oT 19)),oA 2 20] [2] [0] (.ret)))
def rs_r23_parser_tail : List CRes := [.tmp 2]
def im_r23_parser_tail : List Nat := []
theorem ok_r23_parser_tail : FnOk Tryz.prog f_r23_parser_tail im_r23_parser_tail cc_r23_parser_tail rs_r23_parser_tail 21 := fnOk1 mixed (by kernel_rfl)
-- r23_parser_seq while id=0: live [0:p, 2:, 3:l] changed [3] res [0, 2, 6, 13]
def cc_r23_parser_seq : CC := oX [oB 2 (.alloc ty_Pattern [oi,oi,oe,oe,oe,oe,ob,on,oe,oe,oi,oi,on])] [0,2] [0,2,6,13] (oX [oA 4 0,oZ 5 f_r23_parser_rep [oT 4],oB 6 (.mslice ty_Pattern 13 [oT 5]),oA 3 6] [0,2,3] [0,2,6,13] (.seq (.block 0 (.loop 1 (.seq (oX [oA 7 0,oZ 8 f_r23_parser_begins [oT 7]] [0,2,3,8] [0,2,6,13] (.ite (oT 8) (.skip) (.exit 0)))
 (.keep [0,2,3] [0,2,6,13] (.block 1 (.reg [oA 9 3,oA 10 0,oZ 11 f_r23_parser_rep [oT 10],oB 12 (.bslice ty_Pattern 13 [oT 11]),oB 13 (.append (some 6) ty_Pattern 13 184 (oT 9) (oT 12)),oA 3 13])))))) (.keep [2,3] [0,2,6,13] (.seq (oX [oA 14 3,oB 15 (.len (oT 14)),oB 16 (.eql false false [.int] (oT 15) (oN 1))] [2,3,16] [0,2,6,13] (.ite (oT 16) (oX [oA 17 3,
 oB 18 (.iaddr 13 (oT 17) (oN 0)),oD 19 13 18,oF 13 2 19] [2] [0,2,6,13] (.ret)) (.skip))) (.keep [2,3] [0,2,6,13] (oX [oA 20 3,oB 21 (.build [oi,oi,oe,oe,oe,oe,ob,on,oe,oe,oi,oi,on] [(0,1,oN 4),(12,1,oT 20)]),oF 13 2 21] [2] [0,2,6,13] (.ret)))))))
def rs_r23_parser_seq : List CRes := [.cell 2 true 13]
def im_r23_parser_seq : List Nat := [100006, 1013006]
theorem ok_r23_parser_seq : FnOk Tryz.prog f_r23_parser_seq im_r23_parser_seq cc_r23_parser_seq rs_r23_parser_seq 22 := fnOk1 mixed (by kernel_rfl)
-- r23_parser_rep while id=0: live [0:p, 2:, 3:x] changed [] res [0, 2, 3]
def cc_r23_parser_rep : CC := oX [oB 2 (.alloc ty_Pattern [oi,oi,oe,oe,oe,oe,ob,on,oe,oe,oi,oi,on])] [0,2] [0,2] (oX [oA 7 0,oZ 8 f_r23_parser_item [oT 7],oB 3 (.alloc ty_Pattern [oi,oi,oe,oe,oe,oe,ob,on,oe,oe,oi,oi,on]),oF 13 3 8] [0,2,3] [0,2,3] (.seq (.block 0 (.loop 1 (.seq (oX [oA 9 0,oG 10 9,oE 11 3 10,oC 12 1 11,
 oB 13 (.eql false false [.int] (oT 12) (oN 0))] [0,2,3,13] [0,2,3] (.ite (oT 13) (.skip) (.exit 0))) (.keep [0,2,3] [0,2,3] (.block 1 (oX [oA 14 0,oZ 15 f_r23_parser_now [oT 14],oB 16 (.fld false 1 2 (oT 15)),oA 4 16] [0,2,3,4] [0,2,3] (oX [oB 5 (.mv (oN 0)),oB 6 (.mv (oN (-1)))] [0,2,3,4,5,6] [0,2,3] (.seq (.block 2 (oX [oA 19 0,oZ 20 f_r23_parser_eat [oT 19,oS ⟨#[63]⟩],
 oA 18 20] [0,2,3,4,5,6,18] [0,2,3] (.ite (oT 18) (.reg [oB 6 (.mv (oN 1))]) (oX [oA 22 0,oZ 23 f_r23_parser_eat [oT 22,oS ⟨#[42]⟩],oA 21 23] [0,2,3,4,5,6,21] [0,2,3] (.ite (oT 21) (.skip) (oX [oA 25 0,oZ 26 f_r23_parser_eat [oT 25,oS ⟨#[43]⟩],oA 24 26] [0,2,3,4,6,24] [0,2,3] (.ite (oT 24) (.reg [oB 5 (.mv (oN 1))]) (oX [oA 28 0,oZ 29 f_r23_parser_eat [oT 28,oS ⟨#[123]⟩],
 oA 27 29] [0,2,3,4,27] [0,2,3] (.ite (oT 27) (oX [oA 30 0,oA 31 4,oZ 32 f_r23_parser_number [oT 30,oN 16,oT 31],oA 5 32] [0,2,3,4,5] [0,2,3] (oX [oA 33 5,oA 6 33] [0,2,3,4,5,6] [0,2,3] (.seq (oX [oA 34 0,oZ 35 f_r23_parser_eat [oT 34,oS ⟨#[44]⟩]] [0,2,3,4,5,6,35] [0,2,3] (.ite (oT 35) (oX [oB 6 (.mv (oN (-1)))] [0,2,3,4,5,6] [0,2,3] (oX [oA 36 0,oG 37 36,oE 38 3 37,oC 39 1 38,
 oB 40 (.eql false false [.int] (oT 39) (oN 0)),oA 41 40,oH 42 41 (.mv (oT 0)),oH 43 41 (.call f_r23_parser_now [oT 42]),oH 44 41 (.fld false 1 0 (oT 43)),oH 45 41 (.eql false false [.int] (oT 44) (.const (.int .u8 100))),oB 46 (.pick (oT 41) (oT 45) (.const ob))] [0,2,3,4,5,6,46] [0,2,3] (.ite (oT 46) (oX [oA 47 0,oA 48 4,oZ 49 f_r23_parser_number [oT 47,oN 16,oT 48],
 oA 6 49] [0,2,3,4,5,6] [0,2,3] (oX [oA 50 6,oA 51 5,oB 52 (.cmp .lss (oT 50) (oT 51))] [0,2,3,4,5,6,52] [0,2,3] (.ite (oT 52) (.reg [oA 53 0,oA 54 4,oZ 55 f_r23_parser_error [oT 53,oN 8,oT 54]]) (.skip)))) (.skip)))) (.skip))) (.keep [0,2,3,5,6] [0,2,3] (.reg [oA 56 0,oZ 57 f_r23_parser_want [oT 56,.const (.int .u8 111),oS ⟨#[125]⟩]]))))) (oX [oD 17 13 3,
 oF 13 2 17] [2] [0,2] (.ret))))))))))) (.keep [0,2,3,5,6] [0,2,3] (.reg [oA 58 5,oA 59 6,oD 60 13 3,oB 61 (.bslice ty_Pattern 13 [oT 60]),oB 62 (.build [oi,oi,oe,oe,oe,oe,ob,on,oe,oe,oi,oi,on] [(0,1,oN 6),(10,1,oT 58),(11,1,oT 59),(12,1,oT 61)]),oF 13 3 62])))))))))) (.keep [2,3] [0,2,3] (oX [oD 63 13 3,oF 13 2 63] [2] [0,2] (.ret)))))
def rs_r23_parser_rep : List CRes := [.cell 2 true 13]
def im_r23_parser_rep : List Nat := []
theorem ok_r23_parser_rep : FnOk Tryz.prog f_r23_parser_rep im_r23_parser_rep cc_r23_parser_rep rs_r23_parser_rep 64 := fnOk1 mixed (by kernel_rfl)
def cc_r23_parser_item : CC := oX [oB 2 (.alloc ty_Pattern [oi,oi,oe,oe,oe,oe,ob,on,oe,oe,oi,oi,on])] [0,2] [0,2] (.seq (.block 0 (oX [oA 8 0,oZ 9 f_r23_parser_eat [oT 8,oS ⟨#[40]⟩],oA 7 9] [0,2,7] [0,2] (.ite (oT 7) (oX [oA 10 0,oG 11 10,oE 12 2 11,oC 13 1 12,oB 14 (.arith .add (oT 13) (oN 1)),oG 15 10,oE 16 2 15,oF 1 16 14] [0,2] [0,2] (oX [oA 17 0,oZ 18 f_r23_parser_alt [oT 17],
 oB 3 (.alloc ty_Pattern [oi,oi,oe,oe,oe,oe,ob,on,oe,oe,oi,oi,on]),oF 13 3 18] [0,2,3] [0,2,3] (oX [oA 19 0,oG 20 19,oE 21 2 20,oC 22 1 21,oB 23 (.arith .sub (oT 22) (oN 1)),oG 24 19,oE 25 2 24,oF 1 25 23] [0,2,3] [0,2,3] (oX [oA 26 0,oZ 27 f_r23_parser_want [oT 26,.const (.int .u8 111),oS ⟨#[41]⟩]] [2,3] [0,2,3] (oX [oD 28 13 3,oF 13 2 28] [2] [0,2] (.ret)))))) (oX [oA 30 0,
 oZ 31 f_r23_parser_eat [oT 30,oS ⟨#[60]⟩],oA 29 31] [0,2,29] [0,2] (.ite (oT 29) (oX [oA 32 0,oZ 33 f_r23_parser_want [oT 32,.const (.int .u8 110),oS ⟨#[]⟩],oB 34 (.build [oi,oi,oe,oe,oe,oe,ob,on,oe,oe,oi,oi,on] [(0,1,oN 2),(9,1,oT 33)]),oB 4 (.alloc ty_Pattern [oi,oi,oe,oe,oe,oe,ob,on,oe,oe,oi,oi,on]),oF 13 4 34] [0,2,4] [0,2,4] (oX [oA 35 0,
 oZ 36 f_r23_parser_want [oT 35,.const (.int .u8 111),oS ⟨#[62]⟩]] [2,4] [0,2,4] (oX [oD 37 13 4,oF 13 2 37] [2] [0,2] (.ret)))) (oX [oA 39 0,oZ 40 f_r23_parser_eat [oT 39,oS ⟨#[60,47]⟩],oA 38 40] [0,2,38] [0,2] (.ite (oT 38) (oX [oA 41 0,oZ 42 f_r23_parser_want [oT 41,.const (.int .u8 110),oS ⟨#[]⟩],oB 43 (.build [oi,oi,oe,oe,oe,oe,ob,on,oe,oe,oi,oi,on] [(0,1,oN 3),(9,1,oT 42)]),
 oB 5 (.alloc ty_Pattern [oi,oi,oe,oe,oe,oe,ob,on,oe,oe,oi,oi,on]),oF 13 5 43] [0,2,5] [0,2,5] (oX [oA 44 0,oZ 45 f_r23_parser_want [oT 44,.const (.int .u8 111),oS ⟨#[62]⟩]] [2,5] [0,2,5] (oX [oD 46 13 5,oF 13 2 46] [2] [0,2] (.ret)))) (.skip)))))))) (.keep [0,2] [0,2] (oX [oB 47 (.build [oi,oi,oe,oe,oe,oe,ob,on,oe,oe,oi,oi,on] [(0,1,oN 1)]),
 oB 6 (.alloc ty_Pattern [oi,oi,oe,oe,oe,oe,ob,on,oe,oe,oi,oi,on]),oF 13 6 47] [0,2,6] [0,2,6] (.seq (oX [oA 48 0,oG 49 48,oE 50 3 49,oC 51 1 50,oB 52 (.eql false false [.int] (oT 51) (oN 0)),oA 53 52,oH 54 53 (.mv (oT 0)),oH 55 53 (.call f_r23_parser_now [oT 54]),oH 56 53 (.fld false 1 0 (oT 55)),oH 57 53 (.eql false false [.int] (oT 56) (.const (.int .u8 110))),
 oB 58 (.pick (oT 53) (oT 57) (.const ob))] [0,2,6,58] [0,2,6] (.ite (oT 58) (oX [oA 59 0,oZ 60 f_r23_parser_want [oT 59,.const (.int .u8 110),oS ⟨#[]⟩],oE 61 8 6,oF 1 61 60] [0,2,6] [0,2,6] (.reg [oA 62 0,oZ 63 f_r23_parser_want [oT 62,.const (.int .u8 111),oS ⟨#[58]⟩]])) (.skip))) (.keep [0,2,6] [0,2,6] (.seq (oX [oA 64 0,oG 65 64,oE 66 3 65,oC 67 1 66,
 oB 68 (.eql false false [.int] (oT 67) (oN 0)),oA 69 68,oH 70 69 (.mv (oT 0)),oH 71 69 (.call f_r23_parser_now [oT 70]),oH 72 69 (.fld false 1 0 (oT 71)),oH 73 69 (.eql false false [.int] (oT 72) (.const (.int .u8 115))),oB 74 (.pick (oT 69) (oT 73) (.const ob))] [0,2,6,74] [0,2,6] (.ite (oT 74) (oX [oA 75 0,oZ 76 f_r23_parser_want [oT 75,.const (.int .u8 115),oS ⟨#[]⟩],
 oB 77 (.build [oi,oe,oe,oe,oe,ob,on] [(0,1,oN 2),(3,1,oT 76)]),oE 78 1 6,oF 7 78 77] [0,2,6] [0,2,6] (oX [oA 79 0,oZ 80 f_r23_parser_fold [oT 79],oE 81 1 6,oE 82 5 81,oF 1 82 80] [2,6] [0,2,6] (oX [oD 83 13 6,oF 13 2 83] [2] [0,2] (.ret)))) (.skip))) (.keep [0,2,6] [0,2,6] (oX [oA 84 0,oZ 85 f_r23_parser_want [oT 84,.const (.int .u8 111),oS ⟨#[91]⟩]] [0,2,6] [0,2,6] (.seq (oX [
 oA 86 0,oZ 87 f_r23_parser_eat [oT 86,oS ⟨#[93]⟩]] [0,2,6,87] [0,2,6] (.ite (oT 87) (oX [oB 88 (.build [oi,oe,oe,oe,oe,ob,on] [(0,1,oN 1)]),oE 89 1 6,oF 7 89 88] [2,6] [0,2,6] (oX [oD 90 13 6,oF 13 2 90] [2] [0,2] (.ret))) (.skip))) (.keep [0,2,6] [0,2,6] (oX [oA 91 0,oZ 92 f_r23_parser_or [oT 91],oE 93 1 6,oF 7 93 92] [0,2,6] [0,2,6] (oX [oA 94 0,
 oZ 95 f_r23_parser_want [oT 94,.const (.int .u8 111),oS ⟨#[93]⟩]] [2,6] [0,2,6] (oX [oD 96 13 6,oF 13 2 96] [2] [0,2] (.ret))))))))))))))
def rs_r23_parser_item : List CRes := [.cell 2 true 13]
def im_r23_parser_item : List Nat := []
theorem ok_r23_parser_item : FnOk Tryz.prog f_r23_parser_item im_r23_parser_item cc_r23_parser_item rs_r23_parser_item 97 := fnOk1 mixed (by kernel_rfl)

end Go.Gv

namespace Go.Gv
open Cod (enc dec)
variable {S S0 : Nat → Spc}
@[simp] abbrev F_now (s : Pst) (_ : Unit) : Option (Pst × Tok) := (nowT s).map fun x => (s, x)
abbrev s_now : Spc := psF a0 (enc (X := Tok)) F_now
theorem w_now : WalkPS cc_r23_parser_now rs_r23_parser_now S a0 (enc (X := Tok)) (fun s z => ∃ r, F_now s z = some r) (fun s z s' y => F_now s z = some (s', y)) := by
 rintro b s ⟨⟩ ⟨r, hr⟩
 simp only [F_now, nowT, Option.map_eq_some_iff] at hr
 obtain ⟨x, hx, rfl⟩ := hr
 split at hx
 ·rename_i h0
  obtain ⟨h0, hb⟩ := h0
  have hl := lt_at hx
  obtain ⟨_, hgx⟩ := List.getElem?_eq_some_iff.1 hx
  simp [cc_r23_parser_now, rs_r23_parser_now, hx]
  exact fun _ => ⟨h0, by omega, finPS s x (.same _) (by simp) ⟨by rw [nowT, if_pos ⟨h0, hb⟩, hx], rfl⟩⟩
 ·cases hx
theorem eta0 {s : Pst} (h : s.e = 0) : Pst.mk s.l s.pos s.deep 0 s.fail = s := by rw [← h]
theorem finB {b : Nat} {post : Pst → Bool → Prop} {v : Bool} {H : HMap} (s : Pst) (h0 : H 0 = some (.box b (cePst s))) (hq : post s v) : FinPS enc b post (.v (.bool v)) H := finPS s v (.same _) h0 hq
theorem finI {b : Nat} {post : Pst → Int → Prop} {v : Int} {H : HMap} (s : Pst) (h0 : H 0 = some (.box b (cePst s))) (hq : post s v) : FinPS enc b post (.v (.int .i64 v)) H := finPS s v (.same _) h0 hq
theorem finS {b : Nat} {post : Pst → B → Prop} {v : B} {H : HMap} (s : Pst) (h0 : H 0 = some (.box b (cePst s))) (hq : post s v) : FinPS enc b post (.v (.string v)) H := finPS s v (.same _) h0 hq
@[simp] abbrev F_is (s : Pst) (z : U8 × B) : Option (Pst × Bool) := (isF s z.1.val z.2).map fun x => (s, x)
abbrev s_is : Spc := psF (a2 U8 B) (enc (X := Bool)) F_is
theorem w_is (h1 : S f_r23_parser_now = s_now) : WalkPS cc_r23_parser_is rs_r23_parser_is S (a2 U8 B) (enc (X := Bool)) (fun s z => ∃ r, F_is s z = some r) (fun s z s' y => F_is s z = some (s', y)) := by
 rintro b s ⟨⟨k⟩, t⟩ ⟨r, hr⟩
 simp only [F_is, isF, Option.map_eq_some_iff] at hr
 obtain ⟨v, hr, rfl⟩ := hr
 split at hr
 ·rename_i he
  simp [cc_r23_parser_is, rs_r23_parser_is, h1, he]
  exact finB s (by simp) ⟨by rw [isF, if_pos he], rfl⟩
 ·rename_i he
  have he : s.e = 0 := by simpa using he
  obtain ⟨x, hx, rfl⟩ := Option.map_eq_some_iff.1 hr
  have hF : isF s k t = some (decide (x.kind = k ∧ x.text = t)) := by rw [isF, if_neg (by simp [he]), hx]; rfl
  simp [cc_r23_parser_is, rs_r23_parser_is, h1, he, eta0 he, hx]
  refine ⟨fun hk => finB s (by simp [he]) ⟨by rw [hF]; simp [hk], rfl⟩, fun hk => finB s (by simp [he]) ⟨by rw [hF]; simp [hk], rfl⟩⟩
@[simp] abbrev F_eat (s : Pst) (t : B) : Option (Pst × Bool) := eatF s t
abbrev s_eat : Spc := psF (a1 B) (enc (X := Bool)) F_eat
/-- A token is there, where something was found. -/
theorem isF_true {s : Pst} {k : Int} {t : B} (h : isF s k t = some true) : s.e = 0 ∧ ∃ x, nowT s = some x ∧ x.kind = k ∧ x.text = t := by
 unfold isF at h
 split at h
 ·cases h
 ·rename_i he
  obtain ⟨x, hx, h2⟩ := Option.map_eq_some_iff.1 h
  simp at h2
  exact ⟨by simpa using he, x, hx, h2⟩
theorem nowT_rng {s : Pst} {x : Tok} (h : nowT s = some x) : 0 ≤ s.pos ∧ s.pos < s.l.length ∧ s.l.length ≤ 1000000 := by
 unfold nowT at h
 split at h
 ·have := lt_at h
  omega
 ·cases h
theorem w_eat (h1 : S f_r23_parser_is = s_is) : WalkPS cc_r23_parser_eat rs_r23_parser_eat S (a1 B) (enc (X := Bool)) (fun s z => ∃ r, F_eat s z = some r) (fun s z s' y => F_eat s z = some (s', y)) := by
 rintro b s t ⟨r, hr⟩
 have hr0 := hr
 simp only [F_eat, eatF, Option.map_eq_some_iff] at hr
 obtain ⟨v, hr, rfl⟩ := hr
 simp [cc_r23_parser_eat, rs_r23_parser_eat, h1, hr]
 cases v
 ·simp
  exact finB s (by simp) (by simp [F_eat, eatF, hr])
 ·obtain ⟨_, x, hx, _⟩ := isF_true hr
  have := nowT_rng hx
  simp
  exact ⟨by simp only [InR]; omega, finB s.step (by simp [Pst.step]) (by simp [F_eat, eatF, hr])⟩
@[simp] abbrev F_fold (s : Pst) (_ : Unit) : Option (Pst × Bool) := eatF s ⟨#[37, 99]⟩
abbrev s_fold : Spc := psF a0 (enc (X := Bool)) F_fold
theorem w_fold (h1 : S f_r23_parser_eat = s_eat) : WalkPS cc_r23_parser_fold rs_r23_parser_fold S a0 (enc (X := Bool)) (fun s z => ∃ r, F_fold s z = some r) (fun s z s' y => F_fold s z = some (s', y)) := by
 rintro b s ⟨⟩ ⟨⟨s', v⟩, hr⟩
 simp only [F_fold] at hr
 simp [cc_r23_parser_fold, rs_r23_parser_fold, h1, hr, -Bool.forall_bool, -Bool.exists_bool]
 refine finB s' ?_ ?_
 ·simp
 ·exact ⟨rfl, rfl⟩
end Go.Gv

namespace Go.Gv
open Cod (enc dec)
variable {S S0 : Nat → Spc}
theorem frz_pat {H : HMap} {op o : Int} {n a v l lb rg : B} {f : Bool} {cd d : D} {mn mx : Int} (cks : List Cond) (ks : List Pat) (hc : FrzTo H cd (enc cks)) (hd : FrzTo H d (enc ks)) :
 FrzTo H (.agg [.v (.int .i64 op), .v (.int .i64 o), .v (.string n), .v (.string a), .v (.string v), .v (.string l), .v (.bool f), cd, .v (.string lb), .v (.string rg), .v (.int .i64 mn), .v (.int .i64 mx), d]) (enc (⟨op, ⟨o, n, a, v, l, f, cks⟩, lb, rg, mn, mx, ks⟩ : Pat)) := by
 rw [enc_Pat]
 refine .agg rfl fun k x y hx hy => ?_
 rcases k with _ | _ | _ | _ | _ | _ | _ | _ | _ | _ | _ | _ | _ | k
 ·cases hx; cases hy; exact .same _
 ·cases hx; cases hy; exact .same _
 ·cases hx; cases hy; exact .same _
 ·cases hx; cases hy; exact .same _
 ·cases hx; cases hy; exact .same _
 ·cases hx; cases hy; exact .same _
 ·cases hx; cases hy; exact .same _
 ·cases hx; cases hy; exact hc
 ·cases hx; cases hy; exact .same _
 ·cases hx; cases hy; exact .same _
 ·cases hx; cases hy; exact .same _
 ·cases hx; cases hy; exact .same _
 ·cases hx; cases hy; exact hd
 ·simp at hx
theorem finP {b : Nat} {post : Pst → Pat → Prop} {H : HMap} {op o : Int} {n a v l lb rg : B} {f : Bool} {cd d : D} {mn mx : Int} (s : Pst) (cks : List Cond) (ks : List Pat) (hc : FrzTo (fun i => if i = 0 then none else H i) cd (enc cks)) (hd : FrzTo (fun i => if i = 0 then none else H i) d (enc ks))
 (h0 : H 0 = some (.box b (cePst s))) (hq : post s ⟨op, ⟨o, n, a, v, l, f, cks⟩, lb, rg, mn, mx, ks⟩) :
 FinPS enc b post (.agg [.v (.int .i64 op), .v (.int .i64 o), .v (.string n), .v (.string a), .v (.string v), .v (.string l), .v (.bool f), cd, .v (.string lb), .v (.string rg), .v (.int .i64 mn), .v (.int .i64 mx), d]) H :=
 finPS s _ (frz_pat cks ks hc hd) h0 hq
end Go.Gv

namespace Go.Gv
open Cod (enc dec)
variable {S S0 : Nat → Spc}
theorem oneOr_n {op : Int} {l : List Pat} (h : l.length ≠ 1) : oneOr op l = ⟨op, Cond0, E0, E0, 0, 0, l⟩ := by
 match l, h with
 | [], _ => rfl
 | [x], h => exact absurd rfl h
 | x :: y :: l, _ => rfl
end Go.Gv

namespace Go.Gv
open Cod (enc dec)
variable {S S0 : Nat → Spc}
abbrev s_patterns : Spc := spc (a2 Int (List Pat)) (fun _ => True) (enc (X := Pat)) fun x y => y = oneOr x.1 x.2
theorem w_patterns : Walk cc_query_patterns rs_query_patterns S (a2 Int (List Pat)) (fun _ => True) (enc (X := Pat)) fun x y => y = oneOr x.1 x.2 := by
 rintro ⟨op, l⟩ -
 simp [cc_query_patterns, rs_query_patterns]
 refine fun b _ => ⟨fun h => ⟨by omega, fun a ha => ?_⟩, fun h => ?_⟩
 ·have e : l = [a] := by
   match l, h, ha with
   | [x], _, ha => simp at ha; rw [ha]
  exact fin_of a (by simp) (by rw [e]; rfl)
 ·exact fin_of (⟨op, Cond0, E0, E0, 0, 0, l⟩ : Pat) (frz_pat [] l (.nil _) (by simp)) (oneOr_n (by omega)).symm
@[simp] abbrev F_rbegins (s : Rdr) (i : Bool) : Option (Rdr × Bool) := (beginsR s i).map fun v => (s, v)
abbrev s_rbegins : Spc := rdF (a1 Bool) (enc (X := Bool)) F_rbegins
theorem finRP {b : Nat} {post : Rdr → Pat → Prop} {H : HMap} {op o : Int} {n a v l lb rg : B} {f : Bool} {cd d : D} {mn mx : Int} (s : Rdr) (cks : List Cond) (ks : List Pat) (hc : FrzTo (fun i => if i = 0 then none else H i) cd (enc cks)) (hd : FrzTo (fun i => if i = 0 then none else H i) d (enc ks))
 (h0 : H 0 = some (.box b (ceRdr s))) (hq : post s ⟨op, ⟨o, n, a, v, l, f, cks⟩, lb, rg, mn, mx, ks⟩) :
 FinRD enc b post (.agg [.v (.int .i64 op), .v (.int .i64 o), .v (.string n), .v (.string a), .v (.string v), .v (.string l), .v (.bool f), cd, .v (.string lb), .v (.string rg), .v (.int .i64 mn), .v (.int .i64 mx), d]) H :=
 finRD s _ (frz_pat cks ks hc hd) h0 hq
theorem w_reader_begins (h1 : S f_query_reader_sign = s_rsign) (h2 : S f_query_reader_word = s_rword) (h3 : S f_query_reader_peek = s_rpeek) :
 WalkRD cc_query_reader_begins rs_query_reader_begins S (a1 Bool) (enc (X := Bool)) (fun s z => ∃ r, F_rbegins s z = some r) (fun s z s' y => F_rbegins s z = some (s', y)) := by
 rintro b s i ⟨⟨s', y⟩, hr0⟩
 obtain ⟨v, q, q1⟩ := Option.map_eq_some_iff.1 hr0
 simp only [Prod.mk.injEq] at q1
 obtain ⟨rfl, rfl⟩ := q1
 have q0 := q
 unfold beginsR at q
 split at q
 ·rename_i hk
  cases q
  obtain ⟨tx, fi, kd, te, po⟩ := s
  simp only at hk
  subst hk
  simp [cc_query_reader_begins, rs_query_reader_begins]
  exact finRB ⟨tx, fi, 4, te, po⟩ (by simp) ⟨q0, rfl⟩
 rename_i hk4
 split at q
 ·rename_i hk
  obtain ⟨n, hn, q2⟩ := Option.map_eq_some_iff.1 q
  clear q hk4
  obtain ⟨tx, fi, kd, te, po⟩ := s
  simp only at hk
  subst hk
  simp [cc_query_reader_begins, rs_query_reader_begins, h1, h2, h3, hn, -Bool.forall_bool, -Bool.exists_bool]
  clear h1 h2 h3
  refine ⟨fun hi => ⟨fun hw => ⟨fun h5 => ?_, fun h5 => ?_⟩, fun hw => ?_⟩, fun hi => ?_⟩
  ·exact finRB ⟨tx, fi, 2, te, po⟩ (by simp) ⟨by rw [q0, ← q2]; simp [hi, tailL, hw, h5], rfl⟩
  ·exact finRB ⟨tx, fi, 2, te, po⟩ (by simp) ⟨by rw [q0, ← q2]; simp [hi, tailL, hw, h5], rfl⟩
  ·exact finRB ⟨tx, fi, 2, te, po⟩ (by simp) ⟨by rw [q0, ← q2]; simp [hi, tailL, hw], rfl⟩
  ·exact finRB ⟨tx, fi, 2, te, po⟩ (by simp) ⟨by rw [q0, ← q2]; simp [hi], rfl⟩
 ·rename_i hk
  cases q
  simp [cc_query_reader_begins, rs_query_reader_begins, h1, h2, h3, hk4, hk, -Bool.forall_bool, -Bool.exists_bool]
  clear h1 h2 h3
  refine ⟨fun a1 => ⟨fun a2 => ⟨fun a3 => ?_, fun a3 => ?_⟩, fun a2 => ?_⟩, fun a1 => ?_⟩
  ·exact finRB s (by simp) ⟨by rw [q0]; simp [a1, a2, a3], rfl⟩
  ·exact finRB s (by simp) ⟨by rw [q0]; simp [a1, a2, a3], rfl⟩
  ·exact finRB s (by simp) ⟨by rw [q0]; simp [a1, a2], rfl⟩
  ·exact finRB s (by simp) ⟨by rw [q0]; simp [a1], rfl⟩
end Go.Gv

namespace Go.Gv
open Cod (enc dec)
variable {S S0 : Nat → Spc}
variable (A : Rdr → Bool → Option (Rdr × Pat)) (O : Rdr → Option (Rdr × Cond))
end Go.Gv

namespace Go.Gv
open Cod (enc dec)
variable {S S0 : Nat → Spc}
abbrev s_qfilts : Spc := spc a0 (fun _ => True) (enc (X := List B)) fun _ y => y = filterL
theorem w_qfilts : Walk cc_query_filterWords rs_query_filterWords S a0 (fun _ => True) (enc (X := List B)) fun _ y => y = filterL := by
 rintro x -
 simp [cc_query_filterWords, rs_query_filterWords]
 exact fin_of (Y := List B) filterL (.same _) rfl
theorem frz_agg' {H : HMap} {l l' : List D} (h : FzL H l l') : FrzTo H (.agg l) (.agg l') := .agg h.get.1 h.get.2
def knownQ : B := ⟨#[60, 115, 62, 32, 91, 119, 111, 114, 100, 61, 34, 84, 104, 101, 34, 37, 99, 93]⟩
def knownP : Pat := ⟨4, Cond0, E0, E0, 0, 0, [⟨2, Cond0, E0, ⟨#[115]⟩, 0, 0, []⟩, ⟨1, ⟨2, ⟨#[119, 111, 114, 100]⟩, E0, ⟨#[84, 104, 101]⟩, E0, true, []⟩, E0, E0, 0, 0, []⟩]⟩
end Go.Gv

namespace Go.Gv
open Cod (enc dec)
open Go.Proofs
/-- The deferred function where nothing panicked. -/
theorem idle_Parse (v2 v3 v4 : Value) (w : World) : CallsD Tryz.prog 27 #[v2, v3, v4] .returning w fun e u' w' => e = .returned (.tuple #[]) ∧ u' = .returning ∧ w' = w := by
 refine callsD_of_wpS Tryz.func27 rfl fun c₀ cs hu => ?_
 apply wpS_seq
 apply wpS_region
 simp [wpOpsS, go_sem, recoverD, hu, Tryz.ntmps27, Exit.thenS]
 apply wpS_seq
 apply wpS_region
 simp [wpOpsS, go_sem, recoverD, hu, Tryz.ntmps27, Exit.thenS]
 refine wpS_cond (t := false) (by simp [Act.eval, Array.replicate]) ?_
 simp only [Bool.false_eq_true, if_false]
 refine wpS_of_wp (wp_skip ?_)
 cases c₀
 simp_all [bodyPostS, results, Tryz.results27]

/-! ### The parts of its text -/
def ccPA : CC := .reg [.op (some 2) none (.alloc 38 [(.int .i64 0), (.int .i64 0), (.string ⟨#[]⟩), (.string ⟨#[]⟩), (.string ⟨#[]⟩), (.string ⟨#[]⟩), (.bool false), (.slice none 0 0), (.string ⟨#[]⟩), (.string ⟨#[]⟩), (.int .i64 0), (.int .i64 0), (.slice none 0 0), (.int .i64 0), (.string ⟨#[]⟩), (.string ⟨#[]⟩), (.string ⟨#[]⟩), (.string ⟨#[]⟩), (.string ⟨#[]⟩), (.bool false), (.int .i64 0), (.int .i64 0), (.slice none 0 0), (.slice none 0 0), (.slice none 0 0), (.int .i64 0)]), .op (some 3) none (.alloc 3 [(.int .i64 0)]), .op (some 4) none (.alloc 39 [(.int .i64 0)])]
def ccPB : CC := .seq (.reg [.op (some 5) none (.mv (.tmp 0)), .op (some 6) none (.slen (.tmp 5)), .op (some 7) none (.cmp .gtr (.tmp 6) (.const (.int .i64 400)))])
 (.keep [0, 2, 3, 4, 7] [2, 3, 4] (.ite (.tmp 7) (.seq (.reg [.op (some 8) none (.build [(.int .i64 0), (.int .i64 0), (.string ⟨#[]⟩), (.string ⟨#[]⟩), (.string ⟨#[]⟩), (.string ⟨#[]⟩), (.bool false), (.slice none 0 0), (.string ⟨#[]⟩), (.string ⟨#[]⟩), (.int .i64 0), (.int .i64 0), (.slice none 0 0), (.int .i64 0), (.string ⟨#[]⟩), (.string ⟨#[]⟩), (.string ⟨#[]⟩), (.string ⟨#[]⟩), (.string ⟨#[]⟩), (.bool false), (.int .i64 0), (.int .i64 0), (.slice none 0 0), (.slice none 0 0), (.slice none 0 0), (.int .i64 0)] []), .op none none (.store none 26 (.tmp 2) (.tmp 8)), .op none none (.store none 1 (.tmp 3) (.const (.int .i64 0))), .op none none (.store none 1 (.tmp 4) (.const (.int .i64 2)))]) .ret) .skip))
def ccPD : CC := .keep [0, 2, 3, 4] [2, 3, 4] (.seq (.reg [.op (some 10) none (.mv (.tmp 0)), .op (some 11) none (.build [(.string ⟨#[]⟩), (.int .i64 0), (.int .i64 0), (.string ⟨#[]⟩), (.int .i64 0)] [(0, 1, (.tmp 10))]), .op (some 12) none (.box 69 false (.tmp 11)),
 .op (some 13) none (.call f_query_reader_query [(.tmp 12)]), .op none none (.store none 26 (.tmp 2) (.tmp 13)), .op none none (.store none 1 (.tmp 3) (.const (.int .i64 0))), .op none none (.store none 1 (.tmp 4) (.const (.int .i64 0)))]) .ret)
def rsP : List CRes := [.cell 2 true 26, .cell 3 false 1, .cell 4 false 1]
def codeA : Code → Option Code
 | .seq a _ => some a
 | _ => none
def codeB : Code → Option Code
 | .seq _ (.seq a _) => some a
 | _ => none
def codeD : Code → Option Code
 | .seq _ (.seq _ (.seq _ a)) => some a
 | _ => none
theorem ok_PA : ((Tryz.f11.body.bind codeA).bind fun c => compileC Tryz.prog [] 14 c) = some (strip ccPA) := by kernel_rfl
theorem ok_PB : ((Tryz.f11.body.bind codeB).bind fun c => compileC Tryz.prog [] 14 c) = some (strip ccPB) := by kernel_rfl
theorem ok_PD : ((Tryz.f11.body.bind codeD).bind fun c => compileC Tryz.prog [] 14 c) = some (strip ccPD) := by kernel_rfl
theorem ok_PR : Tryz.f11.results.toList.mapM (compileRes Tryz.prog) = some rsP := by kernel_rfl
def nrm (F : Sg → HMap → Prop) : Ex → Sg → HMap → Prop
 | .norm, σ, H => F σ H
 | _, _, _ => False
def VP (S : Nat → Spc) (Q : D → HMap → Prop) (ds : List D) (H0 : HMap) : Prop :=
 vc S ccPA (nrm fun σ H => vc S ccPB (nrm fun σ H => vc S ccPD (fun e σ H => match e with | .ret => resL rsP σ H fun ds => Q (oneOrTup ds) H | _ => False) (upd σ 9 .any) H) σ H) (initS ds) H0
theorem St.defer {E : Env} {σ : Sg} {H : HMap} {a : Act} {w : World} (h : St E σ H a w) (x : Value) (dl : List Deferred) (h9 : 9 < E.N) : St { E with ds := dl } (upd σ 9 .any) H { (a.put (some 9) x) with defers := dl } w := by
 obtain ⟨h1, h2, tp, h3, h4⟩ := h
 refine ⟨rfl, by rw [← h2]; simp [Act.put], tp, ⟨h3.1, h3.2, h3.3, h3.4, h3.5, h3.6, h3.7⟩, fun t => ?_⟩
 have := rel_put (σ := σ) (Q := R tp (Imm E.O tp H w) w) (a := a) h2 h4 (some 9) (fun t ht => by cases ht; exact h9) (x := x) (d := .any) (.any x) t
 exact this
theorem results_pf {S : Nat → Spc} (hS : ∀ f, Tri Tryz.prog f (S f).pt) (E : Env) (ds' : List D) (H0 : HMap) (Q : D → HMap → Prop) (vs : List Value) (w : World) (R : Ending → World → Prop) (hds : E.ds = []) (hN : E.N = 14)
 (hst : St E (initS ds') H0 { tmps := vs.toArray ++ Array.replicate (Tryz.f11.ntmps - vs.toArray.size) undef, defers := [] } w) (hV : VP S Q ds' H0)
 (hfin : ∀ (a' : Act) (w' : World) (σ' : Sg) (H' : HMap) (dl : List Deferred), St { E with ds := dl } σ' H' a' w' → (resL rsP σ' H' fun ds => Q (oneOrTup ds) H') → ∃ v, (results Tryz.f11 a'.tmps).run Tryz.prog w' = .ok v w' ∧ R (.returned v) w') : Calls Tryz.prog 11 vs.toArray w R := by
 have hmf : ∀ (fn : Fn) (first cap : Array Value) (w : World), (Instr.makeFunc fn first cap).run Tryz.prog w = .ok (.func fn first cap) w := fun _ _ _ _ => rfl
 refine calls_of_wp_defers Tryz.func11 rfl ?_
 apply wp_seq
 refine wp_mono (vc_sound (E := E) (im := []) hS mixed ccPA _ (by rw [hN]; exact ok_PA) _ _ _ _ _ hst hV) ?_
 intro e a1 w1 hP
 cases e with
 | normal => ?_
 | ret => obtain ⟨_, _, _, h⟩ := hP; exact h.elim
 | exit i => obtain ⟨_, _, _, h⟩ := hP; exact h.elim
 | _ => exact hP.elim
 obtain ⟨σ1, H1, hst1, hV1⟩ := hP
 apply wp_seq
 refine wp_mono (vc_sound (E := E) (im := []) hS mixed ccPB _ (by rw [hN]; exact ok_PB) _ _ _ _ _ hst1 hV1) ?_
 intro e a2 w2 hP
 cases e with
 | normal => ?_
 | ret => obtain ⟨_, _, _, h⟩ := hP; exact h.elim
 | exit i => obtain ⟨_, _, _, h⟩ := hP; exact h.elim
 | _ => exact hP.elim
 obtain ⟨σ2, H2, hst2, hV2⟩ := hP
 apply wp_seq
 have hsz : a2.tmps.size = 14 := by rw [hst2.2.1, hN]
 have hde : a2.defers = [] := by rw [hst2.1, hds]
 refine wp_region_list ?_
 refine wpList_plain rfl fun K hK => ?_
 simp [go_sem, hmf]
 refine hK _ _ ?_
 refine wpList_plain rfl fun K hK => ?_
 simp [go_sem, hsz]
 refine hK _ _ ?_
 refine wpList_nil ?_
 have hst3 := St.defer hst2 (Value.func (Fn.func 27) #[] #[a2.tmps[2], a2.tmps[3], a2.tmps[4]]) ({ target := Target.fn (Fn.func 27) #[a2.tmps[2], a2.tmps[3], a2.tmps[4]], args := #[] } :: a2.defers) (by rw [hN]; decide)
 refine wp_mono (vc_sound (E := { E with ds := { target := Target.fn (Fn.func 27) #[a2.tmps[2], a2.tmps[3], a2.tmps[4]], args := #[] } :: a2.defers }) (im := []) hS mixed ccPD _ (by show compileC _ _ E.N _ = _; rw [hN]; exact ok_PD) _ _ _ _ _ hst3 hV2) ?_
 intro e a3 w3 hP
 cases e with
 | ret => ?_
 | normal => obtain ⟨_, _, _, h⟩ := hP; exact h.elim
 | exit i => obtain ⟨_, _, _, h⟩ := hP; exact h.elim
 | _ => exact hP.elim
 obtain ⟨σ3, H3, hst4, hres⟩ := hP
 show Leaves Tryz.prog Tryz.f11 a3.tmps R a3.defers .returning w3
 have hd3 : a3.defers = { target := Target.fn (Fn.func 27) #[a2.tmps[2], a2.tmps[3], a2.tmps[4]], args := #[] } :: a2.defers := hst4.1
 rw [hd3, hde]
 refine leaves_cons (f := 27) (args := #[a2.tmps[2], a2.tmps[3], a2.tmps[4]]) (by simp) (by simp [go_sem]) ?_
 refine (idle_Parse _ _ _ w3).mono ?_
 rintro e u' w'' ⟨rfl, rfl, rfl⟩
 obtain ⟨v, h1, h2⟩ := hfin a3 w'' σ3 H3 _ hst4 hres
 exact ⟨v, h1, h2⟩
theorem enter_Parse : CallEnter Tryz.prog f_query_Parse := callEnter Tryz.func11 (by kernel_rfl) rfl
end Go.Gv

namespace Go.Gv
open Cod (enc dec)
variable {S S0 : Nat → Spc}

end Go.Gv

namespace Go.Gv
open Cod (enc dec)
variable {S S0 : Nat → Spc}
end Go.Gv

namespace Go.Gv
open Go.Proofs

end Go.Gv

namespace Go.Gv
open Cod (enc dec)
variable {S S0 : Nat → Spc}
end Go.Gv

namespace Go.Gv
end Go.Gv

namespace Go.Gv
theorem validN_small {s : B} {c d : UInt8} (h : s = ⟨#[c]⟩ ∨ s = ⟨#[c, d]⟩) (hc : begB c.toNat = true) (hd : begB d.toNat = true) : validN s = true := by
 refine (validN_iff s).2 ?_
 have hc' : conB c.toNat = true := by unfold conB; rw [hc]; rfl
 have hd' : conB d.toNat = true := by unfold conB; rw [hd]; rfl
 rcases h with rfl | rfl
 ·refine ⟨by show 1 ≤ 1; decide, by show 1 ≤ 32; decide, fun x hx => ?_, fun k x hx => ?_⟩
  ·cases hx; exact hc
  ·rcases k with _ | k
   ·cases hx; exact hc'
   ·simp at hx
 ·refine ⟨by show 1 ≤ 2; decide, by show 2 ≤ 32; decide, fun x hx => ?_, fun k x hx => ?_⟩
  ·cases hx; exact hc
  ·rcases k with _ | _ | k
   ·cases hx; exact hc'
   ·cases hx; exact hd'
   ·simp at hx
theorem validN_gen : validN b_s = true ∧ validN b_np = true ∧ validN b_t = true ∧ validN b_x = true ∧ validN b_y = true :=
 ⟨validN_small (c := 115) (d := 115) (.inl rfl) (by decide) (by decide), validN_small (c := 110) (d := 112) (.inr rfl) (by decide) (by decide), validN_small (c := 116) (d := 116) (.inl rfl) (by decide) (by decide),
  validN_small (c := 120) (d := 120) (.inl rfl) (by decide) (by decide), validN_small (c := 121) (d := 121) (.inl rfl) (by decide) (by decide)⟩
theorem labOk_nil : LabOk [] := fun l h => by simp at h
end Go.Gv

namespace Go.Gv
end Go.Gv

namespace Go.Gv
open Cod (enc dec)
variable {S S0 : Nat → Spc}
def knownY : Qry := ⟨knownP, GlobE, [], 0⟩
theorem known_wp : WP [] 1 knownP := .inr (.inl ⟨.inl rfl, rfl, rfl, rfl, rfl, rfl, _, _, rfl, wp0 (.inr ⟨.inl rfl, rfl, rfl, by simp [Types, b_s], rfl, rfl, rfl⟩), wp0 (.inl ⟨rfl, .inl rfl, rfl, rfl, rfl, rfl⟩)⟩)
theorem known_pat : patB validN knownP = true := wp_patB labOk_nil validN_gen 1 _ known_wp (by omega)
theorem known_leaves : leavesP knownP = [⟨1, ⟨2, ⟨#[119, 111, 114, 100]⟩, E0, ⟨#[84, 104, 101]⟩, E0, true, []⟩, E0, E0, 0, 0, []⟩] := by
 rw [leavesP_eq, if_neg (by decide)]
 show [_, _].flatMap leavesP = _
 simp only [List.flatMap_cons, List.flatMap_nil, List.append_nil]
 rw [leavesP_eq, if_neg (by decide), leavesP_eq, if_pos rfl]
 rfl
theorem known_text : patT 10 knownP = some knownQ := by kernel_rfl
theorem known_fmt : FmtP 10 knownY := by
 have h := known_pat
 unfold patB at h
 simp only [Bool.and_eq_true] at h
 refine ⟨by rw [Bool.and_eq_true]; exact h.1.1, rfl, rfl, rfl, ⟨?_, ?_⟩, ?_, knownQ, known_text, by unfold LIMW; decide, by decide⟩
 ·show 0 + (leavesP knownP).length ≤ _
  rw [known_leaves]
  decide
 ·intro y hy
  have hy : y ∈ leavesP knownP := hy
  rw [known_leaves] at hy
  simp only [List.mem_singleton] at hy
  subst hy
  exact ⟨1, by show 0 ≤ 1000000; decide, fun k hk => by simp at hk⟩
 ·intro x hx
  have hx : x ∈ (leavesP knownP).map cloneP := hx
  rw [known_leaves] at hx
  simp only [List.map_cons, List.map_nil, List.mem_singleton] at hx
  subst hx
  exact ⟨rfl, rfl, rfl, rfl⟩
theorem known_size : sizeP knownP = 2 := by kernel_rfl
abbrev s_known23 : Spc := spc a0 (fun _ => True) (enc (X := Bool)) fun _ y => y = true
end Go.Gv

namespace Go.Gv
open Cod (enc dec)
variable {S S0 : Nat → Spc}
end Go.Gv
