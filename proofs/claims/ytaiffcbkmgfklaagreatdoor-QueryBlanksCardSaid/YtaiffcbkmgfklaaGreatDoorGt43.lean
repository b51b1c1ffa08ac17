/- A part of the framework and of the walks: Asm7 C14 V26. -/
import Derived.Test.YtaiffcbkmgfklaaGreatDoorGt38
import Derived.Test.YtaiffcbkmgfklaaGreatDoorGt42
import Derived.Test.YtaiffcbkmgfklaaGreatDoorGt17
import Derived.Test.YtaiffcbkmgfklaaGreatDoorGt24
import Derived.Test.YtaiffcbkmgfklaaGreatDoorGt32
set_option maxRecDepth 100000
set_option linter.unusedVariables false
set_option linter.unusedSimpArgs false

namespace Go.Gv
open Go.Proofs Cod
theorem J1:Tri Tryz.prog bf (ci).pt:=
 ap (S:=ct []) (av am) zN (fun _=> Nat.le_of_ble_eq_true rfl) (FG)
theorem OY:Tri Tryz.prog jQ (qv).pt:=
 ap (S:=ct []) (av am) Dz (fun _=> Nat.le_of_ble_eq_true rfl) (Jw)
theorem Ih:Tri Tryz.prog f8 (s_qstrats).pt:=
 ap (S:=ct []) (av am) xZ (fun _=> Nat.le_of_ble_eq_true rfl) (Cp)
theorem Du: ∀n,Tri Tryz.prog dA (HS n).pt
 | 0=> cO fun x h=> by obtain⟨a,b⟩:=x;have h:=h.1;cases a;simp only[ka] at h;omega
 | n+1=> ap (S:=ct [(mF,HO),(dA,HS n)]) (av (ae Jz (ae (Du n) am))) Bn (fun _=> Nat.le_of_ble_eq_true rfl) (Ch n rfl rfl)
theorem J0:Tri Tryz.prog dA s_sameGA.pt:=fS (fun n=> Du n) (gQ (fun x h=> ⟨ka x.1,Nat.le_refl _,h⟩))
theorem WF:Tri Tryz.prog ol (HQ).pt:=
 ap (S:=ct [(cj,CU),(dA,s_sameGA)]) (av (ae xw (ae J0 am))) J4 (fun _=> Nat.le_of_ble_eq_true rfl) (LA rfl rfl)
theorem Cy:Tri Tryz.prog gN (zr).pt:=
 ap (S:=ct [(du,s_eParse),(ll,wB),(iJ,De 10)]) (av (ae tu (ae HH (ae Cw am)))) DS (fun _=> Nat.le_of_ble_eq_true rfl) (Co rfl rfl rfl)
end Go.Gv

namespace Go.Gv
open Go.Proofs
-- r22_count range i=17 n=16 c=18 i2=38 id=0: live [1:deep, 6:n, 7:d, 15:] changed [6, 7] res []
def sa:CC:=oX [oB 2 (.box aN true (oT 0)),oB 4 (.mv (oN 0)),oB 5 (.mv (oN 0))] [1,2] [] (.seq (oX [oA 12 1,oB 13 (.cmp .gtr (oT 12) (oN 60))] [1,2,13] [] (.ite (oT 13) (oX [oB 4 (.mv (oN 61)),oB 5 (.mv (oN 61))] [4,5] [] (.ret)) (.skip))) (.keep [1,2] [] (oX [oB 6 (.mv (oN 1)),oB 7 (.mv (oN 0))] [1,2,6,7] [] (.seq (oX [oE 14 6 2,oC 15 1 14,oB 16 (.len (oT 15)),
 oB 17 (.mv (oN 0))] [1,6,7,15,16,17] [] (bh 0 17 16 18 1 (oX [oB 19 (.iaddr 7 (oT 15) (oT 17)),oD 20 7 19,oB 9 (.alloc aN [oi,oe,oe,oe,oe,ob,on]),oF 7 9 20] [1,6,7,9,15,16,17] [9] (oX [oD 22 7 9,oA 23 1,oB 24 (.arith .add (oT 23) (oN 1)),oZ 25 fK [oT 22,oT 24],oA 21 25,oB 26 (.ext (oT 21) 0),oB 27 (.ext (oT 21) 1),oA 10 26,oA 11 27] [1,6,7,10,11,15,16,17] [] (oX [
 oA 28 6,oA 29 10,oB 30 (.arith .add (oT 28) (oT 29)),oA 31 7,oA 32 11,oB 33 (.mm true [oT 31,oT 32]),oA 6 30,oA 7 33] [1,6,7,15,16,17] [] (oX [oA 34 6,oB 35 (.cmp .gtr (oT 34) (oN 60))] [1,6,7,15,16,17,35] [] (.ite (oT 35) (oX [oA 36 7,oB 37 (.arith .add (oT 36) (oN 1)),oB 4 (.mv (oN 61)),oA 5 37] [4,5] [] (.ret)) (.skip)))))) 38)) (.keep [6,7] [] (oX [oA 39 6,oA 40 7,
 oB 41 (.arith .add (oT 40) (oN 1)),oA 4 39,oA 5 41] [4,5] [] (.ret)))))))
def rr:List aK:= [.tmp 4, .tmp 5]
def Iz:List Nat:= [2]
theorem Ik:aS Tryz.prog fK Iz sa rr 42:=aF ay (by kernel_rfl)
def se:CC:=oX [oB 1 (.box aN true (oT 0)),oB 2 (.mv (oN 0)),oB 3 (.mv (oN 0))] [1] [] (oX [oD 4 7 1,oZ 5 fK [oT 4,oN 0],oB 6 (.ext (oT 5) 0),oB 7 (.ext (oT 5) 1),oA 2 6,oA 3 7] [2,3] [] (.ret))
def rv:List aK:= [.tmp 2, .tmp 3]
def IC:List Nat:= [1]
theorem In:aS Tryz.prog mH IC se rv 8:=aF ay (by kernel_rfl)
def dD:CC:=oX [oB 1 (.box aN true (oT 0)),oB 2 (.mv (.const ob))] [1] [] (oX [oB 3 (.mv (.const ob)),oB 4 (.mv (.const ob)),oB 5 (.mv (.const ob)),oB 6 (.mv (.const ob)),oB 7 (.mv (.const ob)),oB 8 (.mv (oN 0)),oB 9 (.mv (oN 0))] [1,3,4,5,6,7,8,9] [] (.seq (oX [oE 10 0 1,oC 11 1 10] [1,3,4,5,6,7,8,9,11] [] (.block 0 (oX [
 oB 13 (.eql false false [.int] (oT 11) (oN 1)),oA 12 13] [1,3,4,5,6,7,8,9,11,12] [] (.ite (oT 12) (.skip) (oX [oB 15 (.eql false false [.int] (oT 11) (oN 2)),oA 14 15] [1,3,4,5,6,7,8,9,11,14] [] (.ite (oT 14) (.reg [oB 3 (.mv (.const (.bool true))),oB 5 (.mv (.const (.bool true))),oB 7 (.mv (.const (.bool true)))]) (oX [oB 17 (.eql false false [.int] (oT 11) (oN 3)),
 oA 16 17] [1,3,4,5,6,7,8,9,11,16] [] (.ite (oT 16) (.reg [oB 3 (.mv (.const (.bool true))),oB 5 (.mv (.const (.bool true)))]) (oX [oB 19 (.eql false false [.int] (oT 11) (oN 4)),oA 18 19] [1,3,4,5,6,7,8,9,11,18] [] (.ite (oT 18) (.reg [oB 3 (.mv (.const (.bool true))),oB 4 (.mv (.const (.bool true))),oB 6 (.mv (.const (.bool true)))]) (oX [oB 21 (.eql false false [.int] (oT 11) (oN 5)),
 oA 20 21] [1,3,4,5,6,7,8,9,11,20] [] (.ite (oT 20) (.regd [oE 22 2 1,oC 23 1 22,oB 24 (.eql true false [.str] (oT 23) (oS ⟨#[]⟩)),oB 3 (.mv (.const (.bool true))),oB 4 (.mv (.const (.bool true)))] [oA 5 24]) (oX [oB 26 (.eql false false [.int] (oT 11) (oN 6)),oA 25 26] [1,3,4,5,6,7,11,25] [] (.ite (oT 25) (.reg [oB 8 (.mv (oN 1)),oB 9 (.mv (oN 1))]) (.seq (oX [
 oB 28 (.eql false false [.int] (oT 11) (oN 7)),oA 27 28] [1,3,4,5,6,7,11,27] [] (.ite (oT 27) (.skip) (.reg [oB 29 (.eql false false [.int] (oT 11) (oN 8)),oA 27 29]))) (.keep [1,3,4,5,6,7,27] [] (.ite (oT 27) (.reg [oB 8 (.mv (oN 2)),oB 9 (.mv (oN 1000))]) (oX [oB 2 (.mv (.const ob))] [2] [] (.ret))))))))))))))))))) (.keep [1,3,4,5,6,7,8,9] [] (oX [oA 30 3,oA 31 30,
 oI 32 31 (.faddr 1 (oT 1)),oI 33 31 (.load false 1 (oT 32)),oI 34 31 (.eql false false [.str] (oT 33) (oS ⟨#[]⟩)),oB 35 (.pick (oT 31) (.const (.bool true)) (oT 34)),oA 36 35,oH 37 36 (.mv (oT 4)),oH 38 36 (.mv (oT 37)),oI 39 38 (.faddr 2 (oT 1)),oI 40 38 (.load false 1 (oT 39)),oI 41 38 (.eql false false [.str] (oT 40) (oS ⟨#[]⟩)),oH 42 36 (.pick (oT 38) (.const (.bool true)) (oT 41)),
 oB 43 (.pick (oT 36) (oT 42) (.const ob)),oA 44 43,oH 45 44 (.mv (oT 5)),oH 46 44 (.mv (oT 45)),oI 47 46 (.faddr 3 (oT 1)),oI 48 46 (.load false 1 (oT 47)),oI 49 46 (.eql false false [.str] (oT 48) (oS ⟨#[]⟩)),oH 50 44 (.pick (oT 46) (.const (.bool true)) (oT 49)),oB 51 (.pick (oT 44) (oT 50) (.const ob)),oA 52 51,oH 53 52 (.mv (oT 6)),oH 54 52 (.mv (oT 53)),
 oI 55 54 (.faddr 4 (oT 1)),oI 56 54 (.load false 1 (oT 55)),oI 57 54 (.eql false false [.str] (oT 56) (oS ⟨#[]⟩)),oH 58 52 (.pick (oT 54) (.const (.bool true)) (oT 57)),oB 59 (.pick (oT 52) (oT 58) (.const ob)),oA 60 59,oH 61 60 (.mv (oT 7)),oH 62 60 (.mv (oT 61)),oI 63 62 (.faddr 5 (oT 1)),oI 64 62 (.load false 1 (oT 63)),oI 65 62 (.not (oT 64)),
 oH 66 60 (.pick (oT 62) (.const (.bool true)) (oT 65)),oB 67 (.pick (oT 60) (oT 66) (.const ob)),oA 68 67,oH 69 68 (.faddr 6 (oT 1)),oH 70 68 (.load false 1 (oT 69)),oH 71 68 (.len (oT 70)),oH 72 68 (.mv (oT 8)),oH 73 68 (.cmp .geq (oT 71) (oT 72)),oB 74 (.pick (oT 68) (oT 73) (.const ob)),oA 75 74,oH 76 75 (.faddr 6 (oT 1)),oH 77 75 (.load false 1 (oT 76)),oH 78 75 (.len (oT 77)),
 oH 79 75 (.mv (oT 9)),oH 80 75 (.cmp .leq (oT 78) (oT 79)),oB 81 (.pick (oT 75) (oT 80) (.const ob)),oA 2 81] [2] [] (.ret)))))
def dw:List aK:= [.tmp 2]
def IB:List Nat:= [1]
theorem Im:aS Tryz.prog mG IB dD dw 82:=aF ay (by kernel_rfl)
def m0:CC:=oX [oB 2 (.mv (oS ⟨#[]⟩))] [0] [] (.seq (oX [oA 3 0,oB 4 (.cmp .lss (oT 3) (oN 0))] [0,4] [] (.ite (oT 4) (.seq (oX [oA 5 0,oB 6 (.cmp .gtr (oT 5) (oN (-10)))] [0,6] [] (.ite (oT 6) (oX [oA 7 0,oB 8 (.neg (oT 7)),oZ 9 aH [oT 8],oB 10 (.scat (oS ⟨#[45]⟩) (oT 9)),oA 2 10] [2] [24] (.ret)) (.skip))) (.keep [0] [] (oX [oA 11 0,
 oB 12 (.arith .quo (oT 11) (oN 10)),oZ 13 aH [oT 12],oA 14 0,oB 15 (.arith .rem (oT 14) (oN 10)),oB 16 (.neg (oT 15)),oZ 17 aH [oT 16],oB 18 (.scat (oT 13) (oT 17)),oA 2 18] [2] [24] (.ret)))) (.skip))) (.keep [0] [] (.seq (oX [oA 19 0,oB 20 (.cmp .lss (oT 19) (oN 10))] [0,20] [] (.ite (oT 20) (oX [oA 21 0,oB 22 (.arith .add (oN 48) (oT 21)),
 oB 23 (.conv .u8 (oT 22)),oB 24 (.mslice tv 1 [oT 23]),oB 25 (.bstr (oT 24)),oA 2 25] [2] [24] (.ret)) (.skip))) (.keep [0] [] (oX [oA 26 0,oB 27 (.arith .quo (oT 26) (oN 10)),oZ 28 aH [oT 27],oA 29 0,oB 30 (.arith .rem (oT 29) (oN 10)),oZ 31 aH [oT 30],oB 32 (.scat (oT 28) (oT 31)),oA 2 32] [2] [24] (.ret))))))
def mP:List aK:= [.tmp 2]
def Bx:List Nat:= [100024]
theorem Bo:aS Tryz.prog aH Bx m0 mP 33:=aF ay (by kernel_rfl)
-- r23_Format range i=32 n=31 c=33 i2=39 id=0: live [1:q, 30:] changed [] res [30]
-- r23_Format range i=56 n=55 c=57 i2=85 id=2: live [1:q, 5:out, 54:] changed [5] res []
def ox:CC:=oX [oB 1 (.box gD true (oT 0)),oB 2 (.mv (oS ⟨#[]⟩))] [1] [] (.seq (oX [oE 8 0 1,oD 9 13 8,oZ 10 eL [oT 9,oN 1],oB 11 (.not (oT 10)),oA 12 11,oI 13 12 (.faddr 25 (oT 1)),oI 14 12 (.load false 1 (oT 13)),oI 15 12 (.cmp .lss (oT 14) (oN 0)),oB 16 (.pick (oT 12) (.const (.bool true)) (oT 15)),oA 17 16,oI 18 17 (.faddr 25 (oT 1)),
 oI 19 17 (.load false 1 (oT 18)),oI 20 17 (.cmp .gtr (oT 19) (oN 3)),oB 21 (.pick (oT 17) (.const (.bool true)) (oT 20)),oA 22 21,oI 23 22 (.faddr 13 (oT 1)),oI 24 22 (.load true 11 (oT 23)),oI 25 22 (.call jR [oT 24]),oI 26 22 (.not (oT 25)),oB 27 (.pick (oT 22) (.const (.bool true)) (oT 26))] [1,27] [] (.ite (oT 27) (oX [oB 2 (.mv (oS ⟨#[]⟩))] [2] [] (.ret)) (.skip)))
 (.keep [1] [] (.seq (oX [oE 28 0 1,oD 29 13 28,oZ 30 cX [oT 29,.const on],.frz 30 13,oB 31 (.len (oT 30)),oB 32 (.mv (oN 0))] [1,30,31,32] [30] (bh 0 32 31 33 1 (oX [oB 34 (.iaddr 13 (oT 30) (oT 32)),oD 35 13 34,oB 4 (.alloc ah [oi,oi,oe,oe,oe,oe,ob,on,oe,oe,oi,oi,on]),oF 13 4 35] [1,4,30,31,32] [4,30] (oX [oE 36 1 4,oD 37 7 36,
 oZ 38 cW [oT 37]] [1,30,31,32,38] [30] (.ite (oT 38) (oX [oB 2 (.mv (oS ⟨#[]⟩))] [2] [] (.ret)) (.skip)))) 39)) (.keep [1] [] (oX [oE 40 0 1,oD 41 13 40,oZ 42 cB [oT 41],oA 5 42] [1,5] [] (.seq (oX [oE 43 13 1,oE 44 0 43,oC 45 1 44,oB 46 (.eql true false [.int] (oT 45) (oN 0))] [1,5,46] [] (.ite (oT 46) (.reg [oA 47 5,oE 48 13 1,oD 49 11 48,
 oZ 50 aR [oT 49],oB 51 (.scat (oS ⟨#[32,58,58,32]⟩) (oT 50)),oB 52 (.scat (oT 47) (oT 51)),oA 5 52]) (.skip))) (.keep [1,5] [] (.seq (oX [oE 53 24 1,oC 54 1 53,oB 55 (.len (oT 54)),oB 56 (.mv (oN 0))] [1,5,54,55,56] [] (bh 2 56 55 57 3 (oX [oB 58 (.iaddr 3 (oT 54) (oT 56)),oD 59 3 58,oB 7 (.alloc fy [oi,ob,oe]),oF 3 7 59] [1,5,7,54,55,56] [7] (.seq (oX [
 oE 60 0 7,oC 61 1 60,oB 62 (.cmp .lss (oT 61) (oN 1)),oA 63 62,oI 64 63 (.faddr 0 (oT 7)),oI 65 63 (.load false 1 (oT 64)),oI 66 63 (.cmp .gtr (oT 65) (oN 3)),oB 67 (.pick (oT 63) (.const (.bool true)) (oT 66))] [1,5,7,54,55,56,67] [7] (.ite (oT 67) (oX [oB 2 (.mv (oS ⟨#[]⟩))] [2] [] (.ret)) (.skip))) (.keep [1,5,7,54,55,56] [7] (oX [oA 68 5,oB 69 (.scat (oT 68) (oS ⟨#[32]⟩)),
 oA 5 69] [1,5,7,54,55,56] [7] (.seq (oX [oE 70 1 7,oC 71 1 70] [1,5,7,54,55,56,71] [7] (.ite (oT 71) (.reg [oA 72 5,oB 73 (.scat (oT 72) (oS ⟨#[33]⟩)),oA 5 73]) (.skip))) (.keep [1,5,7,54,55,56] [7] (.regd [oA 74 5,oZ 75 jQ [],oE 76 0 7,oC 77 1 76,oB 78 (.iaddr 1 (oT 75) (oT 77)),oC 79 1 78,oB 80 (.scat (oT 79) (oS ⟨#[32]⟩)),oE 81 2 7,oC 82 1 81,
 oB 83 (.scat (oT 80) (oT 82))] [oB 84 (.scat (oT 74) (oT 83)),oA 5 84]))))))) 85)) (.keep [1,5] [] (.seq (oX [oE 86 25 1,oC 87 1 86,oB 88 (.eql true false [.int] (oT 87) (oN 0))] [1,5,88] [] (.ite (oT 88) (.regd [oA 89 5,oZ 90 f8 [],oE 91 25 1,oC 92 1 91,oB 93 (.iaddr 1 (oT 90) (oT 92)),oC 94 1 93,oB 95 (.scat (oS ⟨#[32,115,116,114,97,116,101,103,121,32]⟩) (oT 94))] [
 oB 96 (.scat (oT 89) (oT 95)),oA 5 96]) (.skip))) (.keep [5] [] (oX [oA 97 5,oA 2 97] [2] [] (.ret)))))))))))))
def nO:List aK:= [.tmp 2]
def Eb:List Nat:= [1]
theorem DB:aS Tryz.prog li Eb ox nO 98:=aF ay (by kernel_rfl)
end Go.Gv

namespace Go.Gv
def gG {α:Type} (sep:B) (par:α→Bool) (f:α→Option B):Nat→List α→Option B
 | _, []=> some E0
 | i,k::ks=> (f k).bind fun t=> (gG sep par f (i+1) ks).map fun r=> ((if i=0 then E0 else sep) ++sR (par k) t) ++r
def o6 (c:Prop) [Decidable c]:B:=if c then⟨#[32,38,32]⟩ else⟨#[32,124,32]⟩
def xa (n:Int):Option B:=if 0≤n∧n < 10 then some ⟨#[(48+n).toNat.toUInt8]⟩ else if -10 < n∧n < 0 then some (⟨#[45]⟩ ++ ⟨#[(48+ -n).toNat.toUInt8]⟩) else none
def Ur (x:Cond):Option B:=if x.arg=E0 then some ((⟨#[105,110,40]⟩ ++x.name) ++ ⟨#[41]⟩) else
 (lE x.val).map fun t=> (((((⟨#[105,110,40]⟩ ++x.name) ++ ⟨#[44]⟩) ++x.arg) ++ ⟨#[61]⟩) ++t) ++ ⟨#[41]⟩
def Bm (op:Int) (k:Cond):Bool:=decide (k.op=8) || (decide (op=7) && decide (k.op=7))
def WK (f:Cond→Option B):List Cond→Option B
 | [k]=> (f k).map fun t=> ⟨#[33]⟩ ++sR (decide (k.op=7) || decide (k.op=8)) t
 | _=> none
def l5 (f:Cond→Option B) (x:Cond):Option B:=
 if x.op=1 then some ⟨#[91,93]⟩ else
 if x.op=2 then(gP (x.val,x.fold)).map fun t=> if x.name=E0 then t else(x.name++ ⟨#[61]⟩) ++t else
 if x.op=3 then(lE x.val).map fun t=> (x.name++ ⟨#[32,99,111,110,116,97,105,110,115,32]⟩) ++t else
 if x.op=4 then some ((((x.name++ ⟨#[61]⟩) ++x.lab) ++ ⟨#[46]⟩) ++x.arg) else
 if x.op=5 then Ur x else
 if x.op=6 then WK f x.kids else
 if x.op=7∨x.op=8 then gG (o6 (x.op=7)) (Bm x.op) f 0 x.kids else none
def cU:Nat→Cond→Option B
 | 0=> fun _=> none
 | n+1=> l5 (cU n)
def QH (f:Cond→Option B) (p:Pat):Option B:=(f p.cond).map fun t=> if p.lab=E0 then ez p.cond t else(p.lab++ ⟨#[58]⟩) ++ez p.cond t
def QQ (lo hi:Int):Option B:=
 if lo=0∧hi=1 then some ⟨#[63]⟩ else if lo=0∧hi= -1 then some ⟨#[42]⟩ else if lo=1∧hi= -1 then some ⟨#[43]⟩ else
 if lo=2∧hi=2 then some ⟨#[123,50,125]⟩ else if lo=0∧hi=2 then some ⟨#[123,48,44,50,125]⟩ else if lo=1∧hi=3 then some ⟨#[123,49,44,51,125]⟩ else
 if lo=0∧hi=0 then some ⟨#[123,48,125]⟩ else none
def WI (f:Pat→Option B) (lo hi:Int):List Pat→Option B
 | [k]=> (f k).bind fun t=> (QQ lo hi).map fun u=> sR (decide (k.op=5) || decide (k.op=4)) t++u
 | _=> none
def zE (op:Int) (k:Pat):Bool:=decide (k.op=5) || (decide (op=4) && decide (k.op=4))
def HL (op:Int):B:=if op=5 then⟨#[32,124]⟩ ++ ⟨#[32]⟩ else⟨#[32]⟩
def wh (c:Cond→Option B) (f:Pat→Option B) (p:Pat):Option B:=
 if p.op=1 then QH c p else if p.op=2 then some ((⟨#[60]⟩ ++p.reg) ++ ⟨#[62]⟩) else if p.op=3 then some ((⟨#[60,47]⟩ ++p.reg) ++ ⟨#[62]⟩) else
 if p.op=6 then WI f p.mn p.mx p.kids else
 if p.op=4∨p.op=5 then gG (HL p.op) (zE p.op) f 0 p.kids else none
def j8 (c:Cond→Option B):Nat→Pat→Option B
 | 0=> fun _=> none
 | n+1=> wh c (j8 c n)
def Qa (op:Int):Option B:=
 if op=1 then some ⟨#[98,111,117,110,100]⟩ else if op=4 then some ⟨#[100,105,115,116,97,110,99,101]⟩ else if op=5 then some ⟨#[115,97,109,101]⟩ else
 if op=6 then some ⟨#[104,101,97,100]⟩ else if op=7 then some ⟨#[97,110,99,101,115,116,111,114]⟩ else if op=8 then some ⟨#[112,97,116,104]⟩ else
 if op=9 then some ⟨#[110,111,100,101]⟩ else if op=10 then some ⟨#[100,101,112,116,104]⟩ else none
def ja:List B→Option B
 | []=> some E0
 | a::l=> (lE a).bind fun t=> (ja l).map fun r=> (⟨#[44]⟩ ++t) ++r
def uj (g:Glob):Option B:=if g.op=4∨g.op=10 then(xa g.mn).bind fun t=> (xa g.mx).map fun u=> ((⟨#[44]⟩ ++t) ++ ⟨#[44]⟩) ++u else some E0
def qR (g:Glob):Option B:=(Qa g.op).bind fun w=> (uj g).bind fun n=> if g.op≠8∧g.args≠ [] then none else(ja g.args).map fun r=>
 (((((w++ ⟨#[40]⟩) ++g.a) ++ (if g.op≠1∧g.op≠10 then⟨#[44]⟩ ++g.b else E0)) ++n) ++ (if g.op=5∨g.op=9 then⟨#[44]⟩ ++g.name else E0) ++r) ++ ⟨#[41]⟩
def WJ (f:Glob→Option B):List Glob→Option B
 | [k]=> (f k).map fun t=> ⟨#[33]⟩ ++sR (decide (k.op=12) || decide (k.op=13)) t
 | _=> none
def qF (op:Int) (k:Glob):Bool:=decide (k.op=13) || (decide (op=12) && decide (k.op=12))
def oj (f:Glob→Option B) (g:Glob):Option B:=
 if g.op=2 then(gP (g.val,g.fold)).map fun t=> (((g.a++ ⟨#[46]⟩) ++g.name) ++ ⟨#[61]⟩) ++t else
 if g.op=3 then some ((((((g.a++ ⟨#[46]⟩) ++g.name) ++ ⟨#[61]⟩) ++g.b) ++ ⟨#[46]⟩) ++g.arg) else
 if g.op=11 then WJ f g.kids else
 if g.op=12∨g.op=13 then gG (o6 (g.op=12)) (qF g.op) f 0 g.kids else qR g
def bc:Nat→Glob→Option B
 | 0=> fun _=> none
 | n+1=> oj (bc n)
def PB (f:jK):Option B:=(if 0 < f.op then filterL[f.op.toNat]? else none).map fun w=> (((if f.neg then⟨#[32]⟩ ++ ⟨#[33]⟩ else⟨#[32]⟩) ++w) ++ ⟨#[32]⟩) ++f.reg
def qO:List jK→Option B
 | []=> some E0
 | f::l=> (PB f).bind fun t=> (qO l).map fun r=> t++r
def Gq (s:Int):Option B:=if s=0 then some E0 else(if 0 < s then cM[s.toNat]? else none).map fun w=> ⟨#[32,115,116,114,97,116,101,103,121,32]⟩ ++w
def Ji (g:Glob):Option B:=if g.op=0 then some E0 else(bc 10 g).map fun t=> ⟨#[32,58,58,32]⟩ ++t
def OT (q:Qry):Option B:=(j8 (cU 10) 10 q.pat).bind fun t=> (Ji q.glob).bind fun g=> (qO q.filts).bind fun f=> (Gq q.strat).map fun s=> ((t++g) ++f) ++s
end Go.Gv
