/- A part of the framework and of the walks: Asm7 C14 V26 V27 V31 W102 W103. -/
import Derived.Test.YtaiffcbkmgfklaaGreatDoorGu21
import Derived.Test.YtaiffcbkmgfklaaGreatDoorGu26
import Derived.Test.YtaiffcbkmgfklaaGreatDoorGu10
import Derived.Test.YtaiffcbkmgfklaaGreatDoorGu14
import Derived.Test.YtaiffcbkmgfklaaGreatDoorGu18
import Derived.Test.YtaiffcbkmgfklaaGreatDoorGu23
set_option maxRecDepth 100000
set_option linter.unusedVariables false
set_option linter.unusedSimpArgs false

namespace Go.Gv
open Go.Proofs Cod
theorem K8 {P:Program} {f:Nat} {Y Z:Type} {A:ix Z} {er:Y→D} {F:Pst→Z→Option (Pst×Y)} (hx: ∀s z,F s z=none):Tri P f (z3 A er F).pt:=sI fun d ds H K ⟨id,b,x,z,ds',h1,h2,h3,h4,h5,hp,h7⟩=> by
 obtain⟨r,hr⟩:=hp
 rw[hx] at hr
 cases hr
theorem uN:Tri Tryz.prog am (ik).pt:=
 bj (S:=bU []) (aw aj) AP (fun _=> Nat.le_of_ble_eq_true rfl) (qcd)
theorem qal:Tri Tryz.prog gk (O9).pt:=
 bj (S:=bU []) (aw aj) zl (fun _=> Nat.le_of_ble_eq_true rfl) (TM)
theorem Lb:Tri Tryz.prog bJ (tM).pt:=
 bj (S:=bU []) (aw aj) xP (fun _=> Nat.le_of_ble_eq_true rfl) (RK)
theorem QK:Tri Tryz.prog bR (sO).pt:=
 bj (S:=bU [(am,ik),(bJ,tM)]) (aw (aa uN (aa Lb aj))) xO (fun _=> Nat.le_of_ble_eq_true rfl) (RJ rfl rfl)
theorem Yp:Tri Tryz.prog bF (KR).pt:=
 bj (S:=bU [(am,ik)]) (aw (aa uN aj)) Cw (fun _=> Nat.le_of_ble_eq_true rfl) (qf5 rfl)
theorem sW:Tri Tryz.prog ah (gK).pt:=
 bj (S:=bU [(bF,KR)]) (aw (aa Yp aj)) AS (fun _=> Nat.le_of_ble_eq_true rfl) (qce rfl)
theorem zg:Tri Tryz.prog af (gW).pt:=
 bj (S:=bU [(am,ik),(bR,sO)]) (aw (aa uN (aa QK aj))) zj (fun _=> Nat.le_of_ble_eq_true rfl) (TJ rfl rfl)
theorem Gq:Tri Tryz.prog bb (nk).pt:=
 bj (S:=bU [(af,gW),(bJ,tM)]) (aw (aa zg (aa Lb aj))) v7 (fun _=> Nat.le_of_ble_eq_true rfl) (OL rfl rfl)
theorem Pv:Tri Tryz.prog bG (yZ).pt:=
 bj (S:=bU [(ah,gK)]) (aw (aa sW aj)) zp (fun _=> Nat.le_of_ble_eq_true rfl) (ZS rfl)
theorem qaj:Tri Tryz.prog gj (O6).pt:=
 bj (S:=bU [(am,ik)]) (aw (aa uN aj)) zk (fun _=> Nat.le_of_ble_eq_true rfl) (TK rfl)
theorem U3:Tri Tryz.prog eU (Cf).pt:=
 bj (S:=bU [(am,ik),(gk,O9),(gj,O6)]) (aw (aa uN (aa qal (aa qaj aj)))) v8 (fun _=> Nat.le_of_ble_eq_true rfl) (OM rfl rfl rfl)
theorem qcD {N:Pst→Option (Pst×Cond)} (h:Tri Tryz.prog cf (yY N).pt):Tri Tryz.prog fC (Pe N).pt:=
 bj (S:=bU [(ah,gK),(cf,yY N)]) (aw (aa sW (aa h aj))) AT (fun _=> Nat.le_of_ble_eq_true rfl) (XR N rfl rfl)
theorem qcC {N:Pst→Option (Pst×Cond)} (h:Tri Tryz.prog cf (yY N).pt):Tri Tryz.prog d5 (UH N).pt:=
 bj (S:=bU [(ah,gK),(fC,Pe N)]) (aw (aa sW (aa (qcD h) aj))) Cv (fun _=> Nat.le_of_ble_eq_true rfl) (ZR N rfl rfl)
theorem U2: ∀n,Tri Tryz.prog cf (yY (rv n)).pt
 | 0=> K8 fun _ _=> rfl
 | n+1=> bj (S:=bU [(ah,gK),(cf,yY (rv n)),(d5,UH (rv n)),(af,gW),(bG,yZ),(bF,KR),(am,ik)]) (aw (aa sW (aa (U2 n) (aa (qcC (U2 n)) (aa zg (aa Pv (aa Yp (aa uN aj)))))))) AQ (fun _=> Nat.le_of_ble_eq_true rfl) (XP (rv n) rfl rfl rfl rfl rfl rfl rfl)
theorem Zs: ∀n,Tri Tryz.prog dA (F2 (BD n)).pt
 | 0=> K8 fun _ _=> rfl
 | n+1=>
   have h1:Tri Tryz.prog gl (KU (BD n) (orG (rv (n+1)))).pt:=bj (S:=bU [(ah,gK),(dA,F2 (BD n)),(af,gW),(am,ik),(bG,yZ),(d5,QF (orG (rv (n+1))))]) (aw (aa sW (aa (Zs n) (aa zg (aa uN (aa Pv (aa (qcC (U2 (n+1))) aj))))))) zm (fun _=> Nat.le_of_ble_eq_true rfl) (TN _ _ rfl rfl rfl rfl rfl rfl)
   have h2:Tri Tryz.prog fB (Pd (BD n) (orG (rv (n+1)))).pt:=bj (S:=bU [(am,ik),(ah,gK),(af,gW),(bb,nk),(gl,KU (BD n) (orG (rv (n+1)))),(bJ,tM)]) (aw (aa uN (aa sW (aa zg (aa Gq (aa h1 (aa Lb aj))))))) AO (fun _=> Nat.le_of_ble_eq_true rfl) (XO _ _ rfl rfl rfl rfl rfl rfl)
   have h3:Tri Tryz.prog fA (Pc (BD n) (orG (rv (n+1)))).pt:=bj (S:=bU [(eU,Cf),(fB,Pd (BD n) (orG (rv (n+1))))]) (aw (aa U3 (aa h2 aj))) AN (fun _=> Nat.le_of_ble_eq_true rfl) (XN _ _ rfl rfl)
   bj (S:=bU [(ah,gK),(fA,Pc (BD n) (orG (rv (n+1))))]) (aw (aa sW (aa h3 aj))) AU (fun _=> Nat.le_of_ble_eq_true rfl) (XS _ _ rfl rfl)
theorem DQ:Tri Tryz.prog ba (bY).pt:=
 ax (S:=bU []) (aw aj) CB (fun _=> Nat.le_of_ble_eq_true rfl) (IC)
theorem U1:Tri Tryz.prog dT (Cb).pt:=
 bj (S:=bU [(ah,gK),(am,ik),(bb,nk)]) (aw (aa sW (aa uN (aa Gq aj)))) v6 (fun _=> Nat.le_of_ble_eq_true rfl) (OK rfl rfl rfl)
theorem qan:Tri Tryz.prog gm (KV).pt:=
 bj (S:=bU [(ah,gK),(af,gW),(am,ik),(bb,nk),(dT,Cb)]) (aw (aa sW (aa zg (aa uN (aa Gq (aa U1 aj)))))) zq (fun _=> Nat.le_of_ble_eq_true rfl) (TQ rfl rfl rfl rfl rfl)
theorem qam {N:Pst→Option (Pst×Glob)} (h:Tri Tryz.prog bO (yX N).pt):Tri Tryz.prog eI (Pb N).pt:=
 bj (S:=bU [(ah,gK),(bO,yX N)]) (aw (aa sW (aa h aj))) zo (fun _=> Nat.le_of_ble_eq_true rfl) (TP N rfl rfl)
theorem Zr {N:Pst→Option (Pst×Glob)} (h:Tri Tryz.prog bO (yX N).pt):Tri Tryz.prog dz (MT N).pt:=
 bj (S:=bU [(ah,gK),(eI,Pb N)]) (aw (aa sW (aa (qam h) aj))) AR (fun _=> Nat.le_of_ble_eq_true rfl) (XQ N rfl rfl)
theorem Pu: ∀n,Tri Tryz.prog bO (yX (td n)).pt
 | 0=> K8 fun _ _=> rfl
 | n+1=> bj (S:=bU [(ah,gK),(bO,yX (td n)),(dz,MT (td n)),(af,gW),(ba,bY),(gm,KV),(am,ik),(bG,yZ)]) (aw (aa sW (aa (Pu n) (aa (Zr (Pu n)) (aa zg (aa DQ (aa qan (aa uN (aa Pv aj))))))))) zn (fun _=> Nat.le_of_ble_eq_true rfl) (TO (td n) rfl rfl rfl rfl rfl rfl rfl rfl)
theorem Pt:Tri Tryz.prog gO (oh).pt:=
 ax (S:=bU []) (aw aj) Eq (fun _=> Nat.le_of_ble_eq_true rfl) (OI)
theorem Sf:Tri Tryz.prog gA (Ca).pt:=
 ax (S:=bU []) (aw aj) Gw (fun _=> Nat.le_of_ble_eq_true rfl) (RI)
theorem Yo:Tri Tryz.prog oJ (KI).pt:=
 ax (S:=bU []) (aw aj) Le (fun _=> Nat.le_of_ble_eq_true rfl) (XJ)
theorem qak:Tri Tryz.prog qD (KT).pt:=
 ax (S:=bU [(gO,oh),(gA,Ca),(oJ,KI)]) (aw (aa Pt (aa Sf (aa Yo aj)))) M7 (fun _=> Nat.le_of_ble_eq_true rfl) (TL rfl rfl rfl)
theorem qai:Tri Tryz.prog eH (KS).pt:=
 bj (S:=bU [(bF,KR)]) (aw (aa Yp aj)) zi (fun _=> Nat.le_of_ble_eq_true rfl) (TI rfl)
theorem Jz:Tri Tryz.prog fl (od).pt:=
 ax (S:=bU []) (aw aj) Gx (fun _=> Nat.le_of_ble_eq_true rfl) (Mz)
theorem AK:Tri Tryz.prog dy (s_qstrats).pt:=
 ax (S:=bU []) (aw aj) AM (fun _=> Nat.le_of_ble_eq_true rfl) (Fu)
theorem Yq:Tri Tryz.prog oM (F3).pt:=
 ax (S:=bU [(qD,KT),(dA,F2 (BD 500)),(ah,gK),(dz,MT (td 500)),(fl,od),(eH,KS),(bF,KR),(am,ik),(af,gW),(bR,sO),(dy,s_qstrats)]) (aw (aa qak (aa (Zs 500) (aa sW (aa (Zr (Pu 500)) (aa Jz (aa qai (aa Yp (aa uN (aa zg (aa QK (aa AK aj)))))))))))) IN (fun _=> Nat.le_of_ble_eq_true rfl) (RL rfl rfl rfl rfl rfl rfl rfl rfl rfl rfl rfl)
theorem Gp: ∀n,Tri Tryz.prog dO (KL n).pt
 | 0=> df fun x h=> by obtain⟨a,b⟩:=x;have h:=h.1;cases a;simp only[lr] at h;omega
 | n+1=> ax (S:=bU [(oO,KG),(dO,KL n)]) (aw (aa MC (aa (Gp n) aj))) Ep (fun _=> Nat.le_of_ble_eq_true rfl) (Fk n rfl rfl)
theorem M5:Tri Tryz.prog dO s_sameGA.pt:=gz (fun n=> Gp n) (iz (fun x h=> ⟨lr x.1,Nat.le_refl _,h⟩))
theorem qao:Tri Tryz.prog qE (KJ).pt:=
 ax (S:=bU [(cz,FY),(dO,s_sameGA)]) (aw (aa Ai (aa M5 aj))) M8 (fun _=> Nat.le_of_ble_eq_true rfl) (OC rfl rfl)
theorem FD:Tri Tryz.prog kQ (B9).pt:=
 ax (S:=bU [(ep,s_eParse),(mL,yS),(jk,Gd 10)]) (aw (aa vC (aa Kz (aa FB aj)))) GU (fun _=> Nat.le_of_ble_eq_true rfl) (Ft rfl rfl rfl)
end Go.Gv

namespace Go.Gv
open Go.Proofs
-- r22_count range i=17 n=16 c=18 i2=38 id=0: live [1:deep, 6:n, 7:d, 15:] changed [6, 7] res []
def ux:CC:=oX [oB 2 (.box aH true (oT 0)),oB 4 (.mv (oN 0)),oB 5 (.mv (oN 0))] [1,2] [] (.seq (oX [oA 12 1,oB 13 (.cmp .gtr (oT 12) (oN 60))] [1,2,13] [] (.ite (oT 13) (oX [oB 4 (.mv (oN 61)),oB 5 (.mv (oN 61))] [4,5] [] (.ret)) (.skip))) (.keep [1,2] [] (oX [oB 6 (.mv (oN 1)),oB 7 (.mv (oN 0))] [1,2,6,7] [] (.seq (oX [oE 14 6 2,oC 15 1 14,oB 16 (.len (oT 15)),
 oB 17 (.mv (oN 0))] [1,6,7,15,16,17] [] (bi 0 17 16 18 1 (oX [oB 19 (.iaddr 7 (oT 15) (oT 17)),oD 20 7 19,oB 9 (.alloc aH [oi,oe,oe,oe,oe,ob,on]),oF 7 9 20] [1,6,7,9,15,16,17] [9] (oX [oD 22 7 9,oA 23 1,oB 24 (.arith .add (oT 23) (oN 1)),oZ 25 gn [oT 22,oT 24],oA 21 25,oB 26 (.ext (oT 21) 0),oB 27 (.ext (oT 21) 1),oA 10 26,oA 11 27] [1,6,7,10,11,15,16,17] [] (oX [
 oA 28 6,oA 29 10,oB 30 (.arith .add (oT 28) (oT 29)),oA 31 7,oA 32 11,oB 33 (.mm true [oT 31,oT 32]),oA 6 30,oA 7 33] [1,6,7,15,16,17] [] (oX [oA 34 6,oB 35 (.cmp .gtr (oT 34) (oN 60))] [1,6,7,15,16,17,35] [] (.ite (oT 35) (oX [oA 36 7,oB 37 (.arith .add (oT 36) (oN 1)),oB 4 (.mv (oN 61)),oA 5 37] [4,5] [] (.ret)) (.skip)))))) 38)) (.keep [6,7] [] (oX [oA 39 6,oA 40 7,
 oB 41 (.arith .add (oT 40) (oN 1)),oA 4 39,oA 5 41] [4,5] [] (.ret)))))))
def tR:List aI:= [.tmp 4, .tmp 5]
def Ly:List Nat:= [2]
theorem Lh:aR Tryz.prog gn Ly ux tR 42:=aA ay (by kernel_rfl)
def uz:CC:=oX [oB 1 (.box aH true (oT 0)),oB 2 (.mv (oN 0)),oB 3 (.mv (oN 0))] [1] [] (oX [oD 4 7 1,oZ 5 gn [oT 4,oN 0],oB 6 (.ext (oT 5) 0),oB 7 (.ext (oT 5) 1),oA 2 6,oA 3 7] [2,3] [] (.ret))
def tT:List aI:= [.tmp 2, .tmp 3]
def LB:List Nat:= [1]
theorem Lk:aR Tryz.prog oQ LB uz tT 8:=aA ay (by kernel_rfl)
def dQ:CC:=oX [oB 1 (.box aH true (oT 0)),oB 2 (.mv (.const ob))] [1] [] (oX [oB 3 (.mv (.const ob)),oB 4 (.mv (.const ob)),oB 5 (.mv (.const ob)),oB 6 (.mv (.const ob)),oB 7 (.mv (.const ob)),oB 8 (.mv (oN 0)),oB 9 (.mv (oN 0))] [1,3,4,5,6,7,8,9] [] (.seq (oX [oE 10 0 1,oC 11 1 10] [1,3,4,5,6,7,8,9,11] [] (.block 0 (oX [
 oB 13 (.eql false false [.int] (oT 11) (oN 1)),oA 12 13] [1,3,4,5,6,7,8,9,11,12] [] (.ite (oT 12) (.skip) (oX [oB 15 (.eql false false [.int] (oT 11) (oN 2)),oA 14 15] [1,3,4,5,6,7,8,9,11,14] [] (.ite (oT 14) (.reg [oB 3 (.mv (.const (.bool true))),oB 5 (.mv (.const (.bool true))),oB 7 (.mv (.const (.bool true)))]) (oX [oB 17 (.eql false false [.int] (oT 11) (oN 3)),
 oA 16 17] [1,3,4,5,6,7,8,9,11,16] [] (.ite (oT 16) (.reg [oB 3 (.mv (.const (.bool true))),oB 5 (.mv (.const (.bool true)))]) (oX [oB 19 (.eql false false [.int] (oT 11) (oN 4)),oA 18 19] [1,3,4,5,6,7,8,9,11,18] [] (.ite (oT 18) (.reg [oB 3 (.mv (.const (.bool true))),oB 4 (.mv (.const (.bool true))),oB 6 (.mv (.const (.bool true)))]) (oX [oB 21 (.eql false false [.int] (oT 11) (oN 5)),
 oA 20 21] [1,3,4,5,6,7,8,9,11,20] [] (.ite (oT 20) (.regd [oE 22 2 1,oC 23 1 22,oB 24 (.eql true false [.str] (oT 23) (oS ⟨#[]⟩)),oB 3 (.mv (.const (.bool true))),oB 4 (.mv (.const (.bool true)))] [oA 5 24]) (oX [oB 26 (.eql false false [.int] (oT 11) (oN 6)),oA 25 26] [1,3,4,5,6,7,11,25] [] (.ite (oT 25) (.reg [oB 8 (.mv (oN 1)),oB 9 (.mv (oN 1))]) (.seq (oX [
 oB 28 (.eql false false [.int] (oT 11) (oN 7)),oA 27 28] [1,3,4,5,6,7,11,27] [] (.ite (oT 27) (.skip) (.reg [oB 29 (.eql false false [.int] (oT 11) (oN 8)),oA 27 29]))) (.keep [1,3,4,5,6,7,27] [] (.ite (oT 27) (.reg [oB 8 (.mv (oN 2)),oB 9 (.mv (oN 1000))]) (oX [oB 2 (.mv (.const ob))] [2] [] (.ret))))))))))))))))))) (.keep [1,3,4,5,6,7,8,9] [] (oX [oA 30 3,oA 31 30,
 oI 32 31 (.faddr 1 (oT 1)),oI 33 31 (.load false 1 (oT 32)),oI 34 31 (.eql false false [.str] (oT 33) (oS ⟨#[]⟩)),oB 35 (.pick (oT 31) (.const (.bool true)) (oT 34)),oA 36 35,oH 37 36 (.mv (oT 4)),oH 38 36 (.mv (oT 37)),oI 39 38 (.faddr 2 (oT 1)),oI 40 38 (.load false 1 (oT 39)),oI 41 38 (.eql false false [.str] (oT 40) (oS ⟨#[]⟩)),oH 42 36 (.pick (oT 38) (.const (.bool true)) (oT 41)),
 oB 43 (.pick (oT 36) (oT 42) (.const ob)),oA 44 43,oH 45 44 (.mv (oT 5)),oH 46 44 (.mv (oT 45)),oI 47 46 (.faddr 3 (oT 1)),oI 48 46 (.load false 1 (oT 47)),oI 49 46 (.eql false false [.str] (oT 48) (oS ⟨#[]⟩)),oH 50 44 (.pick (oT 46) (.const (.bool true)) (oT 49)),oB 51 (.pick (oT 44) (oT 50) (.const ob)),oA 52 51,oH 53 52 (.mv (oT 6)),oH 54 52 (.mv (oT 53)),
 oI 55 54 (.faddr 4 (oT 1)),oI 56 54 (.load false 1 (oT 55)),oI 57 54 (.eql false false [.str] (oT 56) (oS ⟨#[]⟩)),oH 58 52 (.pick (oT 54) (.const (.bool true)) (oT 57)),oB 59 (.pick (oT 52) (oT 58) (.const ob)),oA 60 59,oH 61 60 (.mv (oT 7)),oH 62 60 (.mv (oT 61)),oI 63 62 (.faddr 5 (oT 1)),oI 64 62 (.load false 1 (oT 63)),oI 65 62 (.not (oT 64)),
 oH 66 60 (.pick (oT 62) (.const (.bool true)) (oT 65)),oB 67 (.pick (oT 60) (oT 66) (.const ob)),oA 68 67,oH 69 68 (.faddr 6 (oT 1)),oH 70 68 (.load false 1 (oT 69)),oH 71 68 (.len (oT 70)),oH 72 68 (.mv (oT 8)),oH 73 68 (.cmp .geq (oT 71) (oT 72)),oB 74 (.pick (oT 68) (oT 73) (.const ob)),oA 75 74,oH 76 75 (.faddr 6 (oT 1)),oH 77 75 (.load false 1 (oT 76)),oH 78 75 (.len (oT 77)),
 oH 79 75 (.mv (oT 9)),oH 80 75 (.cmp .leq (oT 78) (oT 79)),oB 81 (.pick (oT 75) (oT 80) (.const ob)),oA 2 81] [2] [] (.ret)))))
def dK:List aI:= [.tmp 2]
def LA:List Nat:= [1]
theorem Lj:aR Tryz.prog oP LA dQ dK 82:=aA ay (by kernel_rfl)
def pn:CC:=oX [oB 2 (.mv (oS ⟨#[]⟩))] [0] [] (.seq (oX [oA 3 0,oB 4 (.cmp .lss (oT 3) (oN 0))] [0,4] [] (.ite (oT 4) (.seq (oX [oA 5 0,oB 6 (.cmp .gtr (oT 5) (oN (-10)))] [0,6] [] (.ite (oT 6) (oX [oA 7 0,oB 8 (.neg (oT 7)),oZ 9 aN [oT 8],oB 10 (.scat (oS ⟨#[45]⟩) (oT 9)),oA 2 10] [2] [24] (.ret)) (.skip))) (.keep [0] [] (oX [oA 11 0,
 oB 12 (.arith .quo (oT 11) (oN 10)),oZ 13 aN [oT 12],oA 14 0,oB 15 (.arith .rem (oT 14) (oN 10)),oB 16 (.neg (oT 15)),oZ 17 aN [oT 16],oB 18 (.scat (oT 13) (oT 17)),oA 2 18] [2] [24] (.ret)))) (.skip))) (.keep [0] [] (.seq (oX [oA 19 0,oB 20 (.cmp .lss (oT 19) (oN 10))] [0,20] [] (.ite (oT 20) (oX [oA 21 0,oB 22 (.arith .add (oN 48) (oT 21)),
 oB 23 (.conv .u8 (oT 22)),oB 24 (.mslice vD 1 [oT 23]),oB 25 (.bstr (oT 24)),oA 2 25] [2] [24] (.ret)) (.skip))) (.keep [0] [] (oX [oA 26 0,oB 27 (.arith .quo (oT 26) (oN 10)),oZ 28 aN [oT 27],oA 29 0,oB 30 (.arith .rem (oT 29) (oN 10)),oZ 31 aN [oT 30],oB 32 (.scat (oT 28) (oT 31)),oA 2 32] [2] [24] (.ret))))))
def o8:List aI:= [.tmp 2]
def ED:List Nat:= [100024]
theorem Er:aR Tryz.prog aN ED pn o8 33:=aA ay (by kernel_rfl)
-- r23_Format range i=32 n=31 c=33 i2=39 id=0: live [1:q, 30:] changed [] res [30]
-- r23_Format range i=56 n=55 c=57 i2=85 id=2: live [1:q, 5:out, 54:] changed [5] res []
def qN:CC:=oX [oB 1 (.box gJ true (oT 0)),oB 2 (.mv (oS ⟨#[]⟩))] [1] [] (.seq (oX [oE 8 0 1,oD 9 13 8,oZ 10 fe [oT 9,oN 1],oB 11 (.not (oT 10)),oA 12 11,oI 13 12 (.faddr 25 (oT 1)),oI 14 12 (.load false 1 (oT 13)),oI 15 12 (.cmp .lss (oT 14) (oN 0)),oB 16 (.pick (oT 12) (.const (.bool true)) (oT 15)),oA 17 16,oI 18 17 (.faddr 25 (oT 1)),
 oI 19 17 (.load false 1 (oT 18)),oI 20 17 (.cmp .gtr (oT 19) (oN 3)),oB 21 (.pick (oT 17) (.const (.bool true)) (oT 20)),oA 22 21,oI 23 22 (.faddr 13 (oT 1)),oI 24 22 (.load true 11 (oT 23)),oI 25 22 (.call kM [oT 24]),oI 26 22 (.not (oT 25)),oB 27 (.pick (oT 22) (.const (.bool true)) (oT 26))] [1,27] [] (.ite (oT 27) (oX [oB 2 (.mv (oS ⟨#[]⟩))] [2] [] (.ret)) (.skip)))
 (.keep [1] [] (.seq (oX [oE 28 0 1,oD 29 13 28,oZ 30 dq [oT 29,.const on],.frz 30 13,oB 31 (.len (oT 30)),oB 32 (.mv (oN 0))] [1,30,31,32] [30] (bi 0 32 31 33 1 (oX [oB 34 (.iaddr 13 (oT 30) (oT 32)),oD 35 13 34,oB 4 (.alloc ag [oi,oi,oe,oe,oe,oe,ob,on,oe,oe,oi,oi,on]),oF 13 4 35] [1,4,30,31,32] [4,30] (oX [oE 36 1 4,oD 37 7 36,
 oZ 38 dn [oT 37]] [1,30,31,32,38] [30] (.ite (oT 38) (oX [oB 2 (.mv (oS ⟨#[]⟩))] [2] [] (.ret)) (.skip)))) 39)) (.keep [1] [] (oX [oE 40 0 1,oD 41 13 40,oZ 42 cN [oT 41],oA 5 42] [1,5] [] (.seq (oX [oE 43 13 1,oE 44 0 43,oC 45 1 44,oB 46 (.eql true false [.int] (oT 45) (oN 0))] [1,5,46] [] (.ite (oT 46) (.reg [oA 47 5,oE 48 13 1,oD 49 11 48,
 oZ 50 aZ [oT 49],oB 51 (.scat (oS ⟨#[32,58,58,32]⟩) (oT 50)),oB 52 (.scat (oT 47) (oT 51)),oA 5 52]) (.skip))) (.keep [1,5] [] (.seq (oX [oE 53 24 1,oC 54 1 53,oB 55 (.len (oT 54)),oB 56 (.mv (oN 0))] [1,5,54,55,56] [] (bi 2 56 55 57 3 (oX [oB 58 (.iaddr 3 (oT 54) (oT 56)),oD 59 3 58,oB 7 (.alloc db [oi,ob,oe]),oF 3 7 59] [1,5,7,54,55,56] [7] (.seq (oX [
 oE 60 0 7,oC 61 1 60,oB 62 (.cmp .lss (oT 61) (oN 1)),oA 63 62,oI 64 63 (.faddr 0 (oT 7)),oI 65 63 (.load false 1 (oT 64)),oI 66 63 (.cmp .gtr (oT 65) (oN 3)),oB 67 (.pick (oT 63) (.const (.bool true)) (oT 66))] [1,5,7,54,55,56,67] [7] (.ite (oT 67) (oX [oB 2 (.mv (oS ⟨#[]⟩))] [2] [] (.ret)) (.skip))) (.keep [1,5,7,54,55,56] [7] (oX [oA 68 5,oB 69 (.scat (oT 68) (oS ⟨#[32]⟩)),
 oA 5 69] [1,5,7,54,55,56] [7] (.seq (oX [oE 70 1 7,oC 71 1 70] [1,5,7,54,55,56,71] [7] (.ite (oT 71) (.reg [oA 72 5,oB 73 (.scat (oT 72) (oS ⟨#[33]⟩)),oA 5 73]) (.skip))) (.keep [1,5,7,54,55,56] [7] (.regd [oA 74 5,oZ 75 fl [],oE 76 0 7,oC 77 1 76,oB 78 (.iaddr 1 (oT 75) (oT 77)),oC 79 1 78,oB 80 (.scat (oT 79) (oS ⟨#[32]⟩)),oE 81 2 7,oC 82 1 81,
 oB 83 (.scat (oT 80) (oT 82))] [oB 84 (.scat (oT 74) (oT 83)),oA 5 84]))))))) 85)) (.keep [1,5] [] (.seq (oX [oE 86 25 1,oC 87 1 86,oB 88 (.eql true false [.int] (oT 87) (oN 0))] [1,5,88] [] (.ite (oT 88) (.regd [oA 89 5,oZ 90 dy [],oE 91 25 1,oC 92 1 91,oB 93 (.iaddr 1 (oT 90) (oT 92)),oC 94 1 93,oB 95 (.scat (oS ⟨#[32,115,116,114,97,116,101,103,121,32]⟩) (oT 94))] [
 oB 96 (.scat (oT 89) (oT 95)),oA 5 96]) (.skip))) (.keep [5] [] (oX [oA 97 5,oA 2 97] [2] [] (.ret)))))))))))))
def qh:List aI:= [.tmp 2]
def Ha:List Nat:= [1]
theorem Gz:aR Tryz.prog mI Ha qN qh 98:=aA ay (by kernel_rfl)
end Go.Gv

namespace Go.Gv
def io {α:Type} (sep:B) (par:α→Bool) (f:α→Option B):Nat→List α→Option B
 | _, []=> some E0
 | i,k::ks=> (f k).bind fun t=> (io sep par f (i+1) ks).map fun r=> ((if i=0 then E0 else sep) ++vd (par k) t) ++r
def rf (c:Prop) [Decidable c]:B:=if c then⟨#[32,38,32]⟩ else⟨#[32,124,32]⟩
def zU (n:Int):Option B:=if 0≤n∧n < 10 then some ⟨#[(48+n).toNat.toUInt8]⟩ else if -10 < n∧n < 0 then some (⟨#[45]⟩ ++ ⟨#[(48+ -n).toNat.toUInt8]⟩) else none
def Yi (x:Cond):Option B:=if x.arg=E0 then some ((⟨#[105,110,40]⟩ ++x.name) ++ ⟨#[41]⟩) else
 (na x.val).map fun t=> (((((⟨#[105,110,40]⟩ ++x.name) ++ ⟨#[44]⟩) ++x.arg) ++ ⟨#[61]⟩) ++t) ++ ⟨#[41]⟩
def Eo (op:Int) (k:Cond):Bool:=decide (k.op=8) || (decide (op=7) && decide (k.op=7))
def qav (f:Cond→Option B):List Cond→Option B
 | [k]=> (f k).map fun t=> ⟨#[33]⟩ ++vd (decide (k.op=7) || decide (k.op=8)) t
 | _=> none
def nI (f:Cond→Option B) (x:Cond):Option B:=
 if x.op=1 then some ⟨#[91,93]⟩ else
 if x.op=2 then(iy (x.val,x.fold)).map fun t=> if x.name=E0 then t else(x.name++ ⟨#[61]⟩) ++t else
 if x.op=3 then(na x.val).map fun t=> (x.name++ ⟨#[32,99,111,110,116,97,105,110,115,32]⟩) ++t else
 if x.op=4 then some ((((x.name++ ⟨#[61]⟩) ++x.lab) ++ ⟨#[46]⟩) ++x.arg) else
 if x.op=5 then Yi x else
 if x.op=6 then qav f x.kids else
 if x.op=7∨x.op=8 then io (rf (x.op=7)) (Eo x.op) f 0 x.kids else none
def dm:Nat→Cond→Option B
 | 0=> fun _=> none
 | n+1=> nI (dm n)
def Um (f:Cond→Option B) (p:Pat):Option B:=(f p.cond).map fun t=> if p.lab=E0 then eQ p.cond t else(p.lab++ ⟨#[58]⟩) ++eQ p.cond t
def Uu (lo hi:Int):Option B:=
 if lo=0∧hi=1 then some ⟨#[63]⟩ else if lo=0∧hi= -1 then some ⟨#[42]⟩ else if lo=1∧hi= -1 then some ⟨#[43]⟩ else
 if lo=2∧hi=2 then some ⟨#[123,50,125]⟩ else if lo=0∧hi=2 then some ⟨#[123,48,44,50,125]⟩ else if lo=1∧hi=3 then some ⟨#[123,49,44,51,125]⟩ else
 if lo=0∧hi=0 then some ⟨#[123,48,125]⟩ else none
def qat (f:Pat→Option B) (lo hi:Int):List Pat→Option B
 | [k]=> (f k).bind fun t=> (Uu lo hi).map fun u=> vd (decide (k.op=5) || decide (k.op=4)) t++u
 | _=> none
def Cr (op:Int) (k:Pat):Bool:=decide (k.op=5) || (decide (op=4) && decide (k.op=4))
def KE (op:Int):B:=if op=5 then⟨#[32,124]⟩ ++ ⟨#[32]⟩ else⟨#[32]⟩
def yw (c:Cond→Option B) (f:Pat→Option B) (p:Pat):Option B:=
 if p.op=1 then Um c p else if p.op=2 then some ((⟨#[60]⟩ ++p.reg) ++ ⟨#[62]⟩) else if p.op=3 then some ((⟨#[60,47]⟩ ++p.reg) ++ ⟨#[62]⟩) else
 if p.op=6 then qat f p.mn p.mx p.kids else
 if p.op=4∨p.op=5 then io (KE p.op) (Cr p.op) f 0 p.kids else none
def lp (c:Cond→Option B):Nat→Pat→Option B
 | 0=> fun _=> none
 | n+1=> yw c (lp c n)
def Tw (op:Int):Option B:=
 if op=1 then some ⟨#[98,111,117,110,100]⟩ else if op=4 then some ⟨#[100,105,115,116,97,110,99,101]⟩ else if op=5 then some ⟨#[115,97,109,101]⟩ else
 if op=6 then some ⟨#[104,101,97,100]⟩ else if op=7 then some ⟨#[97,110,99,101,115,116,111,114]⟩ else if op=8 then some ⟨#[112,97,116,104]⟩ else
 if op=9 then some ⟨#[110,111,100,101]⟩ else if op=10 then some ⟨#[100,101,112,116,104]⟩ else none
def jI:List B→Option B
 | []=> some E0
 | a::l=> (na a).bind fun t=> (jI l).map fun r=> (⟨#[44]⟩ ++t) ++r
def wu (g:Glob):Option B:=if g.op=4∨g.op=10 then(zU g.mn).bind fun t=> (zU g.mx).map fun u=> ((⟨#[44]⟩ ++t) ++ ⟨#[44]⟩) ++u else some E0
def tn (g:Glob):Option B:=(Tw g.op).bind fun w=> (wu g).bind fun n=> if g.op≠8∧g.args≠ [] then none else(jI g.args).map fun r=>
 (((((w++ ⟨#[40]⟩) ++g.a) ++ (if g.op≠1∧g.op≠10 then⟨#[44]⟩ ++g.b else E0)) ++n) ++ (if g.op=5∨g.op=9 then⟨#[44]⟩ ++g.name else E0) ++r) ++ ⟨#[41]⟩
def qau (f:Glob→Option B):List Glob→Option B
 | [k]=> (f k).map fun t=> ⟨#[33]⟩ ++vd (decide (k.op=12) || decide (k.op=13)) t
 | _=> none
def sV (op:Int) (k:Glob):Bool:=decide (k.op=13) || (decide (op=12) && decide (k.op=12))
def qC (f:Glob→Option B) (g:Glob):Option B:=
 if g.op=2 then(iy (g.val,g.fold)).map fun t=> (((g.a++ ⟨#[46]⟩) ++g.name) ++ ⟨#[61]⟩) ++t else
 if g.op=3 then some ((((((g.a++ ⟨#[46]⟩) ++g.name) ++ ⟨#[61]⟩) ++g.b) ++ ⟨#[46]⟩) ++g.arg) else
 if g.op=11 then qau f g.kids else
 if g.op=12∨g.op=13 then io (rf (g.op=12)) (sV g.op) f 0 g.kids else tn g
def bk:Nat→Glob→Option B
 | 0=> fun _=> none
 | n+1=> qC (bk n)
def SR (f:jT):Option B:=(if 0 < f.op then filterL[f.op.toNat]? else none).map fun w=> (((if f.neg then⟨#[32]⟩ ++ ⟨#[33]⟩ else⟨#[32]⟩) ++w) ++ ⟨#[32]⟩) ++f.reg
def tj:List jT→Option B
 | []=> some E0
 | f::l=> (SR f).bind fun t=> (tj l).map fun r=> t++r
def Jl (s:Int):Option B:=if s=0 then some E0 else(if 0 < s then dc[s.toNat]? else none).map fun w=> ⟨#[32,115,116,114,97,116,101,103,121,32]⟩ ++w
def Mm (g:Glob):Option B:=if g.op=0 then some E0 else(bk 10 g).map fun t=> ⟨#[32,58,58,32]⟩ ++t
def R8 (q:Qry):Option B:=(lp (dm 10) 10 q.pat).bind fun t=> (Mm q.glob).bind fun g=> (tj q.filts).bind fun f=> (Jl q.strat).map fun s=> ((t++g) ++f) ++s
end Go.Gv

namespace Go.Gv
theorem dJ (a b:B): (a++b).size=a.size+b.size:=ByteArray.size_append
def Qh (k:Nat) (l:List B):Bool:=l.all fun s=> decide (s.size≤k) && !(s.data.toList.contains 34)
theorem Z0 {k:Nat} {l:List B} (h:Qh k l=true) {s:B} (hs:s∈l):na s=some ((⟨#[34]⟩ ++s) ++ ⟨#[34]⟩)∧s.size≤k:=by
 have:=List.all_eq_true.1 h s hs
 simp at this
 refine⟨?_,this.1⟩
 unfold na
 rw[if_neg]
 intro h2
 exact this.2 (Array.mem_toList_iff.1 h2)
theorem EU {k:Nat} {l:List B} (h:Qh k l=true) {s:B} (hs:s∈l): ∃t,na s=some t∧t.size≤k+2:=by
 obtain⟨h1,h2⟩:=Z0 h hs
 refine⟨_,h1,?_⟩
 rw[dJ,dJ]
 show 1+s.size+1≤k+2
 omega
theorem Kr {k:Nat} {l:List B} (h:Qh k l=true) {s:B} (hs:s∈l) (f:Bool): ∃t,iy (s,f)=some t∧t.size≤k+4:=by
 obtain⟨t,h1,h2⟩:=EU h hs
 unfold iy
 rw[h1]
 refine⟨_,rfl,?_⟩
 cases f
 ·show t.size≤_;omega
 ·show(t++ ⟨#[37,99]⟩).size≤_
  rw[dJ]
  show t.size+2≤_
  omega
theorem rX {k:Nat} {l:List B} (h:l.all (fun s=> decide (s.size≤k))=true) {s:B} (hs:s∈l):s.size≤k:=by
 have:=List.all_eq_true.1 h s hs
 simpa using this
theorem wy (b:Bool) (t:B): (vd b t).size≤t.size+2:=by
 unfold vd
 split
 ·rw[dJ,dJ]
  show 1+t.size+1≤_
  omega
 ·omega
theorem G4 {α:Type} {sep:B} {par:α→Bool} {f:α→Option B} {a b:α} {t u:B} (h1:f a=some t) (h2:f b=some u):
 ∃r,io sep par f 0 [a,b]=some r∧r.size≤t.size+u.size+sep.size+4:=by
 unfold io io io
 rw[h1,h2]
 refine⟨_,rfl,?_⟩
 have:=wy (par a) t
 have:=wy (par b) u
 have e0:E0.size=0:=rfl
 simp only[dJ,if_pos,if_neg (show ¬0+1=0 by omega),e0]
 omega
theorem Tb {lb:List B} (hlb: ∀l∈lb,l.size≤1) {c:Cond} (h:GA lb c) (f:Cond→Option B): ∃t,nI f c=some t∧t.size≤40:=by
 cases h with
 | val n v fo h1 h2=>
   obtain⟨t,e1,e2⟩:=Kr (k:=4) (by decide) h2 fo
   have hn:=rX (k:=4) (by decide) h1
   refine⟨_,by rw[nI,if_neg (by decide: ¬ (2:Int)=1),if_pos rfl,e1];rfl,?_⟩
   simp only
   split
   ·omega
   ·simp only[dJ,show(⟨#[61]⟩:B).size=1 from rfl];omega
 | feat v h=>
   obtain⟨t,e1,e2⟩:=EU (k:=1) (by decide) h
   refine⟨_,by rw[nI,if_neg (by decide: ¬ (3:Int)=1),if_neg (by decide: ¬ (3:Int)=2),if_pos rfl,e1];rfl,?_⟩
   simp only[dJ,show(⟨#[32,99,111,110,116,97,105,110,115,32]⟩:B).size=10 from rfl,show t_feat.size=4 from rfl];omega
 | same n l a h1 h2 h3=>
   have hn:=rX (k:=4) (by decide) h1
   have ha:=rX (k:=4) (by decide) h3
   have hl:=hlb l h2
   refine⟨_,by rw[nI,if_neg (by decide: ¬ (4:Int)=1),if_neg (by decide: ¬ (4:Int)=2),if_neg (by decide: ¬ (4:Int)=3),if_pos rfl],?_⟩
   simp only[dJ,show(⟨#[61]⟩:B).size=1 from rfl,show(⟨#[46]⟩:B).size=1 from rfl];omega
 | reg n h=>
   have hn:=rX (k:=4) (by decide) h
   refine⟨_,by rw[nI,if_neg (by decide: ¬ (5:Int)=1),if_neg (by decide: ¬ (5:Int)=2),if_neg (by decide: ¬ (5:Int)=3),if_neg (by decide: ¬ (5:Int)=4),if_pos rfl,Yi,if_pos rfl],?_⟩
   simp only[dJ,show(⟨#[105,110,40]⟩:B).size=3 from rfl,show(⟨#[41]⟩:B).size=1 from rfl];omega
 | regk n v h1 h2=>
   have hn:=rX (k:=4) (by decide) h1
   obtain⟨t,e1,e2⟩:=EU (k:=1) (by decide) h2
   refine⟨_,by rw[nI,if_neg (by decide: ¬ (5:Int)=1),if_neg (by decide: ¬ (5:Int)=2),if_neg (by decide: ¬ (5:Int)=3),if_neg (by decide: ¬ (5:Int)=4),if_pos rfl,Yi,if_neg (show ¬t_n=E0 by decide),e1];rfl,?_⟩
   simp only[dJ,show(⟨#[105,110,40]⟩:B).size=3 from rfl,show(⟨#[41]⟩:B).size=1 from rfl,show(⟨#[44]⟩:B).size=1 from rfl,show(⟨#[61]⟩:B).size=1 from rfl,show t_n.size=1 from rfl];omega
theorem ur {lb:List B} (hlb: ∀l∈lb,l.size≤1): ∀ {n:Nat} {c:Cond},GI lb n c→ ∀m,n < m→ ∃t,dm m c=some t∧t.size+7≤50*2^n
 | _,_, .atom n c h,m,hm=> by
   obtain⟨m,rfl⟩: ∃k,m=k+1:=⟨m -1,by omega⟩
   obtain⟨t,h1,h2⟩:=Tb hlb h (dm m)
   have:=Nat.one_le_two_pow (n:=n)
   exact⟨t,h1,by omega⟩
 | _,_, .not n k h,m,hm=> by
   obtain⟨m,rfl⟩: ∃k,m=k+1:=⟨m -1,by omega⟩
   obtain⟨t,h1,h2⟩:=ur hlb h m (by omega)
   have:=Nat.one_le_two_pow (n:=n)
   refine⟨⟨#[33]⟩ ++vd (decide (k.op=7) || decide (k.op=8)) t,by rw[dm,nI,if_neg (by decide: ¬ (6:Int)=1),if_neg (by decide: ¬ (6:Int)=2),if_neg (by decide: ¬ (6:Int)=3),if_neg (by decide: ¬ (6:Int)=4),if_neg (by decide: ¬ (6:Int)=5),if_pos rfl];simp only[qav,h1,Option.map_some],?_⟩
   have:=wy (decide (k.op=7) || decide (k.op=8)) t
   rw[dJ,show(⟨#[33]⟩:B).size=1 from rfl,Nat.pow_succ]
   omega
 | _,_, .two n op a b ho h1 h2,m,hm=> by
   obtain⟨m,rfl⟩: ∃k,m=k+1:=⟨m -1,by omega⟩
   obtain⟨t,e1,e2⟩:=ur hlb h1 m (by omega)
   obtain⟨u,e3,e4⟩:=ur hlb h2 m (by omega)
   obtain⟨r,e5,e6⟩:=G4 (sep:=rf (op=7)) (par:=Eo op) e1 e3
   have hs: (rf (op=7)).size=3:=by unfold rf;split <;> rfl
   refine⟨r,by rw[dm,nI,if_neg (by omega: ¬op=1),if_neg (by omega: ¬op=2),if_neg (by omega: ¬op=3),if_neg (by omega: ¬op=4),if_neg (by omega: ¬op=5),if_neg (by omega: ¬op=6),if_pos ho,e5],?_⟩
   rw[Nat.pow_succ]
   omega
theorem Ta {lb:List B} (hlb: ∀l∈lb,l.size≤1) {n:Nat} {c:Cond} (h:GC lb n c) (m:Nat) (hm:n < m): ∃t,dm m c=some t∧t.size+7≤50*2^n:=by
 have:=Nat.one_le_two_pow (n:=n)
 obtain⟨m,rfl⟩: ∃k,m=k+1:=⟨m -1,by omega⟩
 cases h with
 | any=> exact⟨⟨#[91,93]⟩,rfl,by show 2+7≤_;omega⟩
 | top v f h=>
   obtain⟨t,e1,e2⟩:=Kr (k:=4) (by decide) h f
   refine⟨t,by rw[dm,nI,if_neg (by decide: ¬ (2:Int)=1),if_pos rfl,e1];rfl,by omega⟩
 | inner c h=> exact ur hlb h _ hm
theorem Tj (x:Cond) (t:B): (eQ x t).size≤t.size+2:=by
 unfold eQ
 split
 ·omega
 ·simp only[dJ,show(⟨#[91]⟩:B).size=1 from rfl,show(⟨#[93]⟩:B).size=1 from rfl];omega
theorem Ut {r:Int×Int} (h:r∈Reps): ∃u,Uu r.1 r.2=some u∧u.size≤5:=by
 have:Reps.all (fun r=> match Uu r.1 r.2 with | some u=> decide (u.size≤5) | none=> false)=true:=by decide
 have:=List.all_eq_true.1 this r h
 cases hs:Uu r.1 r.2 with
 | none=> rw[hs] at this;cases this
 | some u=> rw[hs] at this;exact⟨u,rfl,by simpa using this⟩
theorem Sz {p:Pat} (h:p.op=1):aY p= [p]:=by rw[bz,if_pos h]
theorem G0 {p k:Pat} (h: ¬p.op=1) (hk:k∈p.kids) {y:Pat} (hy:y∈aY k):y∈aY p:=by
 rw[bz,if_neg h]
 exact List.mem_flatMap.2 ⟨k,hk,hy⟩
theorem UX {lb lb':List B} (h1: ∀l∈lb,l.size≤1) (h2: ∀l∈lb',l.size≤1): ∀n p,WP lb n p→(∀y∈aY p,GC lb' 1 y.cond)→ ∀m,n < m→ ∃t,lp (dm 10) m p=some t∧t.size+8≤150*2^n:=by
 refine Ff fun n p hp ih hc m hm=> ?_
 obtain⟨m,rfl⟩: ∃k,m=k+1:=⟨m -1,by omega⟩
 have hpow:=Nat.one_le_two_pow (n:=n)
 rcases vr hp with(⟨g1,g2,g3,g4,g5,g6⟩ | ⟨g1,g2,g3,g4,g5,g6,g7⟩) | ⟨k,rfl,(⟨g1,g2,g3,g4,g5,g6,a,b,g7,ga,gb⟩ | ⟨g1,g2,g3,g4,g5,a,g7,ga⟩)⟩
 ·obtain⟨t,e1,e2⟩:=Ta h2 (hc p (by rw[Sz g1];simp)) 10 (by omega)
  refine⟨_,by rw[lp,yw,if_pos g1,Um,e1];rfl,?_⟩
  have hb:=Tj p.cond t
  have hl:p.lab.size≤1:=g2.elim (fun e=> by rw[e];exact Nat.zero_le _) (h1 _)
  simp only
  split
  ·omega
  ·simp only[dJ,show(⟨#[58]⟩:B).size=1 from rfl];omega
 ·have hr:=rX (k:=4) (l:=rS) (by decide) g4
  rcases g1 with g1 | g1
  ·refine⟨_,by rw[lp,yw,if_neg (by omega),if_pos g1],?_⟩
   simp only[dJ,show(⟨#[60]⟩:B).size=1 from rfl,show(⟨#[62]⟩:B).size=1 from rfl];omega
  ·refine⟨_,by rw[lp,yw,if_neg (by omega),if_neg (by omega),if_pos g1],?_⟩
   simp only[dJ,show(⟨#[60,47]⟩:B).size=2 from rfl,show(⟨#[62]⟩:B).size=1 from rfl];omega
 ·obtain⟨m1,e1,_,a1⟩:=ih a (by rw[g7];simp)
  obtain⟨m2,e2,_,a2⟩:=ih b (by rw[g7];simp)
  have hn1: ¬p.op=1:=by omega
  obtain⟨t,q1,q2⟩:=a1 (fun y hy=> hc y (G0 hn1 (by rw[g7];simp) hy)) m (by omega)
  obtain⟨u,q3,q4⟩:=a2 (fun y hy=> hc y (G0 hn1 (by rw[g7];simp) hy)) m (by omega)
  obtain⟨r,q5,q6⟩:=G4 (sep:=KE p.op) (par:=Cr p.op) q1 q3
  have hs: (KE p.op).size≤3:=by unfold KE;split <;> decide
  refine⟨r,by rw[lp,yw,if_neg hn1,if_neg (by omega),if_neg (by omega),if_neg (by omega),if_pos g1,g7,q5],?_⟩
  have e1:m1=k:=by omega
  have e2:m2=k:=by omega
  subst e1;subst e2
  rw[Nat.pow_succ]
  omega
 ·obtain⟨m1,e1,_,a1⟩:=ih a (by rw[g7];simp)
  have hn1: ¬p.op=1:=by omega
  obtain⟨t,q1,q2⟩:=a1 (fun y hy=> hc y (G0 hn1 (by rw[g7];simp) hy)) m (by omega)
  obtain⟨u,q3,q4⟩:=Ut g5
  refine⟨vd (decide (a.op=5) || decide (a.op=4)) t++u,by rw[lp,yw,if_neg hn1,if_neg (by omega),if_neg (by omega),if_pos g1,g7];simp only[qat,q1,Option.bind_some];simp only at q3;rw[q3];rfl,?_⟩
  have e1:m1=k:=by omega
  subst e1
  have:=wy (decide (a.op=5) || decide (a.op=4)) t
  rw[dJ,Nat.pow_succ]
  omega
theorem NV {n:Int} (h0: -10 < n) (h1:n < 10): ∃t,zU n=some t∧t.size≤2:=by
 unfold zU
 split
 ·exact⟨_,rfl,Nat.le_succ _⟩
 ·rw[if_pos (by omega)]
  exact⟨_,rfl,by rw[dJ];exact Nat.le_refl _⟩
theorem Tp {l:List B} (h: ∀x∈l,x∈WZ): ∃t,jI l=some t∧t.size≤6*l.length:=by
 induction l with
 | nil=> exact⟨E0,rfl,Nat.zero_le _⟩
 | cons a l ih=>
   obtain⟨t,e1,e2⟩:=ih fun x hx=> h x (by simp[hx])
   obtain⟨u,e3,e4⟩:=EU (k:=3) (by decide) (h a (by simp))
   refine⟨_,by rw[jI,e3,e1];rfl,?_⟩
   simp only[dJ,show(⟨#[44]⟩:B).size=1 from rfl,List.length_cons]
   omega
theorem YN {op:Int} (h:op=1∨op=4∨op=5∨op=6∨op=7∨op=8∨op=9∨op=10): ∃t,Tw op=some t∧t.size≤8:=by
 rcases h with rfl | rfl | rfl | rfl | rfl | rfl | rfl | rfl <;> exact⟨_,rfl,by decide⟩
theorem nS {g:Glob} (h:g.op=1∨g.op=4∨g.op=5∨g.op=6∨g.op=7∨g.op=8∨g.op=9∨g.op=10) (ha:g.a.size≤1) (hb:g.b.size≤1) (hn:g.name.size≤4) (h1: -10 < g.mn) (h2:g.mn < 10) (h3: -10 < g.mx) (h4:g.mx < 10)
 (h5: ¬ (g.op≠8∧g.args≠ [])) (h6:g.args.length≤2) (h7: ∀x∈g.args,x∈WZ): ∃t,tn g=some t∧t.size≤50:=by
 obtain⟨w,e1,e2⟩:=YN h
 obtain⟨r,e3,e4⟩:=Tp h7
 obtain⟨n,e5,e6⟩: ∃n,wu g=some n∧n.size≤6:=by
  unfold wu
  split
  ·obtain⟨t,q1,q2⟩:=NV h1 h2
   obtain⟨u,q3,q4⟩:=NV h3 h4
   rw[q1,q3]
   refine⟨_,rfl,?_⟩
   simp only[dJ,show(⟨#[44]⟩:B).size=1 from rfl];omega
  ·exact⟨E0,rfl,Nat.zero_le _⟩
 refine⟨_,by rw[tn,e1,e5];simp only[Option.bind_some];rw[if_neg h5,e3];rfl,?_⟩
 have e0:E0.size=0:=rfl
 simp only[dJ,show(⟨#[40]⟩:B).size=1 from rfl,show(⟨#[41]⟩:B).size=1 from rfl]
 split <;> split <;> simp only[dJ,show(⟨#[44]⟩:B).size=1 from rfl,e0] <;> omega
theorem ee (f:Glob→Option B) {g:Glob} (h:g.op=1∨g.op=4∨g.op=5∨g.op=6∨g.op=7∨g.op=8∨g.op=9∨g.op=10):qC f g=tn g:=by
 rw[qC,if_neg (by omega),if_neg (by omega),if_neg (by omega),if_neg (by omega)]
theorem SM {lb:List B} (hlb: ∀l∈lb,l.size≤1): ∀ {n:Nat} {g:Glob},GG lb n g→ ∀m,n < m→ ∃t,bk m g=some t∧t.size+7≤70*2^n:=by
 intro n g h
 induction h with
 | not n k h ih=>
   intro m hm
   obtain⟨m,rfl⟩: ∃k,m=k+1:=⟨m -1,by omega⟩
   obtain⟨t,h1,h2⟩:=ih m (by omega)
   have:=Nat.one_le_two_pow (n:=n)
   refine⟨⟨#[33]⟩ ++vd (decide (k.op=12) || decide (k.op=13)) t,by rw[bk,qC,if_neg (by decide: ¬ (11:Int)=2),if_neg (by decide: ¬ (11:Int)=3),if_pos rfl];simp only[qau,h1,Option.map_some],?_⟩
   have:=wy (decide (k.op=12) || decide (k.op=13)) t
   rw[dJ,show(⟨#[33]⟩:B).size=1 from rfl,Nat.pow_succ]
   omega
 | two n op a b ho h1 h2 ih1 ih2=>
   intro m hm
   obtain⟨m,rfl⟩: ∃k,m=k+1:=⟨m -1,by omega⟩
   obtain⟨t,e1,e2⟩:=ih1 m (by omega)
   obtain⟨u,e3,e4⟩:=ih2 m (by omega)
   obtain⟨r,e5,e6⟩:=G4 (sep:=rf (op=12)) (par:=sV op) e1 e3
   have hs: (rf (op=12)).size=3:=by unfold rf;split <;> rfl
   refine⟨r,by rw[bk,qC,if_neg (by omega: ¬op=2),if_neg (by omega: ¬op=3),if_neg (by omega: ¬op=11),if_pos ho,e5],?_⟩
   rw[Nat.pow_succ]
   omega
 | val n a v f h1 h2=>
   intro m hm
   obtain⟨m,rfl⟩: ∃k,m=k+1:=⟨m -1,by omega⟩
   obtain⟨t,e1,e2⟩:=Kr (k:=3) (by decide) h2 f
   have:=Nat.one_le_two_pow (n:=n)
   have:=hlb a h1
   refine⟨_,by rw[bk,qC,if_pos rfl,e1];rfl,?_⟩
   simp only[dJ,show(⟨#[46]⟩:B).size=1 from rfl,show(⟨#[61]⟩:B).size=1 from rfl,show t_word.size=4 from rfl];omega
 | same n a b g h1 h2 h3=>
   intro m hm
   obtain⟨m,rfl⟩: ∃k,m=k+1:=⟨m -1,by omega⟩
   have:=Nat.one_le_two_pow (n:=n)
   have:=hlb a h1
   have:=hlb b h2
   have:=rX (k:=4) (by decide) h3
   refine⟨_,by rw[bk,qC,if_neg (by decide: ¬ (3:Int)=2),if_pos rfl],?_⟩
   simp only[dJ,show(⟨#[46]⟩:B).size=1 from rfl,show(⟨#[61]⟩:B).size=1 from rfl,show t_word.size=4 from rfl];omega
 | bound n a h=>
   intro m hm
   obtain⟨m,rfl⟩: ∃k,m=k+1:=⟨m -1,by omega⟩
   have:=Nat.one_le_two_pow (n:=n)
   obtain⟨t,e1,e2⟩:=nS (g:=⟨1,a,E0,E0,E0,E0,false,0,0, [], []⟩) (by simp) (hlb a h) (Nat.zero_le _) (Nat.zero_le _) (by simp) (by simp) (by simp) (by simp) (by simp) (by simp) (by simp)
   exact⟨t,by rw[bk,ee _ (by simp),e1],by omega⟩
 | dist n a b mn mx h1 h2 h3 h4 h5 h6=>
   intro m hm
   obtain⟨m,rfl⟩: ∃k,m=k+1:=⟨m -1,by omega⟩
   have:=Nat.one_le_two_pow (n:=n)
   obtain⟨t,e1,e2⟩:=nS (g:=⟨4,a,b,E0,E0,E0,false,mn,mx, [], []⟩) (by simp) (hlb a h1) (hlb b h2) (Nat.zero_le _) (by simp only;omega) (by simp only;omega) (by simp only;omega) (by simp only;omega) (by simp) (by simp) (by simp)
   exact⟨t,by rw[bk,ee _ (by simp),e1],by omega⟩
 | reg n a b t h1 h2 h3=>
   intro m hm
   obtain⟨m,rfl⟩: ∃k,m=k+1:=⟨m -1,by omega⟩
   have:=Nat.one_le_two_pow (n:=n)
   obtain⟨t,e1,e2⟩:=nS (g:=⟨5,a,b,t,E0,E0,false,0,0, [], []⟩) (by simp) (hlb a h1) (hlb b h2) (rX (k:=4) (l:=rS) (by decide) h3) (by simp) (by simp) (by simp) (by simp) (by simp) (by simp) (by simp)
   exact⟨t,by rw[bk,ee _ (by simp),e1],by omega⟩
 | head n op a b ho h1 h2=>
   intro m hm
   obtain⟨m,rfl⟩: ∃k,m=k+1:=⟨m -1,by omega⟩
   have:=Nat.one_le_two_pow (n:=n)
   obtain⟨t,e1,e2⟩:=nS (g:=⟨op,a,b,E0,E0,E0,false,0,0, [], []⟩) (by simp only;omega) (hlb a h1) (hlb b h2) (Nat.zero_le _) (by simp) (by simp) (by simp) (by simp) (by simp) (by simp) (by simp)
   exact⟨t,by rw[bk,ee _ (by simp only;omega),e1],by omega⟩
 | path n a b l h1 h2 h3 h4=>
   intro m hm
   obtain⟨m,rfl⟩: ∃k,m=k+1:=⟨m -1,by omega⟩
   have:=Nat.one_le_two_pow (n:=n)
   obtain⟨t,e1,e2⟩:=nS (g:=⟨8,a,b,E0,E0,E0,false,0,0,l, []⟩) (by simp) (hlb a h1) (hlb b h2) (Nat.zero_le _) (by simp) (by simp) (by simp) (by simp) (by simp) h3 h4
   exact⟨t,by rw[bk,ee _ (by simp),e1],by omega⟩
 | node n a b t h1 h2 h3=>
   intro m hm
   obtain⟨m,rfl⟩: ∃k,m=k+1:=⟨m -1,by omega⟩
   have:=Nat.one_le_two_pow (n:=n)
   obtain⟨t,e1,e2⟩:=nS (g:=⟨9,a,b,t,E0,E0,false,0,0, [], []⟩) (by simp) (hlb a h1) (hlb b h2) (rX (k:=4) (l:=Xg) (by decide) h3) (by simp) (by simp) (by simp) (by simp) (by simp) (by simp) (by simp)
   exact⟨t,by rw[bk,ee _ (by simp),e1],by omega⟩
 | depth n a mn mx h1 h3 h4 h5 h6=>
   intro m hm
   obtain⟨m,rfl⟩: ∃k,m=k+1:=⟨m -1,by omega⟩
   have:=Nat.one_le_two_pow (n:=n)
   obtain⟨t,e1,e2⟩:=nS (g:=⟨10,a,E0,E0,E0,E0,false,mn,mx, [], []⟩) (by simp) (hlb a h1) (Nat.zero_le _) (Nat.zero_le _) (by simp only;omega) (by simp only;omega) (by simp only;omega) (by simp only;omega) (by simp) (by simp) (by simp)
   exact⟨t,by rw[bk,ee _ (by simp),e1],by omega⟩
theorem Wf {f:jT} (h:GF f): ∃t,SR f=some t∧t.size≤20:=by
 obtain⟨op,neg,reg⟩:=f
 obtain⟨h1,h2⟩:=h
 have hr:=rX (k:=4) (l:=rS) (by decide) h2
 simp only at h1 hr
 have: ∃w,(if 0 < op then filterL[op.toNat]? else none)=some w∧w.size≤11:=by rcases h1 with rfl | rfl | rfl <;> exact⟨_,rfl,by decide⟩
 obtain⟨w,e1,e2⟩:=this
 refine⟨_,by rw[SR];simp only;rw[e1];rfl,?_⟩
 simp only
 split <;> simp only[dJ,show(⟨#[32]⟩:B).size=1 from rfl,show(⟨#[33]⟩:B).size=1 from rfl] <;> omega
theorem SQ {l:List jT} (h: ∀f∈l,GF f): ∃t,tj l=some t∧t.size≤20*l.length:=by
 induction l with
 | nil=> exact⟨E0,rfl,Nat.zero_le _⟩
 | cons a l ih=>
   obtain⟨t,e1,e2⟩:=ih fun x hx=> h x (by simp[hx])
   obtain⟨u,e3,e4⟩:=Wf (h a (by simp))
   refine⟨_,by rw[tj,e3,e1];rfl,?_⟩
   simp only[dJ,List.length_cons]
   omega
theorem OY {s:Int} (h0:0≤s) (h1:s < 4): ∃t,Jl s=some t∧t.size≤30:=by
 have:s=0∨s=1∨s=2∨s=3:=by omega
 rcases this with rfl | rfl | rfl | rfl <;> exact⟨_,rfl,by decide⟩
theorem Nq {lb:List B} (h:J3 lb): ∀l∈lb,l.size≤1:=fun l hl=> by rcases h l hl with rfl | rfl <;> decide
theorem Og {lb:List B} {n:Nat} {p:Pat} (h:J3 lb) (hw:WP lb n p): ∀l∈jG p [],l.size≤1:=fun l hl=> by
 rcases Zb n p hw [] l hl with h1 | h1
 ·cases h1
 ·exact Nq h l h1
theorem M0 {n:Nat} {q:Qry} (h:GQ n q) (hn:n≤5): ∃t,R8 q=some t∧t.size≤6000:=by
 obtain⟨lb,hlb,hw⟩:=h.lab
 obtain⟨t,e1,e2⟩:=UX (Nq hlb) (Og hlb hw) n _ hw h.cond 10 (by omega)
 have hp:2^n≤2^5:=Nat.pow_le_pow_right (by omega) hn
 obtain⟨g,e3,e4⟩: ∃g,Mm q.glob=some g∧g.size≤300:=by
  unfold Mm
  rcases h.glob with hg | hg
  ·rw[hg];exact⟨E0,rfl,by decide⟩
  ·obtain⟨g,q1,q2⟩:=SM (Og hlb hw) hg 10 (by omega)
   split
   ·exact⟨E0,rfl,by decide⟩
   ·rw[q1]
    refine⟨_,rfl,?_⟩
    rw[dJ,show(⟨#[32,58,58,32]⟩:B).size=4 from rfl]
    omega
 obtain⟨f,e5,e6⟩:=SQ h.filts.2
 obtain⟨s,e7,e8⟩:=OY h.strat.1 h.strat.2
 have:=h.filts.1
 refine⟨_,by rw[R8,e1,e3,e5,e7];rfl,?_⟩
 simp only[dJ]
 omega
end Go.Gv

namespace Go.Gv
mutual
def sk:Cond→Nat | .mk _ _ _ _ _ _ ks=> jU ks+1
def jU:List Cond→Nat | []=> 0 | k::ks=> sk k+jU ks
end
mutual
def zy:Glob→Nat | .mk _ _ _ _ _ _ _ _ _ _ ks=> lP ks+1
def lP:List Glob→Nat | []=> 0 | k::ks=> zy k+lP ks
end
theorem QO (x:Cond):sk x=jU x.kids+1:=by cases x;rw[sk]
theorem Yy (x:Glob):zy x=lP x.kids+1:=by cases x;rw[zy]
theorem LM (x:Glob):lr x=lQ x.kids+1:=by cases x;rw[lr]
theorem CM: ∀ (a b:List Cond),jU (a++b)=jU a+jU b
 | [],b=> by rw[List.nil_append,jU];omega
 | k::a,b=> by rw[List.cons_append,jU,jU,CM a b];omega
theorem CL: ∀ (a b:List Glob),lP (a++b)=lP a+lP b
 | [],b=> by rw[List.nil_append,lP];omega
 | k::a,b=> by rw[List.cons_append,lP,lP,CL a b];omega
theorem J0: ∀ (a b:List Cond),jZ (a++b)=max (jZ a) (jZ b)
 | [],b=> by rw[List.nil_append,jZ];omega
 | k::a,b=> by rw[List.cons_append,jZ,jZ,J0 a b];omega
theorem JM: ∀ (a b:List Glob),lQ (a++b)=max (lQ a) (lQ b)
 | [],b=> by rw[List.nil_append,lQ];omega
 | k::a,b=> by rw[List.cons_append,lQ,lQ,JM a b];omega
theorem Su {ks:List Cond} {k:Nat} {x:Cond} (h:ks[k]?=some x):jU (ks.take (k+1))=jU (ks.take k) +sk x∧jZ (ks.take (k+1))=max (jZ (ks.take k)) (iN x)∧jU (ks.take (k+1))≤jU ks:=by
 have e:=cC h
 refine⟨by rw[e,CM,jU,jU];omega,by rw[e,J0,jZ,jZ];omega,?_⟩
 conv=> rhs;rw[←List.take_append_drop (k+1) ks,CM]
 omega
theorem Ss {ks:List Glob} {k:Nat} {x:Glob} (h:ks[k]?=some x):lP (ks.take (k+1))=lP (ks.take k) +zy x∧lQ (ks.take (k+1))=max (lQ (ks.take k)) (lr x)∧lP (ks.take (k+1))≤lP ks:=by
 have e:=cC h
 refine⟨by rw[e,CL,lP,lP];omega,by rw[e,JM,lQ,lQ];omega,?_⟩
 conv=> rhs;rw[←List.take_append_drop (k+1) ks,CL]
 omega
theorem LK {lb:List B} : ∀ {n:Nat} {c:Cond},GI lb n c→sk c < 2^ (n+1)∧iN c≤n+1
 | _,_, .atom n c h=> by
   have:=Nat.one_le_two_pow (n:=n)
   rw[QO,xr,LL h,Nat.pow_succ]
   simp only[jU,jZ]
   omega
 | _,_, .not n k h=> by
   have:=LK h
   rw[sk,iN,Nat.pow_succ]
   simp only[jU,jZ]
   omega
 | _,_, .two n op a b _ h1 h2=> by
   have:=LK h1
   have:=LK h2
   rw[sk,iN,Nat.pow_succ]
   simp only[jU,jZ]
   omega
theorem qaM {lb:List B} {n:Nat} {c:Cond} (h:GC lb n c):sk c < 2^ (n+1)∧iN c≤n+1:=by
 have:=Nat.one_le_two_pow (n:=n)
 cases h with
 | any=> rw[sk,iN,Nat.pow_succ];simp only[jU,jZ];omega
 | top v f h=> rw[sk,iN,Nat.pow_succ];simp only[jU,jZ];omega
 | inner c h=> exact LK h
theorem qaN {lb:List B} {n:Nat} {c k:Cond} (h:GC lb n c) (hk:k∈c.kids): ∃m,m≤n∧GC lb m k:=by
 cases h with
 | any=> cases hk
 | top v f h=> cases hk
 | inner c h=>
   cases h with
   | atom n c h=> rw[LL h] at hk;cases hk
   | not n k' h=>
     simp at hk
     subst hk
     exact⟨n,by omega, .inner _ h⟩
   | two n op a b ho h1 h2=>
     simp at hk
     rcases hk with rfl | rfl
     ·exact⟨n,by omega, .inner _ h1⟩
     ·exact⟨n,by omega, .inner _ h2⟩
theorem qaJ {lb:List B} {n:Nat} {g:Glob} (h:GG lb n g):zy g < 2^ (n+1)∧lr g≤n+1:=by
 induction h with
 | not n k h ih=> rw[zy,lr,Nat.pow_succ];simp only[lP,lQ];omega
 | two n op a b ho h1 h2 ih1 ih2=> rw[zy,lr,Nat.pow_succ];simp only[lP,lQ];omega
 | bound n | val n | same n | dist n | reg n | head n | path n | node n | depth n=> have:=Nat.one_le_two_pow (n:=n);rw[zy,lr,Nat.pow_succ];simp only[lP,lQ];omega
theorem qaK {lb:List B} {n:Nat} {g k:Glob} (h:GG lb n g) (hk:k∈g.kids): ∃m,m≤n∧GG lb m k:=by
 cases h with
 | not n k' h=>
   simp at hk
   subst hk
   exact⟨n,by omega,h⟩
 | two n op a b ho h1 h2=>
   simp at hk
   rcases hk with rfl | rfl
   ·exact⟨n,by omega,h1⟩
   ·exact⟨n,by omega,h2⟩
 | _=> cases hk
end Go.Gv

namespace Go.Gv
open Cod (enc dec)
variable {S S0:Nat→Spc}
def pA {X:Type} (T:X→Option B) (x:X):Prop:= ∃t,T x=some t∧t.size≤rl
abbrev fQ:Spc:=dG (a1 B) (pA na) (enc (X:=B)) fun x y=> na x=some y
theorem qcP {s:B} (h: ¬ (34:UInt8) ∈s.data.toList) {i:Nat} {c:UInt8} (hc:s.data[i]?=some c): ¬c.toNat=34:=by
 intro e
 have:c=34:=UInt8.toNat_inj.1 e
 subst this
 exact h (List.mem_of_getElem? (by rw[Array.getElem?_toList];exact hc))
theorem YS {s:B} {k:Nat} (h:k < s.size):s.extract 0 k++s.extract k (k+1)=s.extract 0 (k+1):=by
 rw[ByteArray.extract_append_extract]
 congr 1 <;> omega
theorem Mp:Walk uw tQ S (a1 B) (pA na) (enc (X:=B)) fun x y=> na x=some y:=by
 rintro s ⟨t,ht,hl⟩
 have hR:=ht
 unfold na at ht
 by_cases hn: (34:UInt8) ∈s.data.toList
 ·rw[if_pos hn] at ht;cases ht
 rw[if_neg hn] at ht
 obtain rfl:=Option.some.inj ht
 simp only[av,ai] at hl
 simp at hl
 have hL:=pj
 simp[uw,tQ]
 refine cy (X:=Nat) [0] [] (fun k=> k≤s.size) (fun k=> [(3,enc (⟨#[34]⟩ ++s.extract 0 k)),(4,enc (k:Int))]) (fun _=> []) (fun k=> s.size -k) 0 (by omega) ?_ (by simp) ?_
 ·simp
 ·intro k hk
  simp[-Bool.forall_bool, -Bool.exists_bool]
  have h34: (⟨#[34]⟩:B).size=1:=rfl
  refine fun hsz=> ⟨fun hlt=> ⟨hlt,fun c hc=> ⟨fun e=> absurd (by omega) (qcP hn hc),fun _=> ⟨by simp only[InR];omega,by omega,by omega,by omega,by simp only[InR];omega,k+1,by omega,⟨?_,by omega⟩,by omega⟩⟩⟩,fun hge=> ⟨by omega,?_⟩⟩
  ·rw[ByteArray.append_assoc,YS hlt]
  ·rw[hR,show k=s.size by omega,ByteArray.extract_zero_size]
abbrev dg:Spc:=dG (a2 B Bool) (pA iy) (enc (X:=B)) fun x y=> iy x=some y
theorem Kg (h1:S bl=fQ):Walk nZ nU S (a2 B Bool) (pA iy) (enc (X:=B)) fun x y=> iy x=some y:=by
 rintro⟨s,fo⟩ ⟨t,ht,hl⟩
 obtain⟨q,hq,ht⟩:=Option.map_eq_some_iff.1 ht
 simp only at hq ht
 have hL:=pj
 cases fo with
 | false=>
   simp at ht
   subst ht
   have hp:pA na s:=⟨q,hq,hl⟩
   simp[nZ,nU,h1,hp,hq,iy, -Bool.forall_bool, -Bool.exists_bool]
 | true=>
   simp at ht
   subst ht
   simp only[av,ai] at hl
   simp at hl
   have hp:pA na s:=⟨q,hq,by omega⟩
   simp[nZ,nU,h1,hp,hq,iy,ai, -Bool.forall_bool, -Bool.exists_bool]
   omega
abbrev cu:Spc:=dG (a2 B Bool) (fun x=> x.1.size≤rl) (enc (X:=B)) fun x y=> y=vd x.2 x.1
theorem Im:Walk qJ qc S (a2 B Bool) (fun x=> x.1.size≤rl) (enc (X:=B)) fun x y=> y=vd x.2 x.1:=by
 rintro⟨s,b⟩ hl
 have hL:=pj
 simp only at hl
 simp[qJ,qc,vd,ai, -Bool.forall_bool, -Bool.exists_bool]
 cases b
 ·simp
 ·simp
  omega
abbrev UJ (n:Nat):Spc:=dG (a1 Int) (fun x=> -10 < x∧x < 10∧(x < 0→2≤n)∧1≤n) (enc (X:=B)) fun x y=> zU x=some y
theorem Ip (n:Nat) (h1:S aN=UJ n):Walk pn o8 S (a1 Int) (fun x=> -10 < x∧x < 10∧(x < 0→2≤n+1)∧1≤n+1) (enc (X:=B)) fun x y=> zU x=some y:=by
 rintro x ⟨h2,h3,h4,h5⟩
 simp[pn,o8,h1,h2,h3, -Bool.forall_bool, -Bool.exists_bool]
 refine⟨fun hx=> ⟨by simp only[InR];omega,⟨by omega,by omega,by omega⟩,fun y hy=> ?_⟩,fun hx=> ⟨by simp only[InR];omega,?_⟩⟩
 ·unfold zU at hy ⊢
  rw[if_pos (by omega)] at hy
  obtain rfl:=Option.some.inj hy
  rw[if_neg (by omega),if_pos (by omega)]
  exact⟨by show 1+1≤_;decide,rfl⟩
 ·have:x=0∨x=1∨x=2∨x=3∨x=4∨x=5∨x=6∨x=7∨x=8∨x=9:=by omega
  rcases this with rfl | rfl | rfl | rfl | rfl | rfl | rfl | rfl | rfl | rfl <;> exact⟨rfl,rfl⟩
end Go.Gv

namespace Go.Gv
open Cod (enc dec)
variable {S S0:Nat→Spc}
theorem uf {α:Type} {sep:B} {par:α→Bool} {f:α→Option B} {i:Nat} {ks:List α} {k:α} (hx:ks[i]?=some k) {r:B} (h:io sep par f i (ks.drop i)=some r):
 ∃t r',f k=some t∧io sep par f (i+1) (ks.drop (i+1))=some r'∧r=((if i=0 then E0 else sep) ++vd (par k) t) ++r':=by
 have hd:ks.drop i=k::ks.drop (i+1):=dv hx
 rw[hd,io] at h
 obtain⟨t,h1,h⟩:=Option.bind_eq_some_iff.1 h
 obtain⟨r',h2,h⟩:=Option.map_eq_some_iff.1 h
 exact⟨t,r',h1,h2,h.symm⟩
theorem zB (b:Bool) (t:B):t.size≤(vd b t).size:=by
 unfold vd
 split
 ·rw[av,av];omega
 ·exact Nat.le_refl _
abbrev rH (n:Nat):Spc:=dG (a1 Cond) (pA (dm n)) (enc (X:=B)) fun x y=> dm n x=some y
theorem Ea (n:Nat) (h1:S a7=dg) (h2:S bl=fQ) (h3:S aW=cu) (h4:S b9=rH n):
 Walk cg ca S (a1 Cond) (pA (dm (n+1))) (enc (X:=B)) fun x y=> dm (n+1) x=some y:=by
 rintro⟨op,name,arg,val,lab,fold,kids⟩ ⟨t,ht,hl⟩
 have hL:=pj
 have hR:=ht
 rw[dm] at ht
 unfold nI at ht
 simp only at ht
 have fin: ∀ {u:B},u=t→dm (n+1) ⟨op,name,arg,val,lab,fold,kids⟩=some u:=fun h=> by rw[h];exact hR
 split at ht
 ·rename_i e
  subst e
  obtain rfl:=Option.some.inj ht
  simp[cg,ca, -Bool.forall_bool, -Bool.exists_bool]
  exact fin rfl
 rename_i n1
 split at ht
 ·rename_i e
  subst e
  obtain⟨q,hq,ht⟩:=Option.map_eq_some_iff.1 ht
  by_cases hn:name=E0
  ·rw[if_pos hn] at ht
   subst ht
   subst hn
   have hp:pA iy (val,fold):=⟨q,hq,hl⟩
   simp[cg,ca,h1,hp,hq,E0, -Bool.forall_bool, -Bool.exists_bool]
   exact fin rfl
  ·rw[if_neg hn] at ht
   subst ht
   simp only[av,ai] at hl
   simp at hl
   have hn': ¬name=⟨#[]⟩:=hn
   have hp:pA iy (val,fold):=⟨q,hq,by omega⟩
   simp[cg,ca,h1,hp,hq,hn',ai, -Bool.forall_bool, -Bool.exists_bool]
   repeat' first | exact hR | exact fin rfl | apply And.intro | omega
 rename_i n2
 split at ht
 ·rename_i e
  subst e
  obtain⟨q,hq,ht⟩:=Option.map_eq_some_iff.1 ht
  subst ht
  simp only[av,ai] at hl
  simp at hl
  have hp:pA na val:=⟨q,hq,by omega⟩
  simp[cg,ca,h2,hp,hq,ai, -Bool.forall_bool, -Bool.exists_bool]
  repeat' first | exact hR | exact fin rfl | apply And.intro | omega
 rename_i n3
 split at ht
 ·rename_i e
  subst e
  obtain rfl:=Option.some.inj ht
  simp only[av,ai] at hl
  simp at hl
  simp[cg,ca,ai, -Bool.forall_bool, -Bool.exists_bool]
  repeat' first | exact hR | exact fin rfl | apply And.intro | omega
 rename_i n4
 split at ht
 ·rename_i e
  subst e
  unfold Yi at ht
  simp only at ht
  by_cases hn:arg=E0
  ·rw[if_pos hn] at ht
   obtain rfl:=Option.some.inj ht
   subst hn
   simp only[av,ai] at hl
   simp at hl
   simp[cg,ca,ai,E0, -Bool.forall_bool, -Bool.exists_bool]
   repeat' first | exact hR | exact fin rfl | apply And.intro | omega
  ·rw[if_neg hn] at ht
   obtain⟨q,hq,ht⟩:=Option.map_eq_some_iff.1 ht
   subst ht
   simp only[av,ai] at hl
   simp at hl
   have hn': ¬arg=⟨#[]⟩:=hn
   have hp:pA na val:=⟨q,hq,by omega⟩
   simp[cg,ca,h2,hp,hq,hn',ai, -Bool.forall_bool, -Bool.exists_bool]
   repeat' first | exact hR | exact fin rfl | apply And.intro | omega
 rename_i n5
 split at ht
 ·rename_i e
  subst e
  unfold qav at ht
  split at ht
  ·rename_i k
   obtain⟨q,hq,ht⟩:=Option.map_eq_some_iff.1 ht
   subst ht
   have hi:=zB (decide (k.op=7) || decide (k.op=8)) q
   rw[av,ai] at hl
   simp at hl
   have hp:pA (dm n) k:=⟨q,hq,by omega⟩
   simp[cg,ca,h3,h4,hp,hq,ai, -Bool.forall_bool, -Bool.exists_bool]
   refine⟨fun h7=> ?_,fun h7=> ?_⟩
   ·have e: (decide (k.op=7) || decide (k.op=8))=decide (k.op=8):=by simp[h7]
    rw[e] at hl hR hi
    exact⟨by omega,by omega,hR⟩
   ·have e: (decide (k.op=7) || decide (k.op=8))=true:=by simp[h7]
    rw[e] at hl hR hi
    exact⟨by omega,by omega,hR⟩
  ·cases ht
 rename_i n6
 split at ht
 ·rename_i h78
  simp[cg,ca,n1,n2,n3,n4,n5,n6, -Bool.forall_bool, -Bool.exists_bool]
  intro hkl
  have hop:rf (op=7)=(⟨#[32]⟩ ++ ⟨#[if op=7 then 38 else 124]⟩) ++ ⟨#[32]⟩:=by rcases h78 with rfl | rfl <;> decide
  have hsz: (rf (op=7)).size=3:=by rcases h78 with rfl | rfl <;> decide
  refine aO (X:=B×B) [1,92] [] kids.length (fun k x=> io (rf (op=7)) (Eo op) (dm n) k (kids.drop k)=some x.2∧x.1++x.2=t) (fun x=> [(3,enc x.1)]) (fun _=> []) (E0,t) (by simp) (by simp) (by omega) (by simp) (by simp) ?_ (by simp[E0]) (by simp) ?_ ?_
  ·exact⟨ht,by simp[E0,d7]⟩
  ·rintro k ⟨acc,r⟩ hk ⟨q1,q2⟩
   simp only at q1 q2
   obtain⟨x,hx⟩:=cP hk
   obtain⟨_,hgx⟩:=List.getElem?_eq_some_iff.1 hx
   obtain⟨tk,r',c1,c2,rfl⟩:=uf hx q1
   have hi:=zB (Eo op x) tk
   rw[←q2] at hl
   simp only[av] at hl
   have hp:pA (dm n) x:=⟨tk,c1,by omega⟩
   simp[h3,h4,hk,hx,hgx,hp,c1,ai, -Bool.forall_bool, -Bool.exists_bool]
   clear h1 h2 h3 h4 hop
   have hm:min (op -7+1).toNat 2 - (op -7).toNat=1:=by rcases h78 with rfl | rfl <;> rfl
   have hx7: (⟨#[32]⟩:B) ++ (⟨#[38,124]⟩:B).extract (op -7).toNat (op -7+1).toNat++ ⟨#[32]⟩=rf (op=7):=by rcases h78 with rfl | rfl <;> decide
   rw[hm,hx7]
   have key: ∀ (b:Bool) (s0:B),b=Eo op x→s0=acc++ (if k=0 then E0 else rf (op=7))→tk.size≤rl∧s0.size+ (vd b tk).size≤1000000000∧
    ∃y,io (rf (op=7)) (Eo op) (dm n) (k+1) (List.drop (k+1) kids)=some y∧s0++vd b tk++y=t:=by
    rintro b s0 rfl rfl
    refine⟨by omega,by rw[av];omega,r',c2,?_⟩
    rw[←q2]
    simp only[ByteArray.append_assoc]
   refine⟨fun hk0=> ⟨by simp only[InR];omega,by simp only[InR];omega,by omega,by omega,by omega,by omega,by omega,?_,?_⟩,fun hk0=> ?_⟩
   ·rw[if_neg (by omega),hsz] at hl;omega
   ·have ks:=fun b e=> key b (acc++rf (op=7)) e (by rw[if_neg (by omega)])
    simp only[av,hsz] at ks
    exact⟨fun h8=> ⟨fun h7=> ks _ (by simp[Eo,h7,h8]),fun h7=> ks _ (by simp[Eo,h7,h8])⟩,fun h8=> ks _ (by simp[Eo,h8])⟩
   ·have ks:=fun b e=> key b acc e (by rw[if_pos hk0,E0,cQ])
    exact⟨fun h8=> ⟨fun h7=> ks _ (by simp[Eo,h7,h8]),fun h7=> ks _ (by simp[Eo,h7,h8])⟩,fun h8=> ks _ (by simp[Eo,h8])⟩
  ·rintro⟨acc,r⟩ ⟨q1,q2⟩
   simp only at q1 q2
   rw[List.drop_length,io] at q1
   obtain rfl:=Option.some.inj q1
   simp
   exact fin (by rw[←q2];simp[E0,cQ])
 ·cases ht
end Go.Gv
