/- A part of the framework and of the walks: Asm6 T30 C6 W94. -/
import Derived.Test.YtaiffcbkmgfklaaGreatDoorGs32
import Derived.Test.YtaiffcbkmgfklaaGreatDoorGs35
import Derived.Test.YtaiffcbkmgfklaaGreatDoorGs31
import Derived.Test.YtaiffcbkmgfklaaGreatDoorGs21
import Derived.Test.YtaiffcbkmgfklaaGreatDoorGs33
import Derived.Test.YtaiffcbkmgfklaaGreatDoorGs17
set_option maxRecDepth 100000
set_option linter.unusedVariables false
set_option linter.unusedSimpArgs false
set_option linter.unusedSectionVars false

namespace Go.Gv
open Go.Proofs Cod
theorem Kk {z:List PanicEntry→Prop} {P:Program} {g:Nat} {Y Z:Type} {A:lB Z} {er:Y→D} {f:Int×Int} {F:Rdr→Z→Out (Rdr×Y)} (hx: ∀s z,F s z= .no):TriZ z P g (z7 A er f F).pt:=fun O tp w vs ds H d K _ _ _ _ _ ⟨id,b,x,z,ds',h1,h2,h3,h4,h5,hp,h7⟩=> by
 have hp: (F x z).fine f:=hp
 rw[hx] at hp
 exact hp.elim
theorem th:Tri Tryz.prog eg s_trimLeftByte.pt:=ak (S:=cj []) (ap ah) sR (fun _=> Nat.le_of_ble_eq_true rfl) tc
theorem yD:Tri Tryz.prog gk s_trimLeft.pt:=ak (S:=cj [(eg,s_trimLeftByte)]) (ap (ac th ah)) xJ (fun _=> Nat.le_of_ble_eq_true rfl) (yw rfl)
theorem yg:Tri Tryz.prog fZ s_globs.pt:=ak (S:=cj []) (ap ah) FP (fun _=> Nat.le_of_ble_eq_true rfl) Wo
theorem sD:Tri Tryz.prog bt s_function.pt:=ak (S:=cj []) (ap ah) Ai (fun _=> Nat.le_of_ble_eq_true rfl) AY
theorem nk:Tri Tryz.prog bY s_qstrats.pt:=ak (S:=cj []) (ap ah) tU (fun _=> Nat.le_of_ble_eq_true rfl) QN
theorem km (f:Int×Int):TriZ (zF ax f) Tryz.prog bk (qk f).pt:=
 bU (S:=cj [(dW,Bd f)]) (jN (NY (Kn ax f) gf)) uW (fun _=> Nat.le_of_ble_eq_true rfl) rfl (by intro g hg;cases hg) (QT rfl)
theorem cv (f:Int×Int):TriZ (zF ax f) Tryz.prog ai (fN f).pt:=
 bU (S:=cj [(af,cb),(bk,qk f)]) (jN (aB (Tri.z aY) rfl (aB (km f) rfl gf))) wc (fun _=> Nat.le_of_ble_eq_true rfl) rfl (by intro g hg;cases hg) (SD rfl rfl)
theorem eA (f:Int×Int):TriZ (zF ax f) Tryz.prog aF (kK f).pt:=
 bU (S:=cj [(a8,pS),(bk,qk f)]) (jN (aB (Tri.z ij) rfl (aB (km f) rfl gf))) vZ (fun _=> Nat.le_of_ble_eq_true rfl) rfl (by intro g hg;cases hg) (SB rfl rfl)
theorem fM (f:Int×Int):TriZ (zF ax f) Tryz.prog av (mP f).pt:=
 bU (S:=cj [(aF,kK f)]) (jN (aB (eA f) rfl gf)) wb (fun _=> Nat.le_of_ble_eq_true rfl) rfl (by intro g hg;cases hg) (SC rfl)
theorem wU (f:Int×Int):TriZ (zF ax f) Tryz.prog dY (E8 f).pt:=
 bU (S:=cj [(ai,fN f),(av,mP f)]) (jN (aB (cv f) rfl (aB (fM f) rfl gf))) uZ (fun _=> Nat.le_of_ble_eq_true rfl) rfl (by intro g hg;cases hg) (QX rfl rfl)
theorem nr (f:Int×Int):TriZ (zF ax f) Tryz.prog bZ (sL f).pt:=
 bU (S:=cj [(dW,Bd f),(aF,kK f),(gk,s_trimLeft)]) (jN (NY (Kn ax f) (aB (eA f) rfl (aB (Tri.z yD) rfl gf)))) tX (fun _=> Nat.le_of_ble_eq_true rfl) rfl (by intro g hg;cases hg) (NV rfl rfl rfl)
theorem qJ (f:Int×Int):TriZ (zF ax f) Tryz.prog cq (E9 f).pt:=
 bU (S:=cj [(bZ,sL f)]) (jN (aB (nr f) rfl gf)) xP (fun _=> Nat.le_of_ble_eq_true rfl) rfl (by intro g hg;cases hg) (Wt rfl)
theorem vh (f:Int×Int):TriZ (zF ax f) Tryz.prog dI (Bj f).pt:=
 bU (S:=cj [(af,cb),(cq,E9 f)]) (jN (aB (Tri.z aY) rfl (aB (qJ f) rfl gf))) tV (fun _=> Nat.le_of_ble_eq_true rfl) rfl (by intro g hg;cases hg) (NU rfl rfl)
theorem ye (f:Int×Int):TriZ (zF ax f) Tryz.prog fL (J8 f).pt:=
 bU (S:=cj [(af,cb),(av,mP f),(ai,fN f),(aF,kK f),(br,tq),(a8,pS),(bE,tr)]) (jN (aB (Tri.z aY) rfl (aB (fM f) rfl (aB (cv f) rfl (aB (eA f) rfl (aB (Tri.z kW) rfl (aB (Tri.z ij) rfl (aB (Tri.z kX) rfl gf)))))))) wi (fun _=> Nat.le_of_ble_eq_true rfl) rfl (by intro g hg;cases hg) (SH rfl rfl rfl rfl rfl rfl rfl)
theorem qbU {f:Int×Int} {N:Rdr→Out (Rdr×Cond)} (h:TriZ (zF ax f) Tryz.prog bW (yP f N).pt):TriZ (zF ax f) Tryz.prog eL (Oh f N).pt:=
 bU (S:=cj [(af,cb),(bW,yP f N),(f0,zV)]) (jN (aB (Tri.z aY) rfl (aB h rfl (aB (Tri.z yi) rfl gf)))) xQ (fun _=> Nat.le_of_ble_eq_true rfl) rfl (by intro g hg;cases hg) (Wu N rfl rfl rfl)
theorem qbS {f:Int×Int} {N:Rdr→Out (Rdr×Cond)} (h:TriZ (zF ax f) Tryz.prog bW (yP f N).pt):TriZ (zF ax f) Tryz.prog dA (PB f N).pt:=
 bU (S:=cj [(af,cb),(eL,Oh f N),(f0,zV)]) (jN (aB (Tri.z aY) rfl (aB (qbU h) rfl (aB (Tri.z yi) rfl gf)))) yZ (fun _=> Nat.le_of_ble_eq_true rfl) rfl (by intro g hg;cases hg) (YJ N rfl rfl rfl)
theorem U6 (f:Int×Int): ∀n,TriZ (zF ax f) Tryz.prog bW (yP f (dm n)).pt
 | 0=> Kk fun _ _=> rfl
 | n+1=> bU (S:=cj [(af,cb),(bW,yP f (dm n)),(ai,fN f),(dA,PB f (dm n)),(fL,J8 f)]) (jN (aB (Tri.z aY) rfl (aB (U6 f n) rfl (aB (cv f) rfl (aB (qbS (U6 f n)) rfl (aB (ye f) rfl gf)))))) xN (fun _=> Nat.le_of_ble_eq_true rfl) rfl (by intro g hg;cases hg) (Wr (dm n) rfl rfl rfl rfl rfl)
theorem Yi (f:Int×Int): ∀n,TriZ (zF ax f) Tryz.prog dg (Fa f (iy n)).pt
 | 0=> Kk fun _ _=> rfl
 | n+1=>
   have h0:TriZ (zF ax f) Tryz.prog dX (E5 f (orE (dm (n+1)))).pt:=bU (S:=cj [(af,cb),(aM,mN),(ai,fN f),(dA,PB f (dm (n+1))),(aF,kK f),(bE,tr)]) (jN (aB (Tri.z aY) rfl (aB (Tri.z fD) rfl (aB (cv f) rfl (aB (qbS (U6 f (n+1))) rfl (aB (eA f) rfl (aB (Tri.z kX) rfl gf))))))) uX (fun _=> Nat.le_of_ble_eq_true rfl) rfl (by intro g hg;cases hg) (QU _ rfl rfl rfl rfl rfl rfl)
   have h1:TriZ (zF ax f) Tryz.prog fJ (J6 f (iy n) (orE (dm (n+1)))).pt:=bU (S:=cj [(af,cb),(av,mP f),(ai,fN f),(dX,E5 f (orE (dm (n+1)))),(dg,Fa f (iy n))]) (jN (aB (Tri.z aY) rfl (aB (fM f) rfl (aB (cv f) rfl (aB h0 rfl (aB (Yi f n) rfl gf)))))) we (fun _=> Nat.le_of_ble_eq_true rfl) rfl (by intro g hg;cases hg) (SE _ _ rfl rfl rfl rfl rfl)
   have h2:TriZ (zF ax f) Tryz.prog eK (Og f (iy n) (orE (dm (n+1)))).pt:=bU (S:=cj [(dW,Bd f),(af,cb),(fJ,J6 f (iy n) (orE (dm (n+1)))),(bZ,sL f),(ai,fN f),(aM,mN)]) (jN (NY (Kn ax f) (aB (Tri.z aY) rfl (aB h1 rfl (aB (nr f) rfl (aB (cv f) rfl (aB (Tri.z fD) rfl gf))))))) xM (fun _=> Nat.le_of_ble_eq_true rfl) rfl (by intro g hg;cases hg) (Wq _ _ rfl rfl rfl rfl rfl rfl)
   have h3:TriZ (zF ax f) Tryz.prog eJ (Of f (iy n) (orE (dm (n+1)))).pt:=bU (S:=cj [(eE,Bb),(eK,Og f (iy n) (orE (dm (n+1)))),(dZ,qj)]) (jN (aB (Tri.z uT) rfl (aB h2 rfl (aB (Tri.z sE) rfl gf)))) xL (fun _=> Nat.le_of_ble_eq_true rfl) rfl (by intro g hg;cases hg) (Wp _ _ rfl rfl rfl)
   bU (S:=cj [(af,cb),(eJ,Of f (iy n) (orE (dm (n+1)))),(dZ,qj)]) (jN (aB (Tri.z aY) rfl (aB h3 rfl (aB (Tri.z sE) rfl gf)))) xR (fun _=> Nat.le_of_ble_eq_true rfl) rfl (by intro g hg;cases hg) (Wv _ _ rfl rfl rfl)
theorem so (f:Int×Int):TriZ (zF ax f) Tryz.prog dL (J9 f).pt:=
 bU (S:=cj [(af,cb),(ai,fN f),(aF,kK f),(dY,E8 f),(cq,E9 f),(dI,Bj f)]) (jN (aB (Tri.z aY) rfl (aB (cv f) rfl (aB (eA f) rfl (aB (wU f) rfl (aB (qJ f) rfl (aB (vh f) rfl gf))))))) rm (fun _=> Nat.le_of_ble_eq_true rfl) rfl (by intro g hg;cases hg) (HV rfl rfl rfl rfl rfl rfl)
theorem wT (f:Int×Int):TriZ (zF ax f) Tryz.prog fc (E7 f).pt:=
 bU (S:=cj [(af,cb),(av,mP f),(ai,fN f),(aF,kK f),(bE,tr),(bt,s_function),(dL,J9 f)]) (jN (aB (Tri.z aY) rfl (aB (fM f) rfl (aB (cv f) rfl (aB (eA f) rfl (aB (Tri.z kX) rfl (aB (Tri.z sD) rfl (aB (so f) rfl gf)))))))) uY (fun _=> Nat.le_of_ble_eq_true rfl) rfl (by intro g hg;cases hg) (QW rfl rfl rfl rfl rfl rfl rfl)
theorem ZC {f:Int×Int} {N:Rdr→Out (Rdr×Glob)} (h:TriZ (zF ax f) Tryz.prog bN (tz f N).pt):TriZ (zF ax f) Tryz.prog ez (J7 f N).pt:=
 bU (S:=cj [(af,cb),(bN,tz f N),(fZ,s_globs)]) (jN (aB (Tri.z aY) rfl (aB h rfl (aB (Tri.z yg) rfl gf)))) wg (fun _=> Nat.le_of_ble_eq_true rfl) rfl (by intro g hg;cases hg) (SG N rfl rfl rfl)
theorem Yh {f:Int×Int} {N:Rdr→Out (Rdr×Glob)} (h:TriZ (zF ax f) Tryz.prog bN (tz f N).pt):TriZ (zF ax f) Tryz.prog df (E6 f N).pt:=
 bU (S:=cj [(af,cb),(ez,J7 f N),(fZ,s_globs)]) (jN (aB (Tri.z aY) rfl (aB (ZC h) rfl (aB (Tri.z yg) rfl gf)))) xO (fun _=> Nat.le_of_ble_eq_true rfl) rfl (by intro g hg;cases hg) (Ws N rfl rfl rfl)
theorem O7 (f:Int×Int): ∀n,TriZ (zF ax f) Tryz.prog bN (tz f (fa n)).pt
 | 0=> Kk fun _ _=> rfl
 | n+1=> bU (S:=cj [(af,cb),(bN,tz f (fa n)),(ai,fN f),(df,E6 f (fa n)),(fc,E7 f)]) (jN (aB (Tri.z aY) rfl (aB (O7 f n) rfl (aB (cv f) rfl (aB (Yh (O7 f n)) rfl (aB (wT f) rfl gf)))))) wf (fun _=> Nat.le_of_ble_eq_true rfl) rfl (by intro g hg;cases hg) (SF (fa n) rfl rfl rfl rfl rfl)
theorem wS (f:Int×Int):TriZ (zF ax f) Tryz.prog bR (sK f 500).pt:=
 bU (S:=cj [(a8,pS),(dg,Fa f (iy 500)),(af,cb),(aM,mN),(br,tq),(b5,oz),(df,E6 f (fa 500)),(bX,mO),(bk,qk f),(av,mP f),(bY,s_qstrats)]) (jN (aB (Tri.z ij) rfl (aB (Yi f 500) rfl (aB (Tri.z aY) rfl (aB (Tri.z fD) rfl (aB (Tri.z kW) rfl (aB (Tri.z kY) rfl (aB (Yh (O7 f 500)) rfl (aB (Tri.z nl) rfl (aB (km f) rfl (aB (fM f) rfl (aB (Tri.z nk) rfl gf)))))))))))) tW (fun _=> Nat.le_of_ble_eq_true rfl) rfl (by intro g hg;have hg:g∈ [b5]:=hg;simp at hg;subst hg;exact⟨by decide,kY⟩) (QV 500 rfl rfl rfl rfl rfl rfl rfl rfl rfl rfl rfl)
theorem vx:Tri Tryz.prog eW s_eParse.pt:=ER wS
end Go.Gv

namespace Go.Gv
section
variable {α β:Type} {F0:Option β} {K:α→Prop}
end
section
variable {Y Z:Type}
end
section
variable {β:Type} {F0:Option β} {K:Bool→Prop}
end
section
variable {β:Type} {F0:Option β} {K:Pst×Int→Prop}
end
end Go.Gv

namespace Go.Gv
open Go.Proofs
-- r23_scan while id=0: live [0:s, 3:out, 4:i] changed [3, 4] res [83, 121, 147, 200]
-- r23_scan while id=0: live [0:s, 3:out, 4:i] changed [4] res [83, 121, 147, 200]
-- r23_scan while id=0: live [0:s, 3:out, 4:i, 5:j] changed [5] res [83, 121, 147, 200]
-- r23_scan while id=0: live [0:s, 3:out, 4:i, 5:j] changed [5] res [83, 121, 147, 200]
-- r23_scan while id=0: live [0:s, 3:out, 4:i, 5:j, 6:v, 7:closed] changed [5, 6, 7] res [83, 121, 147, 200]
-- r23_scan range i=40 n=39 c=41 i2=66 id=5: live [0:s, 3:out, 4:i, 5:j, 38:] changed [5] res [83, 121, 147, 200]
-- r23_parser_word while id=0: live [0:p, 1:l, 7:i] changed [7] res [0]
def qL:CC:=oX [oB 0 (.mv (.const on))] [] [] (oX [oB 1 (.bslice az 1 [oS ⟨#[]⟩,oS ⟨#[119,105,116,104,105,110]⟩,oS ⟨#[99,111,110,116,97,105,110,105,110,103]⟩,oS ⟨#[111,118,101,114,108,97,112,112,105,110,103]⟩]),oA 0 1] [0] [] (.ret))
def qm:List aK:= [.tmp 0]
def Ge:List Nat:= []
theorem FB:aS Tryz.prog lI Ge qL qm 2:=aA ay (by kernel_rfl)
def nb:CC:=oX [oB 0 (.mv (.const on))] [] [] (oX [oB 1 (.bslice az 1 [oS ⟨#[101,97,99,104]⟩,oS ⟨#[115,104,111,114,116,101,115,116]⟩,oS ⟨#[108,111,110,103,101,115,116]⟩,oS ⟨#[116,114,97,100,105,116,105,111,110,97,108]⟩]),oA 0 1] [0] [] (.ret))
def mQ:List aK:= [.tmp 0]
def Ap:List Nat:= []
theorem Af:aS Tryz.prog iv Ap nb mQ 2:=aA ay (by kernel_rfl)
-- r23_Parse while id=0: live [2:, 5:p, 6:q] changed [] res [2, 6, 16, 55]
end Go.Gv

namespace Go.Gv
open Cod (enc dec)
variable {S S0:Nat→Spc}
end Go.Gv
