/- A part of the framework and of the walks: Asm22 Fr Fr2 Fr3 V32 Fr4. -/
import Derived.WalkKit
import Derived.ProofKit
import Derived.OpenShut
import Derived.ShutString
import Derived.ChangeOld
import Derived.Below
import Derived.Test.YticbieanhfdnoaaGreatDoorGb24
import Derived.Test.YticbieanhfdnoaaGreatDoorGb34
import Derived.Test.YticbieanhfdnoaaGreatDoorGb35
import Derived.Test.YticbieanhfdnoaaGreatDoorGb39
import Derived.Test.YticbieanhfdnoaaGreatDoorGb40
import Derived.Test.YticbieanhfdnoaaGreatDoorGb20
import Derived.Test.YticbieanhfdnoaaGreatDoorGb18
set_option linter.unusedSimpArgs false
set_option linter.unusedVariables false
set_option maxRecDepth 100000

namespace Go.Gv
open Go.Proofs Cod
theorem yr {P:Program} {f:Nat} {A:Nat→PT} {A':PT} (h: ∀n,Tri P f (A n)) (hs: ∀d ds H K,A' d ds H K→ ∃n,A n d ds H K):Tri P f A':=
 fun O tp w vs ds H d K a b c e g hA=> (hs d ds H K hA).elim fun n hn=> h n O tp w vs ds H d K a b c e g hn
theorem yq {P:Program} {f:Nat} {A:PT} (hs: ∀d ds H K,¬A d ds H K):Tri P f A:=fun O tp w vs ds H d K a b c e g hA=> absurd hA (hs d ds H K)
theorem yF {X Y:Type} {A:gq X} {pre:Nat→X→Prop} {pre':X→Prop} {er:Y→D} {post:X→Y→Prop} (hx: ∀x,pre' x→ ∃n,pre n x): ∀d ds H K,(cz A pre' er post).pt d ds H K→ ∃n,(cz A (pre n) er post).pt d ds H K:=by
 intro d ds H K h
 rw[oR] at h
 cases e:A.dec ds with
 | none=> rw[e] at h;exact h.elim
 | some x=>
   rw[e] at h
   obtain⟨h1,h2⟩:=h
   obtain⟨n,hn⟩:=hx x h1
   exact⟨n,by rw[oR,e];exact⟨hn,h2⟩⟩
theorem kN {P:Program} {f:Nat} {X Y:Type} {A:gq X} {pre:X→Prop} {er:Y→D} {post:X→Y→Prop} (hx: ∀x,¬pre x):Tri P f (cz A pre er post).pt:=yq fun d ds H K h=> by
 rw[oR] at h
 cases e:A.dec ds with
 | none=> rw[e] at h;exact h.elim
 | some x=> rw[e] at h;exact hx x h.1
theorem Cm {P:Program} {f:Nat} {Y Z:Type} {A:gq Z} {er:Y→D} :Tri P f (Mu A er fun _ _=> none).pt:=yq fun d ds H K h=> by
 obtain⟨id,b',x,z,ds',h1,h2,h3,h4,h5,⟨r,h6⟩,h7⟩:=h
 cases h6
theorem MR {P:Program} {f:Nat} :Tri P f (N5 fun _ _ _=> none).pt:=yq fun d ds H K h=> by
 obtain⟨id',b',x,n',k,r,d0',h1,h2,h3,h4,h5⟩:=h
 cases h4
theorem PF {p:Cond} (h:dH p≤0):False:=by rw[yb] at h;omega
theorem LX:Tri Tryz.prog jN (wa).pt:=
 ac (S:=bB [(iN,s_m_Mod)]) (ah (ab Cs ae)) BA (fun _=> Nat.le_of_ble_eq_true rfl) (Iz rfl)
theorem qd: ∀n,Tri Tryz.prog bZ (sU n).pt
 | 0=> kN fun x h=> by have:=h.1;omega
 | n+1=> ac (S:=bB [(ag,s_m_Next),(jN,wa),(bZ,sU n)]) (ah (ab eH (ab LX (ab (qd n) ae)))) xv (fun _=> Nat.le_of_ble_eq_true rfl) (F2 n rfl rfl rfl)
theorem Am:Tri Tryz.prog bZ (qN).pt:=yr (fun n=> qd n) (yF (fun x h=> h))
theorem A9:Tri Tryz.prog fX (wb).pt:=
 ac (S:=bB [(ag,s_m_Next),(bZ,qN)]) (ah (ab eH (ab Am ae))) zo (fun _=> Nat.le_of_ble_eq_true rfl) (IA rfl rfl)
theorem vD:Tri Tryz.prog dA (xY).pt:=
 ac (S:=bB []) (ah ae) tm (fun _=> Nat.le_of_ble_eq_true rfl) (un)
theorem wN:Tri Tryz.prog dR (s_cpFold1).pt:=II (S:=bB [(dA,xY)]) (ah (ab vD ae)) rfl
theorem wO:Tri Tryz.prog dS (Gz).pt:=
 ac (S:=bB []) (ah ae) uV (fun _=> Nat.le_of_ble_eq_true rfl) (vT)
theorem tY:Tri Tryz.prog dY (GJ).pt:=
 ac (S:=bB [(dS,Gz)]) (ah (ab wO ae)) sq (fun _=> Nat.le_of_ble_eq_true rfl) (sQ rfl)
theorem wJ:Tri Tryz.prog bM (GB).pt:=
 ac (S:=bB [(dY,GJ)]) (ah (ab tY ae)) uM (fun _=> Nat.le_of_ble_eq_true rfl) (vL rfl)
theorem iJ:Tri Tryz.prog ba (GD).pt:=
 ac (S:=bB [(bM,GB)]) (ah (ab wJ ae)) io (fun _=> Nat.le_of_ble_eq_true rfl) (Ay rfl)
theorem ld:Tri Tryz.prog aQ (Gy).pt:=
 ac (S:=bB [(ba,GD)]) (ah (ab iJ ae)) kj (fun _=> Nat.le_of_ble_eq_true rfl) (Aw rfl)
theorem vv:Tri Tryz.prog ez (y7).pt:=
 ac (S:=bB []) (ah ae) ta (fun _=> Nat.le_of_ble_eq_true rfl) (Cj)
theorem xS:Tri Tryz.prog fS (CB).pt:=
 ac (S:=bB [(ez,y7)]) (ah (ab vv ae)) wl (fun _=> Nat.le_of_ble_eq_true rfl) (F4 rfl)
theorem ot:Tri Tryz.prog bT (MW).pt:=
 ac (S:=bB [(fS,CB),(aQ,Gy)]) (ah (ab xS (ab ld ae))) nB (fun _=> Nat.le_of_ble_eq_true rfl) (nS rfl rfl)
theorem ox:Tri Tryz.prog bT (DB).pt:=Gg ot rfl (fun _=> Lr (fun _ h=> by cases h))
theorem Al:Tri Tryz.prog gG (yL).pt:=
 Gb (S:=bB [(bT,DB)]) (ah (ab ox ae)) xp (fun _=> Nat.le_of_ble_eq_true rfl) (yd rfl)
theorem FC:Tri Tryz.prog jh (Gr).pt:=
 ac (S:=bB []) (ah ae) CH (fun _=> Nat.le_of_ble_eq_true rfl) (DN)
theorem cy:Tri Tryz.prog ai (fm).pt:=
 ek (S:=bB [(aF,s_decR)]) (ah (ab uu ae)) qW (fun _=> Nat.le_of_ble_eq_true rfl) (B8 rfl)
theorem sB:Tri Tryz.prog dE (Ct).pt:=
 ek (S:=bB [(aF,s_decR)]) (ah (ab uu ae)) qV (fun _=> Nat.le_of_ble_eq_true rfl) (B7 rfl)
theorem iK:Tri Tryz.prog bb (uG).pt:=
 ek (S:=bB [(ai,fm),(dE,Ct)]) (ah (ab cy (ab sB ae))) mX (fun _=> Nat.le_of_ble_eq_true rfl) (ud rfl rfl)
theorem qz:Tri Tryz.prog cE (Gs).pt:=
 ek (S:=bB [(ai,fm),(bj,s_crune),(bb,uG)]) (ah (ab cy (ab qI (ab iK ae)))) pj (fun _=> Nat.le_of_ble_eq_true rfl) (ye rfl rfl rfl)
theorem rN:Tri Tryz.prog dr (Gt).pt:=
 ek (S:=bB [(ai,fm),(cE,Gs),(gG,yL)]) (ah (ab cy (ab qz (ab Al ae)))) qi (fun _=> Nat.le_of_ble_eq_true rfl) (AC rfl rfl rfl)
theorem sC:Tri Tryz.prog dF (Cu).pt:=
 ek (S:=bB [(ai,fm),(jh,Gr),(dr,Gt),(bj,s_crune),(bb,uG)]) (ah (ab cy (ab FC (ab rN (ab qI (ab iK ae)))))) qX (fun _=> Nat.le_of_ble_eq_true rfl) (B9 rfl rfl rfl rfl rfl)
theorem qx:Tri Tryz.prog cW (Gq).pt:=
 ek (S:=bB [(ai,fm),(dF,Cu)]) (ah (ab cy (ab sC ae))) pi (fun _=> Nat.le_of_ble_eq_true rfl) (yc rfl rfl)
theorem qA:Tri Tryz.prog cX (Gu).pt:=
 ek (S:=bB [(ai,fm),(cW,Gq)]) (ah (ab cy (ab qx ae))) pk (fun _=> Nat.le_of_ble_eq_true rfl) (yf rfl rfl)
theorem rM:Tri Tryz.prog cL (Gp).pt:=
 ek (S:=bB [(ai,fm),(cX,Gu)]) (ah (ab cy (ab qA ae))) qh (fun _=> Nat.le_of_ble_eq_true rfl) (Az rfl rfl)
theorem rL: ∀n,Tri Tryz.prog dO (N5 (lj n)).pt
 | 0=> MR
 | n+1=> F9 (S:=bB [(dO,N5 (lj n))]) (ah (ab (rL n) ae)) zh (by decide) (AA n rfl)
theorem wI:Tri Tryz.prog eZ (yH).pt:=
 ac (S:=bB []) (ah ae) uL (fun _=> Nat.le_of_ble_eq_true rfl) (vK)
theorem vt:Tri Tryz.prog eq (v7).pt:=
 ac (S:=bB [(eZ,yH)]) (ah (ab wI ae)) sW (fun _=> Nat.le_of_ble_eq_true rfl) (ub rfl)
theorem lS: ∀n,Tri Tryz.prog bY (me n).pt
 | 0=> kN fun x h=> by cases h
 | n+1=> ac (S:=bB [(eq,v7),(bY,me n)]) (ah (ab vt (ab (lS n) ae))) sf (fun _=> Nat.le_of_ble_eq_true rfl) (sL n rfl rfl)
theorem mQ: ∀n,Tri Tryz.prog cA (yK n).pt
 | 0=> kN fun x h=> by obtain⟨m,h⟩:=h;cases h
 | n+1=> ac (S:=bB [(cA,yK n)]) (ah (ab (mQ n) ae)) sX (fun _=> Nat.le_of_ble_eq_true rfl) (uc n rfl)
theorem ou:Tri Tryz.prog cM (yJ).pt:=
 ac (S:=bB [(dO,N5 (lj 50)),(bY,me 50),(cA,yK 50)]) (ah (ab (rL 50) (ab (lS 50) (ab (mQ 50) ae)))) uO (fun _=> Nat.le_of_ble_eq_true rfl) (vN rfl rfl rfl)
theorem sI:Tri Tryz.prog dQ (nW).pt:=
 ac (S:=bB [(jO,s_cpAt),(cL,Gp),(cM,yJ)]) (ah (ab OE (ab rM (ab ou ae)))) zj (fun _=> Nat.le_of_ble_eq_true rfl) (AD rfl rfl rfl)
theorem Be:Tri Tryz.prog iI (MY).pt:=
 ac (S:=bB [(dQ,nW)]) (ah (ab sI ae)) zt (fun _=> Nat.le_of_ble_eq_true rfl) (AL rfl)
theorem wK:Tri Tryz.prog e8 (MX).pt:=
 ac (S:=bB []) (ah ae) uN (fun _=> Nat.le_of_ble_eq_true rfl) (vM)
theorem lU:Tri Tryz.prog bu (uH).pt:=
 mc (S:=bB []) (ah ae) q7 (fun _=> Nat.le_of_ble_eq_true rfl) (Oz)
theorem gh:Tri Tryz.prog aG (oU).pt:=
 mc (S:=bB [(bu,uH)]) (ah (ab lU ae)) pn (fun _=> Nat.le_of_ble_eq_true rfl) (JS rfl)
theorem Ak: ∀n,Tri Tryz.prog aw (oV n).pt∧Tri Tryz.prog cY (Gw n).pt∧Tri Tryz.prog bg (yI n).pt
 | 0=> ⟨Cm,Cm,Cm⟩
 | n+1=> ⟨mc (S:=bB [(aw,oV n),(cY,Gw n),(aG,oU)]) (ah (ab (Ak n).1 (ab (Ak n).2.1 (ab gh ae)))) ql (fun _=> Nat.le_of_ble_eq_true rfl) (MC n rfl rfl rfl),mc (S:=bB [(aw,oV n),(bg,yI n),(aG,oU),(bu,uH)]) (ah (ab (Ak n).1 (ab (Ak n).2.2 (ab gh (ab lU ae))))) pm (fun _=> Nat.le_of_ble_eq_true rfl) (JP n rfl rfl rfl rfl),mc (S:=bB [(aw,oV n),(bg,yI n),(aG,oU)]) (ah (ab (Ak n).1 (ab (Ak n).2.2 (ab gh ae)))) nC (fun _=> Nat.le_of_ble_eq_true rfl) (F1 n rfl rfl rfl)⟩
theorem FD:Tri Tryz.prog lc (Kp 50).pt:=
 ac (S:=bB [(aw,oV 50)]) (ah (ab (Ak 50).1 ae)) CT (fun _=> Nat.le_of_ble_eq_true rfl) (VK 50 rfl)
theorem sD:Tri Tryz.prog dG (Gx).pt:=
 ac (S:=bB []) (ah ae) q8 (fun _=> Nat.le_of_ble_eq_true rfl) (MD)
theorem wH:Tri Tryz.prog bL (Ko).pt:=
 ac (S:=bB [(dR,s_cpFold1)]) (ah (ab wN ae)) uK (fun _=> Nat.le_of_ble_eq_true rfl) (FW rfl)
theorem xR:Tri Tryz.prog cg (Kq).pt:=
 ac (S:=bB []) (ah ae) wj (fun _=> Nat.le_of_ble_eq_true rfl) (xb)
theorem sH:Tri Tryz.prog dP (Er).pt:=
 ac (S:=bB [(cM,Bt),(cS,s_cpVal),(lc,Kp 50),(dG,Gx),(e8,Ep),(cg,Kq),(bL,Ko)]) (ah (ab ou (ab Bn (ab FD (ab sD (ab wK (ab xR (ab wH ae)))))))) zi (fun _=> Nat.le_of_ble_eq_true rfl) (AB rfl rfl rfl rfl rfl rfl rfl)
theorem A8:Tri Tryz.prog iB (Bu false).pt:=
 ac (S:=bB [(dP,Er)]) (ah (ab sH ae)) zk (fun _=> Nat.le_of_ble_eq_true rfl) (AE rfl)
theorem vu:Tri Tryz.prog et (Bu true).pt:=
 ac (S:=bB [(dP,Er)]) (ah (ab sH ae)) sY (fun _=> Nat.le_of_ble_eq_true rfl) (ue rfl)
theorem Bd:Tri Tryz.prog iH (Cx).pt:=
 ac (S:=bB [(dQ,nW),(iB,Bu false),(et,Bu true)]) (ah (ab sI (ab A8 (ab vu ae)))) zs (fun _=> Nat.le_of_ble_eq_true rfl) (AK rfl rfl rfl)
theorem qc:Tri Tryz.prog cU (Eu).pt:=
 ac (S:=bB []) (ah ae) uS (fun _=> Nat.le_of_ble_eq_true rfl) (vR)
theorem xT:Tri Tryz.prog fT (we).pt:=
 ac (S:=bB [(cU,Eu)]) (ah (ab qc ae)) uR (fun _=> Nat.le_of_ble_eq_true rfl) (vQ rfl)
theorem tU:Tri Tryz.prog dd (Cv).pt:=
 ac (S:=bB [(cU,Eu),(fT,we)]) (ah (ab qc (ab xT ae))) qZ (fun _=> Nat.le_of_ble_eq_true rfl) (sd rfl rfl)
theorem lT:Tri Tryz.prog aM (qM).pt:=
 ac (S:=bB [(cS,s_cpVal)]) (ah (ab Bn ae)) qY (fun _=> Nat.le_of_ble_eq_true rfl) (sa rfl)
theorem xU:Tri Tryz.prog fV (yP).pt:=
 ac (S:=bB [(aM,qM)]) (ah (ab lT ae)) wn (fun _=> Nat.le_of_ble_eq_true rfl) (xe rfl)
theorem tV:Tri Tryz.prog dW (GF).pt:=
 ac (S:=bB []) (ah ae) sj (fun _=> Nat.le_of_ble_eq_true rfl) (sM)
theorem Bc:Tri Tryz.prog iG (GE).pt:=
 ac (S:=bB [(fV,yP),(dW,GF)]) (ah (ab xU (ab tV ae))) zr (fun _=> Nat.le_of_ble_eq_true rfl) (AJ rfl rfl)
theorem lg: ∀n,Tri Tryz.prog aN (yU n).pt
 | 0=> kN fun x h=> PF h.1
 | n+1=> ac (S:=bB [(aN,yU n)]) (ah (ab (lg n) ae)) q9 (fun _=> Nat.le_of_ble_eq_true rfl) (qF n rfl)
theorem lV:Tri Tryz.prog aN (qO).pt:=yr (fun n=> lg n) (yF (fun x h=> h))
theorem vz:Tri Tryz.prog eC (yW).pt:=
 ac (S:=bB [(aN,qO)]) (ah (ab lV ae)) tf (fun _=> Nat.le_of_ble_eq_true rfl) (uj rfl)
theorem vw:Tri Tryz.prog eA (wf).pt:=
 ac (S:=bB []) (ah ae) tc (fun _=> Nat.le_of_ble_eq_true rfl) (sO)
theorem ov:Tri Tryz.prog aV (wg).pt:=
 ac (S:=bB []) (ah ae) nD (fun _=> Nat.le_of_ble_eq_true rfl) (nT)
theorem lN:Tri Tryz.prog bI (uI Attr (bB [(aV,wg)])).pt:=
 ac (S:=bB [(aV,wg)]) (ah (ab ov ae)) kO (fun _=> Nat.le_of_ble_eq_true rfl) (yn)
theorem d7:Tri Tryz.prog aq (lW).pt:=
 ac (S:=bB [(bI,uI Attr (bB [(aV,wg)]))]) (ah (ab lN ae)) pp (fun _=> Nat.le_of_ble_eq_true rfl) (qe (S0:=(bB [(aV,wg)])) rfl rfl)
theorem nk:Tri Tryz.prog cB (qP).pt:=
 ac (S:=bB [(aq,lW)]) (ah (ab d7 ae)) th (fun _=> Nat.le_of_ble_eq_true rfl) (uk rfl)
theorem vB:Tri Tryz.prog cC (yY).pt:=
 ac (S:=bB []) (ah ae) tj (fun _=> Nat.le_of_ble_eq_true rfl) (um)
theorem j8:Tri Tryz.prog bt (yO).pt:=
 ac (S:=bB []) (ah ae) ph (fun _=> Nat.le_of_ble_eq_true rfl) (ym)
theorem nO:Tri Tryz.prog cH (GH).pt:=
 ac (S:=bB [(bt,yO)]) (ah (ab j8 ae)) mW (fun _=> Nat.le_of_ble_eq_true rfl) (uo rfl)
theorem vx:Tri Tryz.prog eB (yT).pt:=
 ac (S:=bB [(cB,qP),(aq,lW),(dd,Cv)]) (ah (ab nk (ab d7 (ab tU ae)))) td (fun _=> Nat.le_of_ble_eq_true rfl) (uh rfl rfl rfl)
theorem vA:Tri Tryz.prog eD (yX).pt:=
 ac (S:=bB [(eA,wf),(eB,yT),(iI,Et),(aq,lW),(fE,s_sConB),(aM,qM),(cH,GH)]) (ah (ab vw (ab vx (ab Be (ab d7 (ab F8 (ab lT (ab nO ae)))))))) ti (fun _=> Nat.le_of_ble_eq_true rfl) (ul rfl rfl rfl rfl rfl rfl rfl)
theorem pU:Tri Tryz.prog bm (CA).pt:=
 ac (S:=bB [(eD,yX)]) (ah (ab vA ae)) n9 (fun _=> Nat.le_of_ble_eq_true rfl) (oM rfl)
theorem ni: ∀n,Tri Tryz.prog ck (yR n).pt
 | 0=> kN fun x h=> by obtain⟨a,lb,_,h,_⟩:=h;cases h
 | n+1=> ac (S:=bB [(bm,CA),(ck,yR n)]) (ah (ab pU (ab (ni n) ae))) uT (fun _=> Nat.le_of_ble_eq_true rfl) (ug n rfl rfl)
theorem wL:Tri Tryz.prog ck (yQ).pt:=yr (fun n=> ni n) (yF (fun x h=> h))
theorem li:Tri Tryz.prog bF (yZ).pt:=
 ac (S:=bB [(aN,qO),(ck,yQ)]) (ah (ab lV (ab wL ae))) qn (fun _=> Nat.le_of_ble_eq_true rfl) (qG rfl rfl)
theorem sA:Tri Tryz.prog dD (Cw).pt:=
 ac (S:=bB []) (ah ae) qU (fun _=> Nat.le_of_ble_eq_true rfl) (Ck)
theorem pT:Tri Tryz.prog cR (Cy).pt:=
 ac (S:=bB [(dD,Cw)]) (ah (ab sA ae)) n8 (fun _=> Nat.le_of_ble_eq_true rfl) (xf rfl)
theorem rO:Tri Tryz.prog aR (nb).pt:=
 ac (S:=bB [(cR,Cy)]) (ah (ab pT ae)) qm (fun _=> Nat.le_of_ble_eq_true rfl) (qE rfl)
theorem m7:Tri Tryz.prog ct (uI Region (bB [(aR,nb)])).pt:=
 ac (S:=bB [(aR,nb)]) (ah (ab rO ae)) mw (fun _=> Nat.le_of_ble_eq_true rfl) (D0)
theorem lO:Tri Tryz.prog bJ (xm Region (bB [(aR,nb)])).pt:=
 ac (S:=bB [(ct,uI Region (bB [(aR,nb)]))]) (ah (ab m7 ae)) kP (fun _=> Nat.le_of_ble_eq_true rfl) (D1 rfl)
theorem tW:Tri Tryz.prog dX (GG).pt:=
 ac (S:=bB [(bJ,xm Region (bB [(aR,nb)]))]) (ah (ab lO ae)) sk (fun _=> Nat.le_of_ble_eq_true rfl) (sP (S0:=(bB [(aR,nb)])) rfl rfl)
theorem nj: ∀n,Tri Tryz.prog aL (na n).pt
 | 0=> kN fun x h=> PF h
 | n+1=>
   have h1:Tri Tryz.prog bv (uI Cond (bB [(aL,na n)])).pt:=ac (S:=bB [(aL,na n)]) (ah (ab (nj n) ae)) iy (fun _=> Nat.le_of_ble_eq_true rfl) (Bh)
   have h2:Tri Tryz.prog aB (xm Cond (bB [(aL,na n)])).pt:=ac (S:=bB [(bv,uI Cond (bB [(aL,na n)]))]) (ah (ab h1 ae)) gm (fun _=> Nat.le_of_ble_eq_true rfl) (Bj rfl)
   ac (S:=bB [(aB,xm Cond (bB [(aL,na n)]))]) (ah (ab h2 ae)) uU (fun _=> Nat.le_of_ble_eq_true rfl) (vS (S0:=(bB [(aL,na n)])) n rfl rfl)
theorem wM:Tri Tryz.prog aL (yS).pt:=yr (fun n=> nj n) (yF (fun x h=> h))
theorem mR: ∀n,Tri Tryz.prog bQ (yV n).pt
 | 0=> kN fun x h=> PF h.1
 | n+1=> ac (S:=bB [(aL,yS),(bQ,yV n)]) (ah (ab wM (ab (mR n) ae))) te (fun _=> Nat.le_of_ble_eq_true rfl) (ui n rfl rfl)
theorem vy:Tri Tryz.prog bQ (Cz).pt:=yr (fun n=> mR n) (yF (fun x h=> h))
theorem je: ∀n,Tri Tryz.prog bk (mf n).pt
 | 0=> kN fun x h=> by obtain⟨_,y,h⟩:=h;cases h
 | n+1=>
   have g1:Tri Tryz.prog av (xk n).pt:=ac (S:=bB [(bk,mf n)]) (ah (ab (je n) ae)) rb (fun _=> Nat.le_of_ble_eq_true rfl) (ID n rfl)
   have g2:Tri Tryz.prog aW (Es n).pt:=ac (S:=bB [(av,xk n)]) (ah (ab g1 ae)) ra (fun _=> Nat.le_of_ble_eq_true rfl) (IC n rfl)
   have g3:Tri Tryz.prog bv (uI Cond (bB [(av,xk n),(aW,Es n)])).pt:=ac (S:=bB [(av,xk n),(aW,Es n)]) (ah (ab g1 (ab g2 ae))) iy (fun _=> Nat.le_of_ble_eq_true rfl) (Bh)
   have g4:Tri Tryz.prog aB (xm Cond (bB [(av,xk n),(aW,Es n)])).pt:=ac (S:=bB [(bv,uI Cond (bB [(av,xk n),(aW,Es n)]))]) (ah (ab g3 ae)) gm (fun _=> Nat.le_of_ble_eq_true rfl) (Bj rfl)
   ac (S:=bB [(av,xk n),(aB,xm Cond (bB [(av,xk n),(aW,Es n)])),(cB,qP),(cC,yY),(iH,Cx),(aq,lW),(iG,GE),(bt,yO),(dX,GG)]) (ah (ab g1 (ab g4 (ab nk (ab vB (ab Bd (ab d7 (ab Bc (ab j8 (ab tW ae)))))))))) tg (fun _=> Nat.le_of_ble_eq_true rfl) (MB (S0:=(bB [(av,xk n),(aW,Es n)])) n rfl rfl rfl rfl rfl rfl rfl rfl rfl rfl rfl)
theorem sE:Tri Tryz.prog aY (wW).pt:=
 ac (S:=bB []) (ah ae) rc (fun _=> Nat.le_of_ble_eq_true rfl) (IE)
theorem pS:Tri Tryz.prog cQ (uI Int (bB [(aY,wW)])).pt:=
 ac (S:=bB [(aY,wW)]) (ah (ab sE ae)) n7 (fun _=> Nat.le_of_ble_eq_true rfl) (JU)
theorem m8:Tri Tryz.prog cu (xm Int (bB [(aY,wW)])).pt:=
 ac (S:=bB [(cQ,uI Int (bB [(aY,wW)]))]) (ah (ab pS ae)) my (fun _=> Nat.le_of_ble_eq_true rfl) (JV rfl)
theorem vC:Tri Tryz.prog bS (OS).pt:=
 ac (S:=bB [(bF,yZ),(cu,xm Int (bB [(aY,wW)])),(bk,mf 21)]) (ah (ab li (ab m8 (ab (je 21) ae)))) tk (fun _=> Nat.le_of_ble_eq_true rfl) (ME (S0:=(bB [(aY,wW)])) rfl rfl rfl rfl)
theorem tX:Tri Tryz.prog de (Ks).pt:=
 ac (S:=bB [(eC,yW),(bQ,Cz),(bF,yZ),(bk,mf 21)]) (ah (ab vz (ab vy (ab li (ab (je 21) ae))))) so (fun _=> Nat.le_of_ble_eq_true rfl) (JT rfl rfl rfl rfl)
theorem Ao:Tri Tryz.prog fb (Kr).pt:=
 ac (S:=bB []) (ah ae) xz (fun _=> Nat.le_of_ble_eq_true rfl) (yl)
theorem Hp:Tri Tryz.prog ku (GK).pt:=
 ac (S:=bB []) (ah ae) EB (fun _=> Nat.le_of_ble_eq_true rfl) (FX)
theorem Ba:Tri Tryz.prog iD (wc).pt:=
 ac (S:=bB [(fb,Kr),(de,Ks),(ku,GK)]) (ah (ab Ao (ab tX (ab Hp ae)))) zp (fun _=> Nat.le_of_ble_eq_true rfl) (IB rfl rfl rfl)
theorem An:Tri Tryz.prog ca (yN).pt:=
 ac (S:=bB []) (ah ae) xy (fun _=> Nat.le_of_ble_eq_true rfl) (yk)
theorem Bb:Tri Tryz.prog iE (yM).pt:=
 ac (S:=bB [(ag,s_m_Next)]) (ah (ab eH ae)) zq (fun _=> Nat.le_of_ble_eq_true rfl) (AI rfl)
theorem xj:Tri Tryz.prog iF (OR).pt:=
 ac (S:=bB [(r6,s_m_New),(fU,s_m_Corpus),(fX,wb),(ca,yN),(iE,yM),(bS,OS),(iD,wc)]) (ah (ab MO (ab xi (ab A9 (ab An (ab Bb (ab vC (ab Ba ae)))))))) mY (fun _=> Nat.le_of_ble_eq_true rfl) (xd rfl rfl rfl rfl rfl rfl rfl)
end Go.Gv

namespace Go.Gv
open Go.ChangeShapes Go.WideShapes Go.ChangeAt Go.RowKit
section
variable {H:Type} {ec:TypeId×Value→H} {P:Program} {w:World} {base:Nat} {spare:Nat→Bool} {held:Bool} {tp I:Nat→Prop}
def OpR (tp I:Nat→Prop) (w:World) (cs:List Value) (d:D):Prop:=cs.length=d.cells.length∧ ∀ (k:Nat) (y:Value) (c:D),cs[k]?=some y→d.cells[k]?=some c→y.oneCell'=true∧R tp I w y c
theorem OpR.one {y:Value} {d:D} (h:OpR tp I w [y] d) (hd:d.cells= [d]):R tp I w y d:=(h.2 0 y d rfl (by rw[hd];rfl)).2
theorem KJ {t:TypeId} {fuel:Nat} {cs:List Value} {x:DataW H×List MemPlace} (ht:P.underlying t=some (.int .i64)) (h:DataW.trod ec P w base spare held fuel t cs=some x): ∃n:Int,OpR tp I w cs (Cod.enc n):=by
 obtain⟨n,rfl,_,_⟩:=DataW.trod_int ht h
 refine⟨n,rfl,fun k y c h1 h2=> ?_⟩
 cases k with
 | zero=> cases h1;cases h2;exact⟨rfl, .v _ rfl (fun s h=> by cases h)⟩
 | succ k=> simp at h1
theorem Ey {Y:Type} [Cod Y] {t e:TypeId} (ht:P.underlying t=some (.slice e)) (hc:P.cellsOf e=Cod.wd Y) (h0:0 < Cod.wd Y)
 (hel: ∀ (n:Nat) (cs:List Value) (x:DataW H×List MemPlace),DataW.trod ec P w base spare held n e cs=some x→ ∃y:Y,OpR tp I w cs (Cod.enc y)) (hI: ∀b,b < w.heap.size→I b)
 {fuel:Nat} {cs:List Value} {x:DataW H×List MemPlace} (h:DataW.trod ec P w base spare held fuel t cs=some x): ∃l:List Y,OpR tp I w cs (Cod.enc l):=by
 have one: ∀ (v:Value) (l:List Y),v.oneCell'=true→R tp I w v (.list (Cod.wd Y) (l.map Cod.enc))→OpR tp I w [v] (Cod.enc l):=fun v l h1 h2=> ⟨rfl,fun k y c e1 e2=> by
  cases k with
  | zero=> cases e1;cases e2;exact⟨h1,h2⟩
  | succ k=> simp at e1⟩
 rcases DataW.trod_slice ht h with⟨rfl,_⟩ | ⟨a,len,cap,elems,rest,n,_,rfl,_,_,hl,hm,hlen,hel',_⟩
 ·exact⟨[],one _ [] rfl (.nolist none 0 _)⟩
 ·by_cases hz:len=0
  ·subst hz
   exact⟨[],one _ [] rfl (.nolist (some a) cap _)⟩
  ·have each: ∀i:_root_.Fin len,∃p:List Value×Y,w.cells? base (a.add (i*P.cellsOf e)) (P.cellsOf e)=some p.1∧OpR tp I w p.1 (Cod.enc p.2):=fun i=> by
    have h1:=hel' i i.2
    rw[List.getElem?_eq_getElem (by omega)] at h1
    obtain⟨cs',h2,h3⟩:=Option.bind_eq_some_iff.1 h1
    obtain⟨y,hy⟩:=hel n cs' _ h3
    exact⟨(cs',y),h2,hy⟩
   obtain⟨g,hg⟩:=Classical.axiomOfChoice each
   obtain⟨b,off,spot⟩:=a
   have cellAt: ∀ (i:_root_.Fin len) (j:Nat),j < Cod.wd Y→ ∃v,(g i).1[j]?=some v∧w.cell? ((Addr.add ⟨b,off,spot⟩ (i*Cod.wd Y)).add j)=some v:=fun i j hj=> by
    have h1:=World.cells?_some (hg i).1
    have h2:=h1.2.2 j (by rw[hc];exact hj)
    have h3:j < (g i).1.length:=by rw[h1.2.1,hc];exact hj
    refine⟨(g i).1[j],List.getElem?_eq_getElem h3,?_⟩
    rw[hc] at h2
    rw[h2,List.getElem?_eq_getElem h3]
   have hs:spot=none:=by
    obtain⟨v,_,h2⟩:=cellAt ⟨0,by omega⟩ 0 h0
    have:=World.cell?_spot h2
    simpa [Addr.add] using this
   subst hs
   have hadd: ∀ (o n:Nat),Addr.add ⟨b,o,none⟩ n=⟨b,o+n,none⟩:=fun o n=> by
    unfold Addr.add
    split
    ·rename_i e;subst e;rfl
    ·rfl
   have cellAt': ∀ (i:_root_.Fin len) (j:Nat),j < Cod.wd Y→ ∃v,(g i).1[j]?=some v∧w.cell? ⟨b,off+ (i*Cod.wd Y+j),none⟩=some v:=fun i j hj=> by
    obtain⟨v,h1,h2⟩:=cellAt i j hj
    refine⟨v,h1,?_⟩
    rw[hadd,hadd] at h2
    rw[←Nat.add_assoc]
    exact h2
   have hb:b < w.heap.size:=by
    obtain⟨v,_,h2⟩:=cellAt' ⟨0,by omega⟩ 0 h0
    unfold World.cell? at h2
    by_cases hlt:b < w.heap.size
    ·exact hlt
    ·simp only[Array.getElem?_eq_none (Nat.le_of_not_lt hlt)] at h2
     cases h2
   let es:List Y:=List.ofFn fun i=> (g i).2
   have hesl:es.length=len:=by simp[es]
   have hesi: ∀i:_root_.Fin len,(es.map Cod.enc)[(i:Nat)]?=some (Cod.enc (g i).2):=fun i=> by
    rw[List.getElem?_map]
    have:es[(i:Nat)]?=some (g i).2:=by simp[es]
    rw[this];rfl
   have hw: ∀d∈es.map Cod.enc,d.kn=true∧d.cells.length=Cod.wd Y:=fun d hd=> by
    obtain⟨y,_,rfl⟩:=List.mem_map.1 hd
    exact⟨Cod.kn y,Cod.wid y⟩
   have flatAt: ∀ (k:Nat) (c:D),(bA (es.map Cod.enc))[k]?=some c→ ∃v,w.cell? ⟨b,off+k,none⟩=some v∧v.oneCell'=true∧R tp I w v c:=fun k c hk=> by
    have hkl:=(List.getElem?_eq_some_iff.1 hk).1
    rw[aZ (fun d hd=> (hw d hd).2),List.length_map,hesl] at hkl
    have hdm:k=(k/Cod.wd Y) *Cod.wd Y+k % Cod.wd Y:=by have:=Nat.div_add_mod k (Cod.wd Y);rw[Nat.mul_comm] at this;omega
    have hmod:k % Cod.wd Y < Cod.wd Y:=Nat.mod_lt _ h0
    have hq:k/Cod.wd Y < len:=Nat.div_lt_of_lt_mul (by rw[Nat.mul_comm];exact hkl)
    have g1:=eY (es:=es.map Cod.enc) (fun d hd=> (hw d hd).2) (i:=k/Cod.wd Y) hmod
    rw[←hdm,hk,hesi ⟨k/Cod.wd Y,hq⟩] at g1
    simp only[Option.bind_some] at g1
    obtain⟨v,h1,h2⟩:=cellAt' ⟨k/Cod.wd Y,hq⟩ (k % Cod.wd Y) hmod
    simp only at h2
    rw[←hdm] at h2
    exact⟨v,h2,(hg ⟨k/Cod.wd Y,hq⟩).2.2 _ v c h1 g1.symm⟩
   have hR:R tp I w (.slice (some ⟨b,off,none⟩) len cap) (.list (Cod.wd Y) (es.map Cod.enc)):=by
    have hll: (es.map (Cod.enc (X:=Y))).length=len:=by simp[hesl]
    rw[←hll]
    have rd: ∀ (k:Nat) (c:D),(bA (es.map Cod.enc))[k]?=some c→w.cell? ⟨b,off+k,none⟩=some ((w.cell? ⟨b,off+k,none⟩).getD Go.undef):=fun k c hk=> by
     obtain⟨v,h1,_⟩:=flatAt k c hk
     rw[h1];rfl
    refine .list b off cap _ (es.map Cod.enc) (fun k=> (w.cell? ⟨b,off+k,none⟩).getD Go.undef) (hI b hb) (by rw[hll];exact hl) hm hw rd (fun k c hk=> ?_) (fun k c hk=> ?_)
    ·obtain⟨v,h1,h2,_⟩:=flatAt k c hk
     rw[h1];exact h2
    ·obtain⟨v,h1,_,h2⟩:=flatAt k c hk
     rw[h1];exact h2
   exact⟨es,one _ es rfl hR⟩
end
end Go.Gv

namespace Go.Gv
open Go.ChangeShapes Go.WideShapes Go.ChangeAt Go.RowKit
section
variable {H:Type} {ec:TypeId×Value→H} {P:Program} {w:World} {base:Nat} {spare:Nat→Bool} {held:Bool} {tp I:Nat→Prop}
end
abbrev TP (w:World):Nat→Prop:=bz (fun _=> False) (fun _=> False) di w
theorem KW {w:World} {b:Nat} (h:b < w.heap.size):TP w b:=⟨h,fun h=> h,fun h=> h,fun⟨i,r,h,_⟩=> by simp[di] at h⟩
end Go.Gv

namespace Go.Gv
open Go.ChangeShapes Go.WideShapes Go.ChangeAt Go.RowKit
section
variable {H:Type} {ec:TypeId×Value→H} {P:Program} {w:World} {base:Nat} {spare:Nat→Bool} {held:Bool} {tp I:Nat→Prop}
end
end Go.Gv

namespace Go.Gv
open Cod (enc dec)
instance:Cod UInt8 where
 wd:=1
 enc n:= .v (.int .u8 n.toNat)
 dec | .v (.int .u8 n)=> if 0≤n∧n≤255 then some (UInt8.ofNat n.toNat) else none | _=> none
 kn _:=rfl
 wid _:=rfl
 dec_enc n:=by
  have:=n.toNat_lt
  simp only
  rw[if_pos (by omega)]
  congr 1
  rw[Int.toNat_natCast,UInt8.ofNat_toNat]
 le d x h:=by
  split at h
  ·split at h
   ·rename_i n hn
    cases h
    have e: ((UInt8.ofNat n.toNat).toNat:Int)=n:=by
     rw[UInt8.toNat_ofNat']
     omega
    show FrzTo di _ (.v (.int .u8 ((UInt8.ofNat n.toNat).toNat:Int)))
    rw[e]
    exact .same _
   ·cases h
  ·cases h
end Go.Gv

namespace Go.Gv
open Go.ChangeShapes Go.WideShapes Go.ChangeAt Go.RowKit
section
variable {H:Type} {ec:TypeId×Value→H} {P:Program} {w:World} {base:Nat} {spare:Nat→Bool} {held:Bool} {tp I:Nat→Prop}
end
theorem GY {P:Program} {f:Nat} {X:Type} {A:gq X} {p:X→Prop} {q:X→Bool→Prop} (h:Tri P f (cz A p (Cod.enc (X:=Bool)) q).pt) (hq: ∀x y,q x y→y=true) {w:World} {vs:List Value} {ds:List D} {x:X} (hp:p x) (hlen:vs.length=ds.length)
 (hR: ∀ (k:Nat) (y:Value) (c:D),vs[k]?=some y→ds[k]?=some c→R (fun _=> False) (TP w) w y c) (hdec:A.dec ds=some x) (hG:GlW (fun _=> False) (fun _=> False) w):
 Calls P f vs.toArray w fun e w'=> e= .returned (.bool true)∧Below w.heap.size w w':=by
 obtain⟨_,hc⟩:=h (fun _=> False) (fun _=> False) w vs ds di 0 (fun r H'=> r= .v (.bool true)) (fun b h=> h.elim) ⟨fun b h=> h.elim,hG.mono (fun _ h=> h) (fun b ⟨i,r,h,_⟩=> by simp[di] at h)⟩
  ⟨fun i j r s b h=> by simp[di] at h,fun i r b h=> by simp[di] at h,fun i r h=> by simp[di] at h⟩ hlen hR
  (by rw[oR,hdec];exact⟨hp,fun y hy=> by rw[hq x y hy];rfl⟩)
 refine hc.mono ?_
 rintro e w' ⟨v,r,H',tp',rfl,hr,_,_,_,hs,_,_,hv⟩
 subst hr
 have hv':=hv.inv_v
 subst hv'
 exact⟨rfl,hs.os,hs.tape,hs.output,hs.size,fun k hk=> hs.same k hk (fun⟨i,r,h,_⟩=> by simp[di] at h) (fun h=> h)⟩
end Go.Gv
