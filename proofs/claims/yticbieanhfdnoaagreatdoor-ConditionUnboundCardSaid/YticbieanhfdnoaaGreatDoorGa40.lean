/- A part of the framework and of the walks: Asm22 Fr Fr2 Fr3 V32 Fr4. -/
import Derived.WalkKit
import Derived.ProofKit
import Derived.OpenShut
import Derived.ShutString
import Derived.ChangeOld
import Derived.Below
import Derived.Test.YticbieanhfdnoaaGreatDoorGa24
import Derived.Test.YticbieanhfdnoaaGreatDoorGa34
import Derived.Test.YticbieanhfdnoaaGreatDoorGa35
import Derived.Test.YticbieanhfdnoaaGreatDoorGa39
import Derived.Test.YticbieanhfdnoaaGreatDoorGa20
import Derived.Test.YticbieanhfdnoaaGreatDoorGa18
set_option linter.unusedSimpArgs false
set_option linter.unusedVariables false
set_option maxRecDepth 100000

namespace Go.Gv
open Go.Proofs Cod
theorem By {P:Program} {f:Nat} {A:Nat→PT} {A':PT} (h: ∀n,Tri P f (A n)) (hs: ∀d ds H K,A' d ds H K→ ∃n,A n d ds H K):Tri P f A':=
 fun O tp w vs ds H d K a b c e g hA=> (hs d ds H K hA).elim fun n hn=> h n O tp w vs ds H d K a b c e g hn
theorem xP {P:Program} {f:Nat} {A:PT} (hs: ∀d ds H K,¬A d ds H K):Tri P f A:=fun O tp w vs ds H d K a b c e g hA=> absurd hA (hs d ds H K)
theorem BG {X Y:Type} {A:gj X} {pre:Nat→X→Prop} {pre':X→Prop} {er:Y→D} {post:X→Y→Prop} (hx: ∀x,pre' x→ ∃n,pre n x): ∀d ds H K,(cF A pre' er post).pt d ds H K→ ∃n,(cF A (pre n) er post).pt d ds H K:=by
 intro d ds H K h
 rw[n8] at h
 cases e:A.dec ds with
 | none=> rw[e] at h;exact h.elim
 | some x=>
   rw[e] at h
   obtain⟨h1,h2⟩:=h
   obtain⟨n,hn⟩:=hx x h1
   exact⟨n,by rw[n8,e];exact⟨hn,h2⟩⟩
theorem lU {P:Program} {f:Nat} {X Y:Type} {A:gj X} {pre:X→Prop} {er:Y→D} {post:X→Y→Prop} (hx: ∀x,¬pre x):Tri P f (cF A pre er post).pt:=xP fun d ds H K h=> by
 rw[n8] at h
 cases e:A.dec ds with
 | none=> rw[e] at h;exact h.elim
 | some x=> rw[e] at h;exact hx x h.1
theorem Bz {P:Program} {f:Nat} {Y Z:Type} {A:gj Z} {er:Y→D} :Tri P f (Lj A er fun _ _=> none).pt:=xP fun d ds H K h=> by
 obtain⟨id,b',x,z,ds',h1,h2,h3,h4,h5,⟨r,h6⟩,h7⟩:=h
 cases h6
theorem LF {P:Program} {f:Nat} :Tri P f (MQ fun _ _ _=> none).pt:=xP fun d ds H K h=> by
 obtain⟨id',b',x,n',k,r,d0',h1,h2,h3,h4,h5⟩:=h
 cases h4
theorem Oh {p:Cond} (h:fL p≤0):False:=by rw[CL] at h;omega
theorem ve:Tri Tryz.prog dx (xv).pt:=
 ac (S:=bH []) (ag ae) sO (fun _=> Nat.le_of_ble_eq_true rfl) (tR)
theorem wn:Tri Tryz.prog dM (s_cpFold1).pt:=HD (S:=bH [(dx,xv)]) (ag (ab ve ae)) rfl
theorem wo:Tri Tryz.prog dN (FE).pt:=
 ac (S:=bH []) (ag ae) uy (fun _=> Nat.le_of_ble_eq_true rfl) (vw)
theorem tA:Tri Tryz.prog dT (FL).pt:=
 ac (S:=bH [(dN,FE)]) (ag (ab wo ae)) rO (fun _=> Nat.le_of_ble_eq_true rfl) (sr rfl)
theorem wj:Tri Tryz.prog bM (FF).pt:=
 ac (S:=bH [(dT,FL)]) (ag (ab tA ae)) un (fun _=> Nat.le_of_ble_eq_true rfl) (vn rfl)
theorem iB:Tri Tryz.prog aZ (FG).pt:=
 ac (S:=bH [(bM,FF)]) (ag (ab wj ae)) hZ (fun _=> Nat.le_of_ble_eq_true rfl) (zM rfl)
theorem kR:Tri Tryz.prog aQ (FD).pt:=
 ac (S:=bH [(aZ,FG)]) (ag (ab iB ae)) j4 (fun _=> Nat.le_of_ble_eq_true rfl) (zL rfl)
theorem u2:Tri Tryz.prog eq (yu).pt:=
 ac (S:=bH []) (ag ae) sC (fun _=> Nat.le_of_ble_eq_true rfl) (Bu)
theorem xo:Tri Tryz.prog fO (BP).pt:=
 ac (S:=bH [(eq,yu)]) (ag (ab u2 ae)) vN (fun _=> Nat.le_of_ble_eq_true rfl) (Fa rfl)
theorem nP:Tri Tryz.prog bS (LL).pt:=
 ac (S:=bH [(fO,BP),(aQ,FD)]) (ag (ab xo (ab kR ae))) nb (fun _=> Nat.le_of_ble_eq_true rfl) (nz rfl rfl)
theorem nT:Tri Tryz.prog bS (CN).pt:=Fm nP rfl (fun _=> Kk (fun _ h=> by cases h))
theorem zA:Tri Tryz.prog gz (yf).pt:=
 Fh (S:=bH [(bS,CN)]) (ag (ab nT ae)) wW (fun _=> Nat.le_of_ble_eq_true rfl) (xz rfl)
theorem EI:Tri Tryz.prog iY (Fx).pt:=
 ac (S:=bH []) (ag ae) BU (fun _=> Nat.le_of_ble_eq_true rfl) (CY)
theorem cv:Tri Tryz.prog ah (fg).pt:=
 eh (S:=bH [(aF,s_decR)]) (ag (ab tW ae)) qx (fun _=> Nat.le_of_ble_eq_true rfl) (Bj rfl)
theorem rX:Tri Tryz.prog dB (BH).pt:=
 eh (S:=bH [(aF,s_decR)]) (ag (ab tW ae)) qw (fun _=> Nat.le_of_ble_eq_true rfl) (Bh rfl)
theorem iC:Tri Tryz.prog ba (uh).pt:=
 eh (S:=bH [(ah,fg),(dB,BH)]) (ag (ab cv (ab rX ae))) mG (fun _=> Nat.le_of_ble_eq_true rfl) (tH rfl rfl)
theorem qa:Tri Tryz.prog cA (Fy).pt:=
 eh (S:=bH [(ah,fg),(bi,s_crune),(ba,uh)]) (ag (ab cv (ab qj (ab iC ae)))) oP (fun _=> Nat.le_of_ble_eq_true rfl) (xD rfl rfl rfl)
theorem rj:Tri Tryz.prog dk (Fz).pt:=
 eh (S:=bH [(ah,fg),(cA,Fy),(gz,yf)]) (ag (ab cv (ab qa (ab zA ae)))) pK (fun _=> Nat.le_of_ble_eq_true rfl) (zQ rfl rfl rfl)
theorem rY:Tri Tryz.prog dC (BI).pt:=
 eh (S:=bH [(ah,fg),(iY,Fx),(dk,Fz),(bi,s_crune),(ba,uh)]) (ag (ab cv (ab EI (ab rj (ab qj (ab iC ae)))))) qz (fun _=> Nat.le_of_ble_eq_true rfl) (Bk rfl rfl rfl rfl rfl)
theorem pZ:Tri Tryz.prog cS (Fw).pt:=
 eh (S:=bH [(ah,fg),(dC,BI)]) (ag (ab cv (ab rY ae))) oO (fun _=> Nat.le_of_ble_eq_true rfl) (xy rfl rfl)
theorem qb:Tri Tryz.prog cT (FA).pt:=
 eh (S:=bH [(ah,fg),(cS,Fw)]) (ag (ab cv (ab pZ ae))) oQ (fun _=> Nat.le_of_ble_eq_true rfl) (xE rfl rfl)
theorem ri:Tri Tryz.prog cI (Fv).pt:=
 eh (S:=bH [(ah,fg),(cT,FA)]) (ag (ab cv (ab qb ae))) pJ (fun _=> Nat.le_of_ble_eq_true rfl) (zN rfl rfl)
theorem rh: ∀n,Tri Tryz.prog dJ (MQ (kV n)).pt
 | 0=> LF
 | n+1=> Ff (S:=bH [(dJ,MQ (kV n))]) (ag (ab (rh n) ae)) yE (by decide) (zO n rfl)
theorem wi:Tri Tryz.prog eT (yb).pt:=
 ac (S:=bH []) (ag ae) um (fun _=> Nat.le_of_ble_eq_true rfl) (vm)
theorem u0:Tri Tryz.prog em (vD).pt:=
 ac (S:=bH [(eT,yb)]) (ag (ab wi ae)) sx (fun _=> Nat.le_of_ble_eq_true rfl) (tF rfl)
theorem lE: ∀n,Tri Tryz.prog bX (lV n).pt
 | 0=> lU fun x h=> by cases h
 | n+1=> ac (S:=bH [(em,vD),(bX,lV n)]) (ag (ab u0 (ab (lE n) ae))) rK (fun _=> Nat.le_of_ble_eq_true rfl) (sj n rfl rfl)
theorem mA: ∀n,Tri Tryz.prog cw (ye n).pt
 | 0=> lU fun x h=> by obtain⟨m,h⟩:=h;cases h
 | n+1=> ac (S:=bH [(cw,ye n)]) (ag (ab (mA n) ae)) sy (fun _=> Nat.le_of_ble_eq_true rfl) (tG n rfl)
theorem nQ:Tri Tryz.prog cJ (yd).pt:=
 ac (S:=bH [(dJ,MQ (kV 50)),(bX,lV 50),(cw,ye 50)]) (ag (ab (rh 50) (ab (lE 50) (ab (mA 50) ae)))) uq (fun _=> Nat.le_of_ble_eq_true rfl) (vp rfl rfl rfl)
theorem sd:Tri Tryz.prog dL (nD).pt:=
 ac (S:=bH [(jC,s_cpAt),(cI,Fv),(cJ,yd)]) (ag (ab Ni (ab ri (ab nQ ae)))) yG (fun _=> Nat.le_of_ble_eq_true rfl) (zR rfl rfl rfl)
theorem Ay:Tri Tryz.prog iA (LN).pt:=
 ac (S:=bH [(dL,nD)]) (ag (ab sd ae)) yO (fun _=> Nat.le_of_ble_eq_true rfl) (zY rfl)
theorem wk:Tri Tryz.prog eU (LM).pt:=
 ac (S:=bH []) (ag ae) uo (fun _=> Nat.le_of_ble_eq_true rfl) (vo)
theorem lG:Tri Tryz.prog bt (ui).pt:=
 lT (S:=bH []) (ag ae) qC (fun _=> Nat.le_of_ble_eq_true rfl) (Ne)
theorem f8:Tri Tryz.prog aG (n9).pt:=
 lT (S:=bH [(bt,ui)]) (ag (ab lG ae)) oU (fun _=> Nat.le_of_ble_eq_true rfl) (IM rfl)
theorem zz: ∀n,Tri Tryz.prog aw (oa n).pt∧Tri Tryz.prog cU (FB n).pt∧Tri Tryz.prog be (yc n).pt
 | 0=> ⟨Bz,Bz,Bz⟩
 | n+1=> ⟨lT (S:=bH [(aw,oa n),(cU,FB n),(aG,n9)]) (ag (ab (zz n).1 (ab (zz n).2.1 (ab f8 ae)))) pN (fun _=> Nat.le_of_ble_eq_true rfl) (Lq n rfl rfl rfl),lT (S:=bH [(aw,oa n),(be,yc n),(aG,n9),(bt,ui)]) (ag (ab (zz n).1 (ab (zz n).2.2 (ab f8 (ab lG ae))))) oR (fun _=> Nat.le_of_ble_eq_true rfl) (IJ n rfl rfl rfl rfl),lT (S:=bH [(aw,oa n),(be,yc n),(aG,n9)]) (ag (ab (zz n).1 (ab (zz n).2.2 (ab f8 ae)))) nc (fun _=> Nat.le_of_ble_eq_true rfl) (E8 n rfl rfl rfl)⟩
theorem EJ:Tri Tryz.prog kQ (Jk 50).pt:=
 ac (S:=bH [(aw,oa 50)]) (ag (ab (zz 50).1 ae)) B6 (fun _=> Nat.le_of_ble_eq_true rfl) (Ul 50 rfl)
theorem rZ:Tri Tryz.prog dD (FC).pt:=
 ac (S:=bH []) (ag ae) qD (fun _=> Nat.le_of_ble_eq_true rfl) (Lr)
theorem wh:Tri Tryz.prog bL (Jj).pt:=
 ac (S:=bH [(dM,s_cpFold1)]) (ag (ab wn ae)) ul (fun _=> Nat.le_of_ble_eq_true rfl) (E1 rfl)
theorem xn:Tri Tryz.prog ca (Jl).pt:=
 ac (S:=bH []) (ag ae) vL (fun _=> Nat.le_of_ble_eq_true rfl) (wJ)
theorem sa:Tri Tryz.prog dK (DB).pt:=
 ac (S:=bH [(cJ,AJ),(cO,s_cpVal),(kQ,Jk 50),(dD,FC),(eU,DA),(ca,Jl),(bL,Jj)]) (ag (ab nQ (ab AF (ab EJ (ab rZ (ab wk (ab xn (ab wh ae)))))))) yF (fun _=> Nat.le_of_ble_eq_true rfl) (zP rfl rfl rfl rfl rfl rfl rfl)
theorem As:Tri Tryz.prog iu (AK false).pt:=
 ac (S:=bH [(dK,DB)]) (ag (ab sa ae)) yH (fun _=> Nat.le_of_ble_eq_true rfl) (zS rfl)
theorem u1:Tri Tryz.prog en (AK true).pt:=
 ac (S:=bH [(dK,DB)]) (ag (ab sa ae)) sA (fun _=> Nat.le_of_ble_eq_true rfl) (tI rfl)
theorem Aw:Tri Tryz.prog iz (BL).pt:=
 ac (S:=bH [(dL,nD),(iu,AK false),(en,AK true)]) (ag (ab sd (ab As (ab u1 ae)))) yN (fun _=> Nat.le_of_ble_eq_true rfl) (zX rfl rfl rfl)
theorem pE:Tri Tryz.prog cQ (DF).pt:=
 ac (S:=bH []) (ag ae) uv (fun _=> Nat.le_of_ble_eq_true rfl) (vu)
theorem xp:Tri Tryz.prog fP (vF).pt:=
 ac (S:=bH [(cQ,DF)]) (ag (ab pE ae)) uu (fun _=> Nat.le_of_ble_eq_true rfl) (vt rfl)
theorem tu:Tri Tryz.prog cZ (BJ).pt:=
 ac (S:=bH [(cQ,DF),(fP,vF)]) (ag (ab pE (ab xp ae))) qB (fun _=> Nat.le_of_ble_eq_true rfl) (rI rfl rfl)
theorem lF:Tri Tryz.prog aL (qo).pt:=
 ac (S:=bH [(cO,s_cpVal)]) (ag (ab AF ae)) qA (fun _=> Nat.le_of_ble_eq_true rfl) (rH rfl)
theorem xq:Tri Tryz.prog fR (yi).pt:=
 ac (S:=bH [(aL,qo)]) (ag (ab lF ae)) vP (fun _=> Nat.le_of_ble_eq_true rfl) (wM rfl)
theorem tv:Tri Tryz.prog dR (FI).pt:=
 ac (S:=bH []) (ag ae) rL (fun _=> Nat.le_of_ble_eq_true rfl) (sk)
theorem Av:Tri Tryz.prog iy (FH).pt:=
 ac (S:=bH [(fR,yi),(dR,FI)]) (ag (ab xq (ab tv ae))) yM (fun _=> Nat.le_of_ble_eq_true rfl) (zW rfl rfl)
theorem kS: ∀n,Tri Tryz.prog aM (yn n).pt
 | 0=> lU fun x h=> Oh h.1
 | n+1=> ac (S:=bH [(aM,yn n)]) (ag (ab (kS n) ae)) qE (fun _=> Nat.le_of_ble_eq_true rfl) (qg n rfl)
theorem lH:Tri Tryz.prog aM (qp).pt:=By (fun n=> kS n) (BG (fun x h=> h))
theorem u6:Tri Tryz.prog ew (yp).pt:=
 ac (S:=bH [(aM,qp)]) (ag (ab lH ae)) sH (fun _=> Nat.le_of_ble_eq_true rfl) (tN rfl)
theorem u3:Tri Tryz.prog et (vG).pt:=
 ac (S:=bH []) (ag ae) sE (fun _=> Nat.le_of_ble_eq_true rfl) (so)
theorem nR:Tri Tryz.prog aS (vH).pt:=
 ac (S:=bH []) (ag ae) nf (fun _=> Nat.le_of_ble_eq_true rfl) (nA)
theorem lA:Tri Tryz.prog bI (uj Attr (bH [(aS,vH)])).pt:=
 ac (S:=bH [(aS,vH)]) (ag (ab nR ae)) kB (fun _=> Nat.le_of_ble_eq_true rfl) (xM)
theorem dX:Tri Tryz.prog ap (lI).pt:=
 ac (S:=bH [(bI,uj Attr (bH [(aS,vH)]))]) (ag (ab lA ae)) oV (fun _=> Nat.le_of_ble_eq_true rfl) (pF (S0:=(bH [(aS,vH)])) rfl rfl)
theorem mW:Tri Tryz.prog cx (qq).pt:=
 ac (S:=bH [(ap,lI)]) (ag (ab dX ae)) sJ (fun _=> Nat.le_of_ble_eq_true rfl) (tO rfl)
theorem u9:Tri Tryz.prog cy (yr).pt:=
 ac (S:=bH []) (ag ae) sL (fun _=> Nat.le_of_ble_eq_true rfl) (tQ)
theorem jU:Tri Tryz.prog br (yh).pt:=
 ac (S:=bH []) (ag ae) oM (fun _=> Nat.le_of_ble_eq_true rfl) (xL)
theorem nt:Tri Tryz.prog cD (FK).pt:=
 ac (S:=bH [(br,yh)]) (ag (ab jU ae)) mF (fun _=> Nat.le_of_ble_eq_true rfl) (tS rfl)
theorem u4:Tri Tryz.prog eu (ym).pt:=
 ac (S:=bH [(cx,qq),(ap,lI),(cZ,BJ)]) (ag (ab mW (ab dX (ab tu ae)))) sF (fun _=> Nat.le_of_ble_eq_true rfl) (tL rfl rfl rfl)
theorem u7:Tri Tryz.prog ez (yq).pt:=
 ac (S:=bH [(et,vG),(eu,ym),(iA,DE),(ap,lI),(fy,s_sConB),(aL,qo),(cD,FK)]) (ag (ab u3 (ab u4 (ab Ay (ab dX (ab Fe (ab lF (ab nt ae)))))))) sK (fun _=> Nat.le_of_ble_eq_true rfl) (tP rfl rfl rfl rfl rfl rfl rfl)
theorem pw:Tri Tryz.prog bk (BO).pt:=
 ac (S:=bH [(ez,yq)]) (ag (ab u7 ae)) nI (fun _=> Nat.le_of_ble_eq_true rfl) (nX rfl)
theorem mU: ∀n,Tri Tryz.prog cg (yk n).pt
 | 0=> lU fun x h=> by obtain⟨a,lb,_,h,_⟩:=h;cases h
 | n+1=> ac (S:=bH [(bk,BO),(cg,yk n)]) (ag (ab pw (ab (mU n) ae))) uw (fun _=> Nat.le_of_ble_eq_true rfl) (tK n rfl rfl)
theorem wl:Tri Tryz.prog cg (yj).pt:=By (fun n=> mU n) (BG (fun x h=> h))
theorem kT:Tri Tryz.prog bE (yt).pt:=
 ac (S:=bH [(aM,qp),(cg,yj)]) (ag (ab lH (ab wl ae))) pP (fun _=> Nat.le_of_ble_eq_true rfl) (qh rfl rfl)
theorem rW:Tri Tryz.prog dA (BK).pt:=
 ac (S:=bH []) (ag ae) qv (fun _=> Nat.le_of_ble_eq_true rfl) (Bv)
theorem pv:Tri Tryz.prog cN (BM).pt:=
 ac (S:=bH [(dA,BK)]) (ag (ab rW ae)) nH (fun _=> Nat.le_of_ble_eq_true rfl) (wN rfl)
theorem rk:Tri Tryz.prog aR (mP).pt:=
 ac (S:=bH [(cN,BM)]) (ag (ab pv ae)) pO (fun _=> Nat.le_of_ble_eq_true rfl) (qf rfl)
theorem mM:Tri Tryz.prog cn (uj Region (bH [(aR,mP)])).pt:=
 ac (S:=bH [(aR,mP)]) (ag (ab rk ae)) mb (fun _=> Nat.le_of_ble_eq_true rfl) (Dd)
theorem lB:Tri Tryz.prog bJ (wT Region (bH [(aR,mP)])).pt:=
 ac (S:=bH [(cn,uj Region (bH [(aR,mP)]))]) (ag (ab mM ae)) kC (fun _=> Nat.le_of_ble_eq_true rfl) (De rfl)
theorem tw:Tri Tryz.prog dS (FJ).pt:=
 ac (S:=bH [(bJ,wT Region (bH [(aR,mP)]))]) (ag (ab lB ae)) rM (fun _=> Nat.le_of_ble_eq_true rfl) (sq (S0:=(bH [(aR,mP)])) rfl rfl)
theorem mV: ∀n,Tri Tryz.prog aK (mO n).pt
 | 0=> lU fun x h=> Oh h
 | n+1=>
   have h1:Tri Tryz.prog bu (uj Cond (bH [(aK,mO n)])).pt:=ac (S:=bH [(aK,mO n)]) (ag (ab (mV n) ae)) ip (fun _=> Nat.le_of_ble_eq_true rfl) (AA)
   have h2:Tri Tryz.prog aB (wT Cond (bH [(aK,mO n)])).pt:=ac (S:=bH [(bu,uj Cond (bH [(aK,mO n)]))]) (ag (ab h1 ae)) gd (fun _=> Nat.le_of_ble_eq_true rfl) (AB rfl)
   ac (S:=bH [(aB,wT Cond (bH [(aK,mO n)]))]) (ag (ab h2 ae)) ux (fun _=> Nat.le_of_ble_eq_true rfl) (vv (S0:=(bH [(aK,mO n)])) n rfl rfl)
theorem wm:Tri Tryz.prog aK (yl).pt:=By (fun n=> mV n) (BG (fun x h=> h))
theorem mB: ∀n,Tri Tryz.prog bQ (yo n).pt
 | 0=> lU fun x h=> Oh h.1
 | n+1=> ac (S:=bH [(aK,yl),(bQ,yo n)]) (ag (ab wm (ab (mB n) ae))) sG (fun _=> Nat.le_of_ble_eq_true rfl) (tM n rfl rfl)
theorem u5:Tri Tryz.prog bQ (BN).pt:=By (fun n=> mB n) (BG (fun x h=> h))
theorem iW: ∀n,Tri Tryz.prog bj (lW n).pt
 | 0=> lU fun x h=> by obtain⟨_,y,h⟩:=h;cases h
 | n+1=>
   have g1:Tri Tryz.prog av (wS n).pt:=ac (S:=bH [(bj,lW n)]) (ag (ab (iW n) ae)) qG (fun _=> Nat.le_of_ble_eq_true rfl) (Hy n rfl)
   have g2:Tri Tryz.prog aU (DD n).pt:=ac (S:=bH [(av,wS n)]) (ag (ab g1 ae)) qF (fun _=> Nat.le_of_ble_eq_true rfl) (Hx n rfl)
   have g3:Tri Tryz.prog bu (uj Cond (bH [(av,wS n),(aU,DD n)])).pt:=ac (S:=bH [(av,wS n),(aU,DD n)]) (ag (ab g1 (ab g2 ae))) ip (fun _=> Nat.le_of_ble_eq_true rfl) (AA)
   have g4:Tri Tryz.prog aB (wT Cond (bH [(av,wS n),(aU,DD n)])).pt:=ac (S:=bH [(bu,uj Cond (bH [(av,wS n),(aU,DD n)]))]) (ag (ab g3 ae)) gd (fun _=> Nat.le_of_ble_eq_true rfl) (AB rfl)
   ac (S:=bH [(av,wS n),(aB,wT Cond (bH [(av,wS n),(aU,DD n)])),(cx,qq),(cy,yr),(iz,BL),(ap,lI),(iy,FH),(br,yh),(dS,FJ)]) (ag (ab g1 (ab g4 (ab mW (ab u9 (ab Aw (ab dX (ab Av (ab jU (ab tw ae)))))))))) sI (fun _=> Nat.le_of_ble_eq_true rfl) (Lp (S0:=(bH [(av,wS n),(aU,DD n)])) n rfl rfl rfl rfl rfl rfl rfl rfl rfl rfl rfl)
theorem r6:Tri Tryz.prog aV (wy).pt:=
 ac (S:=bH []) (ag ae) qH (fun _=> Nat.le_of_ble_eq_true rfl) (Hz)
theorem pu:Tri Tryz.prog cM (uj Int (bH [(aV,wy)])).pt:=
 ac (S:=bH [(aV,wy)]) (ag (ab r6 ae)) nG (fun _=> Nat.le_of_ble_eq_true rfl) (IP)
theorem mN:Tri Tryz.prog cp (wT Int (bH [(aV,wy)])).pt:=
 ac (S:=bH [(cM,uj Int (bH [(aV,wy)]))]) (ag (ab pu ae)) mc (fun _=> Nat.le_of_ble_eq_true rfl) (IQ rfl)
theorem vd:Tri Tryz.prog dw (Nu).pt:=
 ac (S:=bH [(bE,yt),(cp,wT Int (bH [(aV,wy)])),(bj,lW 21)]) (ag (ab kT (ab mN (ab (iW 21) ae)))) sM (fun _=> Nat.le_of_ble_eq_true rfl) (Ls (S0:=(bH [(aV,wy)])) rfl rfl rfl rfl)
theorem tz:Tri Tryz.prog da (Jn).pt:=
 ac (S:=bH [(ew,yp),(bQ,BN),(bE,yt),(bj,lW 21)]) (ag (ab u6 (ab u5 (ab kT (ab (iW 21) ae))))) rN (fun _=> Nat.le_of_ble_eq_true rfl) (IN rfl rfl rfl rfl)
theorem zC:Tri Tryz.prog eY (Jm).pt:=
 ac (S:=bH []) (ag ae) w8 (fun _=> Nat.le_of_ble_eq_true rfl) (xK)
theorem Gp:Tri Tryz.prog j9 (FM).pt:=
 ac (S:=bH []) (ag ae) DK (fun _=> Nat.le_of_ble_eq_true rfl) (E4)
theorem Au:Tri Tryz.prog iw (vE).pt:=
 ac (S:=bH [(eY,Jm),(da,Jn),(j9,FM)]) (ag (ab zC (ab tz (ab Gp ae)))) yL (fun _=> Nat.le_of_ble_eq_true rfl) (Hw rfl rfl rfl)
theorem zB:Tri Tryz.prog eX (yg).pt:=
 ac (S:=bH []) (ag ae) w7 (fun _=> Nat.le_of_ble_eq_true rfl) (xJ)
theorem wR:Tri Tryz.prog ix (Nt).pt:=
 ac (S:=bH [(uY,s_m_New),(fQ,s_m_Corpus),(gS,s_m_Mod),(eX,yg),(dw,Nu),(iw,vE)]) (ag (ab LC (ab wQ (ab BF (ab zB (ab vd (ab Au ae))))))) mH (fun _=> Nat.le_of_ble_eq_true rfl) (wL rfl rfl rfl rfl rfl rfl)
end Go.Gv

namespace Go.Gv
open Go.ChangeShapes Go.WideShapes Go.ChangeAt Go.RowKit
section
variable {H:Type} {ec:TypeId×Value→H} {P:Program} {w:World} {base:Nat} {spare:Nat→Bool} {held:Bool} {tp I:Nat→Prop}
def OpR (tp I:Nat→Prop) (w:World) (cs:List Value) (d:D):Prop:=cs.length=d.cells.length∧ ∀ (k:Nat) (y:Value) (c:D),cs[k]?=some y→d.cells[k]?=some c→y.oneCell'=true∧R tp I w y c
theorem OpR.one {y:Value} {d:D} (h:OpR tp I w [y] d) (hd:d.cells= [d]):R tp I w y d:=(h.2 0 y d rfl (by rw[hd];rfl)).2
theorem NE {t:TypeId} {fuel:Nat} {cs:List Value} {x:DataW H×List MemPlace} (ht:P.underlying t=some (.int .i64)) (h:DataW.trod ec P w base spare held fuel t cs=some x): ∃n:Int,OpR tp I w cs (Cod.enc n):=by
 obtain⟨n,rfl,_,_⟩:=DataW.trod_int ht h
 refine⟨n,rfl,fun k y c h1 h2=> ?_⟩
 cases k with
 | zero=> cases h1;cases h2;exact⟨rfl, .v _ rfl (fun s h=> by cases h)⟩
 | succ k=> simp at h1
theorem JD {Y:Type} [Cod Y] {t e:TypeId} (ht:P.underlying t=some (.slice e)) (hc:P.cellsOf e=Cod.wd Y) (h0:0 < Cod.wd Y)
 (hel: ∀ (n:Nat) (cs:List Value) (x:DataW H×List MemPlace),DataW.trod ec P w base spare held n e cs=some x→ ∃y:Y,OpR tp I w cs (Cod.enc y)) (hI: ∀b,b < w.heap.size→I b)
 {fuel:Nat} {cs:List Value} {x:DataW H×List MemPlace} (h:DataW.trod ec P w base spare held fuel t cs=some x): ∃l:List Y,OpR tp I w cs (Cod.enc l):=by
 have one: ∀ (v:Value) (l:List Y),v.oneCell'=true→R tp I w v (.list (Cod.wd Y) (l.map Cod.enc))→OpR tp I w [v] (Cod.enc l):=fun v l h1 h2=> ⟨rfl,fun k y c e1 e2=> by
  cases k with
  | zero=> cases e1;cases e2;exact⟨h1,h2⟩
  | succ k=> simp at e1⟩
 rcases DataW.trod_slice ht h with⟨rfl,_⟩ | ⟨a,len,cap,elems,rest,n,_,rfl,_,_,hl,hm,hlen,hel',_⟩
 ·exact⟨[],one _ [] rfl (.nolist none 0 _)⟩
 ·by_cases hz:len=0
  ·subst hz
   exact⟨[],one _ [] rfl (.nolist (some a) cap _)⟩
  ·have each: ∀i:_root_.Fin len,∃p:List Value×Y,w.cells? base (a.add (i*P.cellsOf e)) (P.cellsOf e)=some p.1∧OpR tp I w p.1 (Cod.enc p.2):=fun i=> by
    have h1:=hel' i i.2
    rw[List.getElem?_eq_getElem (by omega)] at h1
    obtain⟨cs',h2,h3⟩:=Option.bind_eq_some_iff.1 h1
    obtain⟨y,hy⟩:=hel n cs' _ h3
    exact⟨(cs',y),h2,hy⟩
   obtain⟨g,hg⟩:=Classical.axiomOfChoice each
   obtain⟨b,off,spot⟩:=a
   have cellAt: ∀ (i:_root_.Fin len) (j:Nat),j < Cod.wd Y→ ∃v,(g i).1[j]?=some v∧w.cell? ((Addr.add ⟨b,off,spot⟩ (i*Cod.wd Y)).add j)=some v:=fun i j hj=> by
    have h1:=World.cells?_some (hg i).1
    have h2:=h1.2.2 j (by rw[hc];exact hj)
    have h3:j < (g i).1.length:=by rw[h1.2.1,hc];exact hj
    refine⟨(g i).1[j],List.getElem?_eq_getElem h3,?_⟩
    rw[hc] at h2
    rw[h2,List.getElem?_eq_getElem h3]
   have hs:spot=none:=by
    obtain⟨v,_,h2⟩:=cellAt ⟨0,by omega⟩ 0 h0
    have:=World.cell?_spot h2
    simpa [Addr.add] using this
   subst hs
   have hadd: ∀ (o n:Nat),Addr.add ⟨b,o,none⟩ n=⟨b,o+n,none⟩:=fun o n=> by
    unfold Addr.add
    split
    ·rename_i e;subst e;rfl
    ·rfl
   have cellAt': ∀ (i:_root_.Fin len) (j:Nat),j < Cod.wd Y→ ∃v,(g i).1[j]?=some v∧w.cell? ⟨b,off+ (i*Cod.wd Y+j),none⟩=some v:=fun i j hj=> by
    obtain⟨v,h1,h2⟩:=cellAt i j hj
    refine⟨v,h1,?_⟩
    rw[hadd,hadd] at h2
    rw[←Nat.add_assoc]
    exact h2
   have hb:b < w.heap.size:=by
    obtain⟨v,_,h2⟩:=cellAt' ⟨0,by omega⟩ 0 h0
    unfold World.cell? at h2
    by_cases hlt:b < w.heap.size
    ·exact hlt
    ·simp only[Array.getElem?_eq_none (Nat.le_of_not_lt hlt)] at h2
     cases h2
   let es:List Y:=List.ofFn fun i=> (g i).2
   have hesl:es.length=len:=by simp[es]
   have hesi: ∀i:_root_.Fin len,(es.map Cod.enc)[(i:Nat)]?=some (Cod.enc (g i).2):=fun i=> by
    rw[List.getElem?_map]
    have:es[(i:Nat)]?=some (g i).2:=by simp[es]
    rw[this];rfl
   have hw: ∀d∈es.map Cod.enc,d.kn=true∧d.cells.length=Cod.wd Y:=fun d hd=> by
    obtain⟨y,_,rfl⟩:=List.mem_map.1 hd
    exact⟨Cod.kn y,Cod.wid y⟩
   have flatAt: ∀ (k:Nat) (c:D),(bz (es.map Cod.enc))[k]?=some c→ ∃v,w.cell? ⟨b,off+k,none⟩=some v∧v.oneCell'=true∧R tp I w v c:=fun k c hk=> by
    have hkl:=(List.getElem?_eq_some_iff.1 hk).1
    rw[aY (fun d hd=> (hw d hd).2),List.length_map,hesl] at hkl
    have hdm:k=(k/Cod.wd Y) *Cod.wd Y+k % Cod.wd Y:=by have:=Nat.div_add_mod k (Cod.wd Y);rw[Nat.mul_comm] at this;omega
    have hmod:k % Cod.wd Y < Cod.wd Y:=Nat.mod_lt _ h0
    have hq:k/Cod.wd Y < len:=Nat.div_lt_of_lt_mul (by rw[Nat.mul_comm];exact hkl)
    have g1:=eS (es:=es.map Cod.enc) (fun d hd=> (hw d hd).2) (i:=k/Cod.wd Y) hmod
    rw[←hdm,hk,hesi ⟨k/Cod.wd Y,hq⟩] at g1
    simp only[Option.bind_some] at g1
    obtain⟨v,h1,h2⟩:=cellAt' ⟨k/Cod.wd Y,hq⟩ (k % Cod.wd Y) hmod
    simp only at h2
    rw[←hdm] at h2
    exact⟨v,h2,(hg ⟨k/Cod.wd Y,hq⟩).2.2 _ v c h1 g1.symm⟩
   have hR:R tp I w (.slice (some ⟨b,off,none⟩) len cap) (.list (Cod.wd Y) (es.map Cod.enc)):=by
    have hll: (es.map (Cod.enc (X:=Y))).length=len:=by simp[hesl]
    rw[←hll]
    have rd: ∀ (k:Nat) (c:D),(bz (es.map Cod.enc))[k]?=some c→w.cell? ⟨b,off+k,none⟩=some ((w.cell? ⟨b,off+k,none⟩).getD Go.undef):=fun k c hk=> by
     obtain⟨v,h1,_⟩:=flatAt k c hk
     rw[h1];rfl
    refine .list b off cap _ (es.map Cod.enc) (fun k=> (w.cell? ⟨b,off+k,none⟩).getD Go.undef) (hI b hb) (by rw[hll];exact hl) hm hw rd (fun k c hk=> ?_) (fun k c hk=> ?_)
    ·obtain⟨v,h1,h2,_⟩:=flatAt k c hk
     rw[h1];exact h2
    ·obtain⟨v,h1,_,h2⟩:=flatAt k c hk
     rw[h1];exact h2
   exact⟨es,one _ es rfl hR⟩
end
end Go.Gv

namespace Go.Gv
open Go.ChangeShapes Go.WideShapes Go.ChangeAt Go.RowKit
section
variable {H:Type} {ec:TypeId×Value→H} {P:Program} {w:World} {base:Nat} {spare:Nat→Bool} {held:Bool} {tp I:Nat→Prop}
end
abbrev Sf (w:World):Nat→Prop:=bw (fun _=> False) (fun _=> False) de w
theorem NL {w:World} {b:Nat} (h:b < w.heap.size):Sf w b:=⟨h,fun h=> h,fun h=> h,fun⟨i,r,h,_⟩=> by simp[de] at h⟩
end Go.Gv

namespace Go.Gv
open Go.ChangeShapes Go.WideShapes Go.ChangeAt Go.RowKit
section
variable {H:Type} {ec:TypeId×Value→H} {P:Program} {w:World} {base:Nat} {spare:Nat→Bool} {held:Bool} {tp I:Nat→Prop}
end
end Go.Gv

namespace Go.Gv
open Cod (enc dec)
instance:Cod UInt8 where
 wd:=1
 enc n:= .v (.int .u8 n.toNat)
 dec | .v (.int .u8 n)=> if 0≤n∧n≤255 then some (UInt8.ofNat n.toNat) else none | _=> none
 kn _:=rfl
 wid _:=rfl
 dec_enc n:=by
  have:=n.toNat_lt
  simp only
  rw[if_pos (by omega)]
  congr 1
  rw[Int.toNat_natCast,UInt8.ofNat_toNat]
 le d x h:=by
  split at h
  ·split at h
   ·rename_i n hn
    cases h
    have e: ((UInt8.ofNat n.toNat).toNat:Int)=n:=by
     rw[UInt8.toNat_ofNat']
     omega
    show FrzTo de _ (.v (.int .u8 ((UInt8.ofNat n.toNat).toNat:Int)))
    rw[e]
    exact .same _
   ·cases h
  ·cases h
end Go.Gv

namespace Go.Gv
open Go.ChangeShapes Go.WideShapes Go.ChangeAt Go.RowKit
section
variable {H:Type} {ec:TypeId×Value→H} {P:Program} {w:World} {base:Nat} {spare:Nat→Bool} {held:Bool} {tp I:Nat→Prop}
theorem NF {t:TypeId} {fuel:Nat} {cs:List Value} {x:DataW H×List MemPlace} (ht:P.underlying t=some (.int .i64)) (h:DataW.trod ec P w base spare held fuel t cs=some x): ∃n:Int,InR .i64 n∧OpR tp I w cs (Cod.enc n):=by
 obtain⟨n,rfl,_,hw⟩:=DataW.trod_int ht h
 refine⟨n,?_,rfl,fun k y c h1 h2=> ?_⟩
 ·simp only[Lit.wf,Bool.and_eq_true,decide_eq_true_eq] at hw
  have h1:IntKind.i64.min= -9223372036854775808:=rfl
  have h2:IntKind.i64.max=9223372036854775807:=rfl
  rw[h1,h2] at hw
  exact hw
 ·cases k with
  | zero=> cases h1;cases h2;exact⟨rfl, .v _ rfl (fun s h=> by cases h)⟩
  | succ k=> simp at h1
end
theorem F1 {P:Program} {f:Nat} {X:Type} {A:gj X} {p:X→Prop} {q:X→Bool→Prop} (h:Tri P f (cF A p (Cod.enc (X:=Bool)) q).pt) (hq: ∀x y,q x y→y=true) {w:World} {vs:List Value} {ds:List D} {x:X} (hp:p x) (hlen:vs.length=ds.length)
 (hR: ∀ (k:Nat) (y:Value) (c:D),vs[k]?=some y→ds[k]?=some c→R (fun _=> False) (Sf w) w y c) (hdec:A.dec ds=some x) (hG:GlW (fun _=> False) (fun _=> False) w):
 Calls P f vs.toArray w fun e w'=> e= .returned (.bool true)∧Below w.heap.size w w':=by
 obtain⟨_,hc⟩:=h (fun _=> False) (fun _=> False) w vs ds de 0 (fun r H'=> r= .v (.bool true)) (fun b h=> h.elim) ⟨fun b h=> h.elim,hG.mono (fun _ h=> h) (fun b ⟨i,r,h,_⟩=> by simp[de] at h)⟩
  ⟨fun i j r s b h=> by simp[de] at h,fun i r b h=> by simp[de] at h,fun i r h=> by simp[de] at h⟩ hlen hR
  (by rw[n8,hdec];exact⟨hp,fun y hy=> by rw[hq x y hy];rfl⟩)
 refine hc.mono ?_
 rintro e w' ⟨v,r,H',tp',rfl,hr,_,_,_,hs,_,_,hv⟩
 subst hr
 have hv':=hv.inv_v
 subst hv'
 exact⟨rfl,hs.os,hs.tape,hs.output,hs.size,fun k hk=> hs.same k hk (fun⟨i,r,h,_⟩=> by simp[de] at h) (fun h=> h)⟩
end Go.Gv
