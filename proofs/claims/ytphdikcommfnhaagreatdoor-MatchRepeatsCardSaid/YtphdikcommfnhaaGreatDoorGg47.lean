/- A part of the framework and of the walks: Asm24 C4 W42. -/
import Derived.Test.YtphdikcommfnhaaGreatDoorGg28
import Derived.Test.YtphdikcommfnhaaGreatDoorGg32
import Derived.Test.YtphdikcommfnhaaGreatDoorGg29
import Derived.Test.YtphdikcommfnhaaGreatDoorGg35
import Derived.Test.YtphdikcommfnhaaGreatDoorGg36
import Derived.Test.YtphdikcommfnhaaGreatDoorGg46
import Derived.Test.YtphdikcommfnhaaGreatDoorGg43
import Derived.Test.YtphdikcommfnhaaGreatDoorGg20
import Derived.Test.YtphdikcommfnhaaGreatDoorGg25
import Derived.Test.YtphdikcommfnhaaGreatDoorGg22
set_option linter.unusedSimpArgs false
set_option linter.unusedVariables false
set_option linter.unusedSectionVars false
set_option maxRecDepth 100000
set_option maxHeartbeats 0

namespace Go.Gv
open Go.Proofs Cod
theorem tz{P:Program}{f:Nat}{A:Nat->PT}{A':PT}(h:∀n,Tri P f (A n))(hs:∀d ds H K,A' d ds H K->∃n,A n d ds H K):Tri P f A':=
 fun O tp w vs ds H d K a b c e g hA=>(hs d ds H K hA).elim fun n hn=>h n O tp w vs ds H d K a b c e g hn
theorem uK{P:Program}{f:Nat}{A:PT}(hs:∀d ds H K,¬A d ds H K):Tri P f A:=fun O tp w vs ds H d K a b c e g hA=>absurd hA (hs d ds H K)
theorem xY{X Y:Type}{A:cM X}{pre:Nat->X->Prop}{pre':X->Prop}{er:Y->D}{post:X->Y->Prop}(hx:∀x,pre' x->∃n,pre n x):∀d ds H K,(aS A pre' er post).pt d ds H K->∃n,(aS A (pre n) er post).pt d ds H K:=by
 intro d ds H K h
 rw[ra]at h
 cases e:A.dec ds with
 | none=>rw[e]at h;exact h.elim
 | some x=>
   rw[e]at h
   obtain⟨h1,h2⟩:=h
   obtain⟨n,hn⟩:=hx x h1
   exact⟨n,by rw[ra,e];exact⟨hn,h2⟩⟩
theorem gl{P:Program}{f:Nat}{X Y:Type}{A:cM X}{pre:X->Prop}{er:Y->D}{post:X->Y->Prop}(hx:∀x,¬pre x):Tri P f (aS A pre er post).pt:=uK fun d ds H K h=>by
 rw[ra]at h
 cases e:A.dec ds with
 | none=>rw[e]at h;exact h.elim
 | some x=>rw[e]at h;exact hx x h.1
theorem LQ{P:Program}{f:Nat}{Y Z:Type}{A:cM Z}{er:Y->D} :Tri P f (qbq A er fun _ _=>none).pt:=uK fun d ds H K h=>by
 obtain⟨id,b',x,z,ds',h1,h2,h3,h4,h5,⟨r,h6⟩,h7⟩:=h
 cases h6
theorem qb6{P:Program}{f:Nat} :Tri P f (qhE fun _ _ _=>none).pt:=uK fun d ds H K h=>by
 obtain⟨id',b',x,n',k,r,d0',h1,h2,h3,h4,h5⟩:=h
 cases h4
theorem qqF{p:Cond}(h:jd p<=0):False:=by rw[Nf]at h;omega
theorem Dn:Tri Tryz.prog dJ (Gb).pt:=
 ae (ag ac) Bd (fun _=>qtF rfl) (BX)
theorem EJ:Tri Tryz.prog nZ (s_cpFold1).pt:=UX (S:=Jy [(dJ,Gb)]) (ag (aa Dn ac)) rfl
theorem EK:Tri Tryz.prog oa (X6).pt:=
 ae (ag ac) CV (fun _=>qtF rfl) (DH)
theorem BG:Tri Tryz.prog kW (Yj).pt:=
 ae (ag (aa EK ac)) Ac (fun _=>qtF rfl) (AG rfl)
theorem EE:Tri Tryz.prog cv (X7).pt:=
 ae (ag (aa BG ac)) CA (fun _=>qtF rfl) (Dz rfl)
theorem km:Tri Tryz.prog ci (Yc).pt:=
 ae (ag (aa EE ac)) jH (fun _=>qtF rfl) (I4 rfl)
theorem pD:Tri Tryz.prog dy (X3).pt:=
 ae (ag (aa km ac)) nO (fun _=>qtF rfl) (I3 rfl)
theorem Dj:Tri Tryz.prog mM (OD).pt:=
 ae (ag ac) A4 (fun _=>qtF rfl) (LI)
theorem FZ:Tri Tryz.prog qa (Te).pt:=
 ae (ag (aa Dj ac)) D4 (fun _=>qtF rfl) (QP rfl)
theorem vd:Tri Tryz.prog dH (qca).pt:=
 ae (ag (aa FZ (aa pD ac))) tO (fun _=>qtF rfl) (uD rfl rfl)
theorem vj:Tri Tryz.prog dH (Uj).pt:=GN vd rfl (fun _=>Pn (fun _ h=>by cases h))
theorem IL:Tri Tryz.prog rL (Oq).pt:=
 QZ (ag (aa vj ac)) FE (fun _=>qtF rfl) (Gn rfl)
theorem Qa:Tri Tryz.prog yL (XP).pt:=
 ae (ag ac) Mk (fun _=>qtF rfl) (NF)
theorem bX:Tri Tryz.prog bb (sU).pt:=
 eI (ag (aa Ce ac)) yo (fun _=>qtF rfl) (Lt rfl)
theorem Ae:Tri Tryz.prog jJ (SK).pt:=
 eI (ag (aa Ce ac)) yn (fun _=>qtF rfl) (Ls rfl)
theorem kq:Tri Tryz.prog dn (LZ).pt:=
 eI (ag (aa bX (aa Ae ac))) sM (fun _=>qtF rfl) (BO rfl rfl)
theorem xJ:Tri Tryz.prog gR (XQ).pt:=
 eI (ag (aa bX (aa xU (aa kq ac)))) vR (fun _=>qtF rfl) (Gp rfl rfl rfl)
theorem zt:Tri Tryz.prog iO (XR).pt:=
 eI (ag (aa bX (aa xJ (aa IL ac)))) xu (fun _=>qtF rfl) (Jc rfl rfl rfl)
theorem Af:Tri Tryz.prog jK (SL).pt:=
 eI (ag (aa bX (aa Qa (aa zt (aa xU (aa kq ac)))))) yp (fun _=>qtF rfl) (Lu rfl rfl rfl rfl rfl)
theorem xI:Tri Tryz.prog gQ (XO).pt:=
 eI (ag (aa bX (aa Af ac))) vQ (fun _=>qtF rfl) (Gm rfl rfl)
theorem xK:Tri Tryz.prog gS (XS).pt:=
 eI (ag (aa bX (aa xI ac))) vS (fun _=>qtF rfl) (Gq rfl rfl)
theorem zr:Tri Tryz.prog iN (XN).pt:=
 eI (ag (aa bX (aa xK ac))) xt (fun _=>qtF rfl) (I5 rfl rfl)
theorem zq:∀n,Tri Tryz.prog oU (qhE (tB n)).pt
 | 0=>qb6
 | n+1=>QV (ag (aa (zq n) ac)) Hv (by decide) (Ja n rfl)
theorem ED:Tri Tryz.prog nR (On).pt:=
 ae (ag ac) Cz (fun _=>qtF rfl) (Dy)
theorem Dg:Tri Tryz.prog mC (Kj).pt:=
 ae (ag (aa ED ac)) AT (fun _=>qtF rfl) (BM rfl)
theorem qB:∀n,Tri Tryz.prog fW (AN n).pt
 | 0=>gl fun x h=>by cases h
 | n+1=>ae (ag (aa Dg (aa (qB n) ac))) zW (fun _=>qtF rfl) (Az n rfl rfl)
theorem sC:∀n,Tri Tryz.prog ic (Rg n).pt
 | 0=>gl fun x h=>by obtain⟨m,h⟩:=h;cases h
 | n+1=>ae (ag (aa (sC n) ac)) AU (fun _=>qtF rfl) (BN n rfl)
theorem ve:Tri Tryz.prog jo (Oo).pt:=
 ae (ag (aa (zq 50) (aa (qB 50) (aa (sC 50) ac)))) CD (fun _=>qtF rfl) (DB rfl rfl rfl)
theorem Ar:Tri Tryz.prog oW (DT).pt:=
 ae (ag (aa qfo (aa zr (aa ve ac)))) Hx (fun _=>qtF rfl) (Jd rfl rfl rfl)
theorem At:Tri Tryz.prog pd (qcd).pt:=
 ae (ag (aa Ar ac)) HQ (fun _=>qtF rfl) (Jr rfl)
theorem EF:Tri Tryz.prog nS (qcb).pt:=
 ae (ag ac) CB (fun _=>qtF rfl) (DA)
theorem qC:Tri Tryz.prog fl (L0).pt:=
 qZ (ag ac) yu (fun _=>qtF rfl) (qfa)
theorem hZ:Tri Tryz.prog cT (Ga).pt:=
 qZ (ag (aa qC ac)) vU (fun _=>qtF rfl) (Xg rfl)
theorem IK:∀n,Tri Tryz.prog cx (G5 n).pt/\Tri Tryz.prog gT (XV n).pt/\Tri Tryz.prog dI (Re n).pt
 | 0=>⟨LQ,LQ,LQ⟩
 | n+1=>⟨qZ (ag (aa (IK n).1 (aa (IK n).2.1 (aa hZ ac)))) xE (fun _=>qtF rfl) (qbN n rfl rfl rfl),qZ (ag (aa (IK n).1 (aa (IK n).2.2 (aa hZ (aa qC ac))))) vT (fun _=>qtF rfl) (Xd n rfl rfl rfl rfl),qZ (ag (aa (IK n).1 (aa (IK n).2.2 (aa hZ ac)))) tQ (fun _=>qtF rfl) (QL n rfl rfl rfl)⟩
theorem Qc:Tri Tryz.prog yW (qeb 50).pt:=
 ae (ag (aa (IK 50).1 ac)) Mx (fun _=>qtF rfl) (qou 50 rfl)
theorem Ag:Tri Tryz.prog jM (XW).pt:=
 ae (ag ac) yv (fun _=>qtF rfl) (qbP)
theorem EC:Tri Tryz.prog ct (qea).pt:=
 ae (ag (aa EJ ac)) Cy (fun _=>qtF rfl) (QH rfl)
theorem FY:Tri Tryz.prog cK (qef).pt:=
 ae (ag ac) DZ (fun _=>qtF rfl) (Fm)
theorem Aq:Tri Tryz.prog oV (X1).pt:=
 ae (ag (aa ve (aa Kb (aa Qc (aa Ag (aa EF (aa FY (aa EC ac)))))))) Hw (fun _=>qtF rfl) (Jb rfl rfl rfl rfl rfl rfl rfl)
theorem JY:Tri Tryz.prog tT (Tg false).pt:=
 ae (ag (aa Aq ac)) Hy (fun _=>qtF rfl) (Je rfl)
theorem Dh:Tri Tryz.prog mD (Tg true).pt:=
 ae (ag (aa Aq ac)) AV (fun _=>qtF rfl) (BP rfl)
theorem J3:Tri Tryz.prog ue (SX).pt:=
 ae (ag (aa Ar (aa JY (aa Dh ac)))) HP (fun _=>qtF rfl) (Jq rfl rfl rfl)
theorem xj:Tri Tryz.prog bL (Ym).pt:=
 ae (ag ac) CP (fun _=>qtF rfl) (DG)
theorem F1:Tri Tryz.prog dQ (Kp).pt:=
 ae (ag (aa xj ac)) CO (fun _=>qtF rfl) (DF rfl)
theorem BD:Tri Tryz.prog de (SM).pt:=
 ae (ag (aa xj (aa F1 ac))) yt (fun _=>qtF rfl) (zT rfl rfl)
theorem jV:Tri Tryz.prog br (AO).pt:=
 ae (ag (aa Kb ac)) yr (fun _=>qtF rfl) (zS rfl)
theorem F2:Tri Tryz.prog qc (Ou).pt:=
 ae (ag (aa jV ac)) D9 (fun _=>qtF rfl) (Fv rfl)
theorem BE:Tri Tryz.prog kU (Yg).pt:=
 ae (ag ac) Aa (fun _=>qtF rfl) (AB)
theorem J2:Tri Tryz.prog ud (Yf).pt:=
 ae (ag (aa F2 (aa BE ac))) HO (fun _=>qtF rfl) (Jp rfl rfl)
theorem pE:∀n,Tri Tryz.prog cH (Oz n).pt
 | 0=>gl fun x h=>qqF h.1
 | n+1=>ae (ag (aa (pE n) ac)) yw (fun _=>qtF rfl) (xP n rfl)
theorem qD:Tri Tryz.prog cH (Hb).pt:=tz (fun n=>pE n) (xY (fun x h=>h))
theorem tn:Tri Tryz.prog ij (DV).pt:=
 ae (ag ac) A8 (fun _=>qtF rfl) (AD)
theorem vi:Tri Tryz.prog bC (L6).pt:=
 ae (ag ac) tR (fun _=>qtF rfl) (uF)
theorem qv:Tri Tryz.prog dP (Rm Attr (Jy [(bC,L6)])).pt:=
 ae (ag (aa vi ac)) pu (fun _=>qtF rfl) (GE)
theorem cV:Tri Tryz.prog bv (zI).pt:=
 ae (ag (aa qv ac)) vV (fun _=>qtF rfl) (xp (S0:=(Jy [(bC,L6)])) rfl rfl)
theorem tr:Tri Tryz.prog ip (He).pt:=
 ae (ag (aa cV ac)) Bb (fun _=>qtF rfl) (BU rfl)
theorem Dm:Tri Tryz.prog mO (OB).pt:=
 ae (ag ac) Bc (fun _=>qtF rfl) (BW)
theorem ew:Tri Tryz.prog bZ (G9).pt:=
 ae (ag ac) vP (fun _=>qtF rfl) (GD)
theorem ko:Tri Tryz.prog aP (Rj).pt:=
 ae (ag (aa ew ac)) jw (fun _=>qtF rfl) (BZ rfl)
theorem tq:Tri Tryz.prog il (Ha).pt:=
 ae (ag (aa tr (aa cV (aa BD ac)))) A9 (fun _=>qtF rfl) (BT rfl rfl rfl)
theorem Dl:Tri Tryz.prog eT (OA).pt:=
 ae (ag (aa tn (aa tq (aa At (aa cV (aa GK (aa jV (aa ko ac)))))))) rI (fun _=>qtF rfl) (BV rfl rfl rfl rfl rfl rfl rfl)
theorem wQ:Tri Tryz.prog au (Td).pt:=
 ae (ag (aa Dl ac)) lE (fun _=>qtF rfl) (vo rfl)
theorem tm:∀n,Tri Tryz.prog bO (Ox n).pt
 | 0=>gl fun x h=>by obtain⟨a,lb,_,h,_⟩:=h;cases h
 | n+1=>ae (ag (aa wQ (aa (tm n) ac))) sY (fun _=>qtF rfl) (BS n rfl rfl)
theorem EH:Tri Tryz.prog bO (Ow).pt:=tz (fun n=>tm n) (xY (fun x h=>h))
theorem zx:Tri Tryz.prog dB (Yl).pt:=
 ae (ag (aa qD (aa EH ac))) nz (fun _=>qtF rfl) (xQ rfl rfl)
theorem Ad:Tri Tryz.prog jI (SW).pt:=
 ae (ag ac) ym (fun _=>qtF rfl) (LJ)
theorem wO:Tri Tryz.prog fV (SZ).pt:=
 ae (ag (aa Ad ac)) uP (fun _=>qtF rfl) (Fy rfl)
theorem zw:Tri Tryz.prog bI (Cr).pt:=
 ae (ag (aa wO ac)) xF (fun _=>qtF rfl) (xO rfl)
theorem sP:Tri Tryz.prog cN (Rm Region (Jy [(bI,Cr)])).pt:=
 ae (ag (aa zw ac)) iG (fun _=>qtF rfl) (ES)
theorem qw:Tri Tryz.prog bj (Vb Region (Jy [(bI,Cr)])).pt:=
 ae (ag (aa sP ac)) fF (fun _=>qtF rfl) (ET rfl)
theorem BF:Tri Tryz.prog kV (Yi).pt:=
 ae (ag (aa qw ac)) Ab (fun _=>qtF rfl) (AE (S0:=(Jy [(bI,Cr)])) rfl rfl)
theorem sD:∀n,Tri Tryz.prog io (Hd n).pt
 | 0=>gl fun x h=>by obtain⟨_,y,h⟩:=h;cases h
 | n+1=>
   have g1:Tri Tryz.prog aJ (Ri n).pt:=ae (ag (aa (sD n) ac)) yy (fun _=>qtF rfl) (UP n rfl)
   have g2:Tri Tryz.prog bV (Yd n).pt:=ae (ag (aa g1 ac)) yx (fun _=>qtF rfl) (UO n rfl)
   have g3:Tri Tryz.prog fu (Rm Cond (Jy [(aJ,Ri n),(bV,Yd n)])).pt:=ae (ag (aa g1 (aa g2 ac))) tP (fun _=>qtF rfl) (US)
   have g4:Tri Tryz.prog eo (Vb Cond (Jy [(aJ,Ri n),(bV,Yd n)])).pt:=ae (ag (aa g3 ac)) qH (fun _=>qtF rfl) (UT rfl)
   ae (ag (aa g1 (aa g4 (aa tr (aa Dm (aa J3 (aa cV (aa J2 (aa ew (aa BF ac)))))))))) Ba (fun _=>qtF rfl) (qbL (S0:=(Jy [(aJ,Ri n),(bV,Yd n)])) n rfl rfl rfl rfl rfl rfl rfl rfl rfl rfl rfl)
theorem F4:Tri Tryz.prog qe (wX).pt:=
 ae (ag ac) Eb (fun _=>qtF rfl) (Fw)
theorem ts:Tri Tryz.prog iq (lO).pt:=
 ae (ag (aa F4 ac)) Be (fun _=>qtF rfl) (BY rfl)
theorem Ne:Tri Tryz.prog ww (Cs).pt:=
 ae (ag ac) JP (fun _=>qtF rfl) (LH)
theorem zo:Tri Tryz.prog iM (Yk).pt:=
 ae (ag (aa ts ac)) xr (fun _=>qtF rfl) (qfg rfl)
theorem F0:Tri Tryz.prog kC (s_cmpM).pt:=
 ae (ag (aa ts (aa zo (aa Ne ac)))) D5 (fun _=>qtF rfl) (qff rfl rfl rfl)
theorem F3:Tri Tryz.prog qd (Kv).pt:=
 ae (ag ac) Ea (fun _=>qtF rfl) (UR)
theorem JZ:Tri Tryz.prog tU (X2).pt:=
 ae (ag ac) Hz (fun _=>qtF rfl) (qe2)
theorem IM:Tri Tryz.prog wl (L2).pt:=
 ae (ag (aa JZ ac)) OJ (fun _=>qtF rfl) (qbB rfl)
theorem J1:Tri Tryz.prog ub (ST).pt:=
 ae (ag ac) HM (fun _=>qtF rfl) (Jo)
theorem EI:Tri Tryz.prog nY (SV).pt:=
 ae (ag (aa (sD 21) ac)) CU (fun _=>qtF rfl) (qbK rfl)
theorem wP:Tri Tryz.prog cG (X9).pt:=
 ae (ag ac) lD (fun _=>qtF rfl) (qe7)
theorem qkK:Tri Tryz.prog cG b_masg.pt:=NY rfl (DN (ag ac) lD (fun _=>qtF rfl) (qbF)) fun y c hc=>by
 simp at hc
 subst hc
 exact If _
theorem Dk:Tri Tryz.prog ig (qfE).pt:=
 ae (ag (aa wP (aa EI (aa ew ac)))) A5 (fun _=>qtF rfl) (qe5 rfl rfl rfl)
theorem qkI:Tri Tryz.prog ig b_mtok.pt:=EV Dk fun z=>by
 obtain⟨s,v⟩:=z
 simp only[qkc]
 refine Pn fun d hd=>?_
 simp only[qtM,quc,or_false]at hd
 rcases hd with rfl|rfl
 ·exact ZK fun d hd=>by
   simp only[qtM,quc,or_false]at hd
   rcases hd with rfl|rfl|rfl|rfl <;> exact If _
 ·exact If _
theorem zu:Tri Tryz.prog bH (Cp).pt:=
 ae (ag ac) xz (fun _=>qtF rfl) (qbG)
theorem BC:Tri Tryz.prog fX (qfF).pt:=
 have h1:Tri Tryz.prog cN (Rm Region (Jy [(bH,Cp)])).pt:=ae (ag (aa zu ac)) iG (fun _=>qtF rfl) (ES)
 have h2:Tri Tryz.prog bj (Vb Region (Jy [(bH,Cp)])).pt:=ae (ag (aa h1 ac)) fF (fun _=>qtF rfl) (ET rfl)
 ae (ag (aa h2 ac)) zY (fun _=>qtF rfl) (qe8 (S0:=Jy [(bH,Cp)]) rfl rfl)
theorem qkL:Tri Tryz.prog fX b_manc.pt:=EV BC fun _=>If _
theorem Nc:Tri Tryz.prog wu (SU).pt:=
 ae (ag ac) JM (fun _=>qtF rfl) (qbD)
theorem Nd:Tri Tryz.prog th clC.pt:=U1 Tryz.cloneSet rfl (gD Tryz.func184 (by kernel_rfl) rfl)
theorem EG:Tri Tryz.prog nX (X8).pt:=
 QY (ag ac) CQ (fun _=>qtF rfl) (qe6)
theorem Yx:Tri Tryz.prog cF (Kl 0).pt:=uK fun d ds H K h=>by
 obtain⟨id,b',x,z,ds',h1,h2,h3,h4,h5,h6,h7⟩:=h
 obtain⟨_,_,_,q,_,hq,_⟩:=h6
 rw[Gc]at hq
 omega
theorem Uf:∀n,Tri Tryz.prog cF (Kl n).pt
 | 0=>Yx
 | n+1=>
   have h1:Tri Tryz.prog jr (Rh n).pt:=AJ (ag (aa (Uf n) ac)) CN (fun _=>qtF rfl) (qfb n rfl)
   have h2:Tri Tryz.prog kT (qed n).pt:=AJ (ag (aa Nc (aa h1 (aa (Uf n) (aa Nd (aa EG ac)))))) zX (fun _=>qtF rfl) (qiv n rfl rfl rfl rfl rfl)
   AJ (ag (aa qkI (aa qkL (aa h1 (aa (Uf n) (aa h2 ac)))))) A6 (fun _=>qtF rfl) (qbA n rfl rfl rfl rfl rfl)
theorem qg3:Tri Tryz.prog lH (Rf kC pj).pt:=U0 Tryz.sortMatch rfl (fun w=>Tryz.isAgg55 w) (fun w=>Tryz.sizeOf55 w) rfl F0 (gD Tryz.func19 (by kernel_rfl) rfl) (gD Tryz.func83 (by kernel_rfl) rfl)
theorem qjc{p:Pat}(h:fe p<=0):False:=by rw[Gc]at h;omega
theorem wV:Tri Tryz.prog bL (yc).pt:=
 ae (ag ac) D7 (fun _=>qtF rfl) (Fu)
theorem FB:Tri Tryz.prog dQ (Ot).pt:=
 ae (ag (aa wV ac)) D6 (fun _=>qtF rfl) (Ft rfl)
theorem AI:Tri Tryz.prog de (Om).pt:=
 ae (ag (aa wV (aa FB ac))) zZ (fun _=>qtF rfl) (AA rfl rfl)
theorem LK:Tri Tryz.prog ws (XM).pt:=
 ae (ag ac) JI (fun _=>qtF rfl) (LA)
theorem LM:Tri Tryz.prog jp (L3).pt:=
 ae (ag (aa LK ac)) JL (fun _=>qtF rfl) (LD rfl)
theorem Jv:Tri Tryz.prog dX (Co).pt:=
 ae (ag (aa AI ac)) HF (fun _=>qtF rfl) (Ji rfl)
theorem GG:Tri Tryz.prog dz (ya).pt:=
 ae (ag ac) FJ (fun _=>qtF rfl) (Gu)
def WX:Nat->Spc:=Jy [(jp,L3),(dX,Co),(dz,ya)]
def qsT(n:Nat):Nat->Spc:=Jy [(eR,XY n)]
theorem qam{S:Nat->Spc}(h:∀f,Tri Tryz.prog f (S f).pt):Tri Tryz.prog aK (L9 S).pt:=
 ae (ag (aa (ae (S:=S) h qG (fun _=>qtF rfl) qY) ac)) nP (fun _=>qtF rfl) (pg rfl)
theorem wY:∀n,Tri Tryz.prog gx (Kk n).pt
 | 0=>gl fun x h=>qjc h.1
 | n+1=>
   have h1:Tri Tryz.prog eR (XY n).pt:=ae (ag (aa (wY n) ac)) A2 (fun _=>qtF rfl) (BR n rfl)
   ae (ag (aa (qam (S:=qsT n) (ag (aa h1 ac))) ac)) D2 (fun _=>qtF rfl) (Fo (S0:=qsT n) n rfl rfl)
theorem Fz:Tri Tryz.prog gx (G6).pt:=
 tz (fun n=>wY n) (xY (fun x h=>⟨fe x.1,qtP _,h⟩))
def qrw(n:Nat):Nat->Spc:=Jy [(gy,Yh WX n)]
def qrv(n:Nat):Nat->Spc:=Jy [(aK,L9 (qrw n)),(jp,L3),(dX,Co),(dz,ya)]
theorem qcB(n:Nat)(d:D)(f:Pat->Bool)(h:FunIs WX d f):FunIs (qrv n) d f:=by
 obtain⟨g,c,pc,a,b,e⟩:=h
 refine⟨g,c,pc,a,?_,e⟩
 by_cases hg:g=aK
 ·subst hg
  have:WX aK=Spc.none:=rfl
  rw[this]at b
  cases b
 ·rw[<-b]
  unfold qrv WX
  rw[Jy,if_neg hg]
theorem Am:∀n,Tri Tryz.prog ff (SY WX n).pt
 | 0=>gl fun x h=>by obtain⟨f,h1,h2⟩:=h;exact qjc h2
 | n+1=>
   have h1:Tri Tryz.prog gy (Yh WX n).pt:=ae (ag (aa (Am n) ac)) D3 (fun _=>qtF rfl) (Fs (S0:=WX) n rfl)
   ae (S:=qrv n) (ag (aa (qam (S:=qrw n) (ag (aa h1 ac))) (aa LM (aa Jv (aa GG ac))))) HG (fun _=>qtF rfl) (Jj (S0:=qrw n) (N:=WX) n (qcB n) rfl rfl)
theorem tw:Tri Tryz.prog ff (Cq WX).pt:=
 tz (fun n=>Am n) (xY (fun x h=>by obtain⟨f,h⟩:=h;exact⟨fe x.1,f,h,qtP _⟩))
theorem Ak:Tri Tryz.prog pb (L8).pt:=
 ae (ag (aa Fz (aa tw ac))) HJ (fun _=>qtF rfl) (Jm (N:=WX) rfl rfl rfl)
theorem Ju:Tri Tryz.prog tZ (wW).pt:=
 ae (ag (aa Ak (aa tw ac))) HE (fun _=>qtF rfl) (Jh (N:=WX) rfl rfl rfl rfl)
theorem Cv:∀n,Tri Tryz.prog mK (XX n).pt
 | 0=>gl fun x h=>qjc h.1
 | n+1=>ae (ag (aa (Cv n) ac)) JJ (fun _=>qtF rfl) (LB n rfl)
theorem LL:Tri Tryz.prog mK (SO).pt:=
 tz (fun n=>Cv n) (xY (fun x h=>⟨fe x,qtP _,h⟩))
theorem yl:∀n,Tri Tryz.prog iQ (Oy n).pt
 | 0=>gl fun x h=>h
 | n+1=>ae (ag (aa (yl n) ac)) FK (fun _=>qtF rfl) (Gy n rfl)
theorem GH:Tri Tryz.prog iQ (Kt).pt:=
 tz (fun n=>yl n) (xY (fun x h=>h))
theorem Aj:Tri Tryz.prog oY (L5).pt:=
 ae (ag (aa GH ac)) HH (fun _=>qtF rfl) (Jk rfl)
theorem yj:∀n,Tri Tryz.prog dA (KX n).pt
 | 0=>uK fun d ds H K ⟨id,v,l,a,x,h1,h2,h3,h4,h5⟩=>qjc h4.1
 | n+1=>GM (ag (aa (yj n) (aa Aj ac))) wZ (by decide) (Gw n rfl rfl)
theorem uH:Tri Tryz.prog dA i_leavesQA.pt:=tz (fun n=>yj n) fun d ds H K ⟨id,v,l,a,x,h1,h2,h3,h4,h5⟩=>⟨fe x,id,v,l,a,x,h1,h2,h3,⟨qtP _,h4⟩,h5⟩
theorem xT:Tri Tryz.prog dA s_leavesQ.pt:=Q1 (DN (ag (aa uH (aa Aj ac))) wZ (fun _=>qtF rfl) (Fp rfl rfl)) uH
theorem Xp:Tri Tryz.prog aP s_has2.pt:=
 have h:Tri Tryz.prog aP s_hasE.pt:=ae (ag (aa ew ac)) jw (fun _=>qtF rfl) (Ay rfl)
 Q1 h (GN h rfl fun _=>If _)
theorem yk:∀n,Tri Tryz.prog cj (Pc n).pt
 | 0=>uK fun d ds H K ⟨id,v,l,a,x,h1,h2,h3,h4,h5⟩=>qjc h4.1
 | n+1=>GM (ag (aa Xp (aa (yk n) ac))) xa (by decide) (Gx n rfl rfl)
theorem uI:Tri Tryz.prog cj i_labelsA.pt:=tz (fun n=>yk n) fun d ds H K ⟨id,v,l,a,x,h1,h2,h3,h4,h5⟩=>⟨fe x,id,v,l,a,x,h1,h2,h3,⟨qtP _,h4⟩,h5⟩
theorem lL:Tri Tryz.prog cj s_qlabels.pt:=Q1 (DN (ag (aa Xp (aa uI ac))) xa (fun _=>qtF rfl) (Fq rfl rfl)) uI
theorem GJ:Tri Tryz.prog rQ (yb).pt:=
 ae (ag (aa Ju (aa lL ac))) FL (fun _=>qtF rfl) (Gz rfl rfl)
theorem Nb:Tri Tryz.prog wt (X4).pt:=
 ae (ag ac) JK (fun _=>qtF rfl) (LC)
theorem As:Tri Tryz.prog pa (L7).pt:=
 ae (ag (aa Nb ac)) HI (fun _=>qtF rfl) (Jl rfl)
theorem sQ:Tri Tryz.prog eB (Yn).pt:=
 ae (ag ac) rH (fun _=>qtF rfl) (sK)
theorem dR:Tri Tryz.prog bp (Ma).pt:=
 ae (ag (aa sQ ac)) pv (fun _=>qtF rfl) (pG rfl)
theorem ph:Tri Tryz.prog eS (Rk).pt:=
 ae (ag (aa Ak (aa tw (aa LL (aa lL (aa dR ac)))))) xy (fun _=>qtF rfl) (qfh (N:=WX) rfl rfl rfl rfl rfl rfl rfl)
theorem Di:Tri Tryz.prog mL (Ta).pt:=
 ae (ag ac) A3 (fun _=>qtF rfl) (qbM)
theorem vg:Tri Tryz.prog jq (Rl).pt:=
 ae (ag (aa Di ac)) CM (fun _=>qtF rfl) (qfi rfl)
theorem DM:Tri Tryz.prog fy (qfD).pt:=
 ae (ag (aa ph (aa lL (aa xT (aa zx (aa dR (aa As (aa vg ac)))))))) sX (fun _=>qtF rfl) (qe3 rfl rfl rfl rfl rfl rfl rfl)
theorem Cb:Tri Tryz.prog qK (L4).pt:=
 ae (ag (aa F3 (aa GJ (aa (Uf 101) (aa qkK (aa qg3 ac)))))) JN (fun _=>qtF rfl) (qbE rfl rfl rfl rfl rfl)
theorem FA:Tri Tryz.prog gz (qeg).pt:=
 ae (ag (aa DM (aa Cb ac))) uQ (fun _=>qtF rfl) (qiy rfl rfl)
theorem dY:Tri Tryz.prog cw (G7).pt:=
 cI (ag ac) CG (fun _=>qtF rfl) (qix)
theorem pH:Tri Tryz.prog gw (qcc).pt:=
 cI (ag (aa dY ac)) D0 (fun _=>qtF rfl) (qot rfl)
theorem fp:Tri Tryz.prog dc (Kq).pt:=
 cI (ag (aa pH ac)) CH (fun _=>qtF rfl) (qiz rfl)
theorem B7:Tri Tryz.prog mF (XU).pt:=
 cI (ag (aa dY ac)) AX (fun _=>qtF rfl) (qe0 rfl)
theorem Ca:Tri Tryz.prog mI (Ye).pt:=
 cI (ag (aa fp ac)) A0 (fun _=>qtF rfl) (qfe rfl)
theorem B8:Tri Tryz.prog mG (X5).pt:=
 cI (ag ac) AY (fun _=>qtF rfl) (qe4)
theorem zU:Tri Tryz.prog jL (Hg).pt:=
 cI (ag (aa dY (aa B8 ac))) yq (fun _=>qtF rfl) (Xh rfl rfl)
theorem B9:Tri Tryz.prog mH (Yb).pt:=
 cI (ag (aa dY (aa fp (aa B7 (aa Ca ac))))) AZ (fun _=>qtF rfl) (qfd rfl rfl rfl rfl)
theorem DK:Tri Tryz.prog nU (qee).pt:=
 cI (ag (aa dY (aa fp (aa B9 ac)))) CF (fun _=>qtF rfl) (qiw rfl rfl rfl)
theorem DJ:Tri Tryz.prog nT (qec).pt:=
 cI (ag (aa zU (aa DK ac))) CE (fun _=>qtF rfl) (qiu rfl rfl)
theorem DL:Tri Tryz.prog nV (qeh).pt:=
 cI (ag (aa fp (aa DJ ac))) CJ (fun _=>qtF rfl) (qiA rfl rfl)
theorem GF:Tri Tryz.prog rM (yc).pt:=
 ae (ag ac) FF (fun _=>qtF rfl) (QO)
theorem Js:Tri Tryz.prog tV (Ko).pt:=
 ae (ag ac) HA (fun _=>qtF rfl) (UN)
theorem NV:Tri Tryz.prog yM (SP).pt:=
 ae (ag ac) Ml (fun _=>qtF rfl) (qbz)
theorem QU:Tri Tryz.prog Bv (XZ).pt:=
 ae (ag (aa GF (aa Js (aa NV ac)))) OK (fun _=>qtF rfl) (qe1 rfl rfl rfl)
theorem B6:Tri Tryz.prog mE (XT).pt:=
 cI (ag (aa pH ac)) AW (fun _=>qtF rfl) (qeZ rfl)
theorem Jt:Tri Tryz.prog tW (SN).pt:=
 ae (ag ac) HB (fun _=>qtF rfl) (UQ)
theorem NW:Tri Tryz.prog yN (Tf).pt:=
 ae (ag (aa QU (aa DL (aa fp (aa Jt (aa B6 (aa pH (aa dY ac)))))))) Mm (fun _=>qtF rfl) (qbO rfl rfl rfl rfl rfl rfl rfl)
theorem Jw:Tri Tryz.prog uc (Kn).pt:=
 ae (ag (aa NW (aa J1 (aa FA (aa IM ac))))) HN (fun _=>qtF rfl) (UM rfl rfl rfl rfl)
end Go.Gv

namespace Go.Gv
open Go.Proofs
def sw:CC:=gq Tryz.f49 [2006006] { cu:=[1] } _
def rB:List aj:=[.cell 6 true 7]
theorem HL:am Tryz.prog ua [2006006] sw rB 28:=fo
def qs:CC:=gq Tryz.f107 [2006006,2006006,2083008,2082008] { cu:=[2,4,6,18,21,24] } _
def pT:List aj:=[.cell 6 true 7]
theorem FN:am Tryz.prog iR [2006006,2006006,2083008,2082008] qs pT 110:=fo
def nk:CC:=gq Tryz.f21 [2006006] { cu:=[2,4,7] } _
def mj:List aj:=[.cell 6 true 13]
end Go.Gv

namespace Go.Gv
open Cod (enc dec)
variable {S S0:Nat->Spc}
abbrev DU:Spc:=aS (a1 Int) bD (enc (X:=B)) (fun _ y=>y∈Types)
theorem UK(h1:S ti=s_m_Mod):aq uZ uN S (a1 Int) bD (enc (X:=B)) (fun _ y=>y∈Types):=by
 rintro n -
 simp[uZ,uN,h1]
 have h3:=HR n 3 (by omega)
 refine⟨h3.1,h3.2,?_⟩
 have:Eg n 3=0\/Eg n 3=1\/Eg n 3=2:=by omega
 rcases this with h|h|h <;> simp[h,Types,qnV,qdK,qnU]
def Ll(n:Nat)(x:List Int×Int×List B):Prop:=x.2.1.toNat < n/\ -10<=x.2.1/\x.2.1<=100/\x.2.2.length<=1000
theorem iK{q:Cond->Prop}{H:ab}{op:Int}{n a v l:B}{f:Bool}{d:D}(ks:List Cond)(hd:FrzTo H d (enc ks))(hq:q ⟨op,n,a,v,l,f,ks⟩):Fin enc q (.agg [.v (.int .i64 op), .v (.string n), .v (.string a), .v (.string v), .v (.string l), .v (.bool f),d]) H:=by
 refine cB (⟨op,n,a,v,l,f,ks⟩:Cond) ?_ hq
 rw[ZY]
 refine .agg rfl fun k x y hx hy=>?_
 rcases k with _|_|_|_|_|_|_|k
 ·cases hx;cases hy;exact .same _
 ·cases hx;cases hy;exact .same _
 ·cases hx;cases hy;exact .same _
 ·cases hx;cases hy;exact .same _
 ·cases hx;cases hy;exact .same _
 ·cases hx;cases hy;exact .same _
 ·cases hx;cases hy;exact hd
 ·simp at hx
theorem qiM(a b c d e f g h:B):D.list 1 [.v (.string a), .v (.string b), .v (.string c), .v (.string d), .v (.string e), .v (.string f), .v (.string g), .v (.string h)]= .list 1 (Oa [a,b,c,d,e,f,g,h]):=id rfl
theorem qd7(a b c d:B):D.list 1 [.v (.string a), .v (.string b), .v (.string c), .v (.string d)]= .list 1 (Oa [a,b,c,d]):=id rfl
theorem Da{q:Pat->Prop}{H:ab}{op o:Int}{n a v l lb rg:B}{f:Bool}{cd d:D}{mn mx:Int}(cks:List Cond)(ks:List Pat)(hc:FrzTo H cd (enc cks))(hd:FrzTo H d (enc ks))(hq:q ⟨op,⟨o,n,a,v,l,f,cks⟩,lb,rg,mn,mx,ks⟩):
 Fin enc q (.agg [.v (.int .i64 op), .v (.int .i64 o), .v (.string n), .v (.string a), .v (.string v), .v (.string l), .v (.bool f),cd, .v (.string lb), .v (.string rg), .v (.int .i64 mn), .v (.int .i64 mx),d]) H:=by
 refine cB (⟨op,⟨o,n,a,v,l,f,cks⟩,lb,rg,mn,mx,ks⟩:Pat) ?_ hq
 rw[M1]
 refine .agg rfl fun k x y hx hy=>?_
 rcases k with _|_|_|_|_|_|_|_|_|_|_|_|_|k
 ·cases hx;cases hy;exact .same _
 ·cases hx;cases hy;exact .same _
 ·cases hx;cases hy;exact .same _
 ·cases hx;cases hy;exact .same _
 ·cases hx;cases hy;exact .same _
 ·cases hx;cases hy;exact .same _
 ·cases hx;cases hy;exact .same _
 ·cases hx;cases hy;exact hc
 ·cases hx;cases hy;exact .same _
 ·cases hx;cases hy;exact .same _
 ·cases hx;cases hy;exact .same _
 ·cases hx;cases hy;exact .same _
 ·cases hx;cases hy;exact hd
 ·simp at hx
def Qx(n:Nat)(x:List Int×Int×List B):Prop:=x.2.1.toNat < n/\ -10<=x.2.1/\x.2.1<=100/\x.2.2.length<=1000
def qkT(x:List Int×Int×List B)(p:Pat):Prop:=WP x.2.2 x.2.1.toNat p/\PD x.2.1.toNat p
end Go.Gv
