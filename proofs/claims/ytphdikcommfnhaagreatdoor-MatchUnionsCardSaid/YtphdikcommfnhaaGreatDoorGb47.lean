/- A part of the framework and of the walks: Asm24 C4 W42. -/
import Derived.Test.YtphdikcommfnhaaGreatDoorGb28
import Derived.Test.YtphdikcommfnhaaGreatDoorGb32
import Derived.Test.YtphdikcommfnhaaGreatDoorGb30
import Derived.Test.YtphdikcommfnhaaGreatDoorGb36
import Derived.Test.YtphdikcommfnhaaGreatDoorGb37
import Derived.Test.YtphdikcommfnhaaGreatDoorGb46
import Derived.Test.YtphdikcommfnhaaGreatDoorGb43
import Derived.Test.YtphdikcommfnhaaGreatDoorGb20
import Derived.Test.YtphdikcommfnhaaGreatDoorGb25
import Derived.Test.YtphdikcommfnhaaGreatDoorGb22
set_option linter.unusedSimpArgs false
set_option linter.unusedVariables false
set_option linter.unusedSectionVars false
set_option maxRecDepth 100000
set_option maxHeartbeats 0

namespace Go.Gv
open Go.Proofs Cod
theorem vN{P:Program}{f:Nat}{A:Nat->PT}{A':PT}(h:∀n,Tri P f (A n))(hs:∀d ds H K,A' d ds H K->∃n,A n d ds H K):Tri P f A':=
 fun O tp w vs ds H d K a b c e g hA=>(hs d ds H K hA).elim fun n hn=>h n O tp w vs ds H d K a b c e g hn
theorem ve{P:Program}{f:Nat}{A:PT}(hs:∀d ds H K,¬A d ds H K):Tri P f A:=fun O tp w vs ds H d K a b c e g hA=>absurd hA (hs d ds H K)
theorem AU{X Y:Type}{A:dc X}{pre:Nat->X->Prop}{pre':X->Prop}{er:Y->D}{post:X->Y->Prop}(hx:∀x,pre' x->∃n,pre n x):∀d ds H K,(bp A pre' er post).pt d ds H K->∃n,(bp A (pre n) er post).pt d ds H K:=by
 intro d ds H K h
 rw[rP]at h
 cases e:A.dec ds with
 | none=>rw[e]at h;exact h.elim
 | some x=>
   rw[e]at h
   obtain⟨h1,h2⟩:=h
   obtain⟨n,hn⟩:=hx x h1
   exact⟨n,by rw[rP,e];exact⟨hn,h2⟩⟩
theorem iZ{P:Program}{f:Nat}{X Y:Type}{A:dc X}{pre:X->Prop}{er:Y->D}{post:X->Y->Prop}(hx:∀x,¬pre x):Tri P f (bp A pre er post).pt:=ve fun d ds H K h=>by
 rw[rP]at h
 cases e:A.dec ds with
 | none=>rw[e]at h;exact h.elim
 | some x=>rw[e]at h;exact hx x h.1
theorem L3{P:Program}{f:Nat}{Y Z:Type}{A:dc Z}{er:Y->D} :Tri P f (qa1 A er fun _ _=>none).pt:=ve fun d ds H K h=>by
 obtain⟨id,b',x,z,ds',h1,h2,h3,h4,h5,⟨r,h6⟩,h7⟩:=h
 cases h6
theorem qbD{P:Program}{f:Nat} :Tri P f (qdy fun _ _ _=>none).pt:=ve fun d ds H K h=>by
 obtain⟨id',b',x,n',k,r,d0',h1,h2,h3,h4,h5⟩:=h
 cases h4
theorem qpQ{p:Cond}(h:lT p<=0):False:=by rw[NB]at h;omega
theorem DD:Tri Tryz.prog dU (Gu).pt:=
 ae (S:=aJ []) (ag ac) Bp (fun _=>qsS rfl) (B6)
theorem E8:Tri Tryz.prog jW (s_cpFold1).pt:=U6 (S:=aJ [(dU,Gu)]) (ag (aa DD ac)) rfl
theorem E9:Tri Tryz.prog jX (RI).pt:=
 ae (S:=aJ []) (ag ac) C6 (fun _=>qsS rfl) (DV)
theorem BN:Tri Tryz.prog gE (RU).pt:=
 ae (S:=aJ [(jX,RI)]) (ag (aa E9 ac)) An (fun _=>qsS rfl) (AO rfl)
theorem EZ:Tri Tryz.prog cm (RJ).pt:=
 ae (S:=aJ [(gE,RU)]) (ag (aa BN ac)) CJ (fun _=>qsS rfl) (DO rfl)
theorem kS:Tri Tryz.prog bF (RO).pt:=
 ae (S:=aJ [(cm,RJ)]) (ag (aa EZ ac)) kF (fun _=>qsS rfl) (JD rfl)
theorem pY:Tri Tryz.prog cy (RE).pt:=
 ae (S:=aJ [(bF,RO)]) (ag (aa kS ac)) ow (fun _=>qsS rfl) (JC rfl)
theorem Dw:Tri Tryz.prog iQ (HK).pt:=
 ae (S:=aJ []) (ag ac) Be (fun _=>qsS rfl) (LT)
theorem Gj:Tri Tryz.prog kZ (Mv).pt:=
 ae (S:=aJ [(iQ,HK)]) (ag (aa Dw ac)) Ep (fun _=>qsS rfl) (QW rfl)
theorem vA:Tri Tryz.prog cQ (qbH).pt:=
 ae (S:=aJ [(kZ,Mv),(cy,RE)]) (ag (aa Gj (aa pY ac))) uu (fun _=>qsS rfl) (uV rfl rfl)
theorem vE:Tri Tryz.prog cQ (NE).pt:=G7 vA rfl (fun _=>Pv (fun _ h=>by cases h))
theorem Jm:Tri Tryz.prog nb (Hy).pt:=
 Q7 (S:=aJ [(cQ,NE)]) (ag (aa vE ac)) FZ (fun _=>qsS rfl) (GM rfl)
theorem Qk:Tri Tryz.prog tK (Rr).pt:=
 ae (S:=aJ []) (ag ac) MI (fun _=>qsS rfl) (NZ)
theorem cx:Tri Tryz.prog aw (gj).pt:=
 fa (S:=aJ [(bh,s_decR)]) (ag (aa Cl ac)) yM (fun _=>qsS rfl) (LE rfl)
theorem Ap:Tri Tryz.prog fM (Mc).pt:=
 fa (S:=aJ [(bh,s_decR)]) (ag (aa Cl ac)) yL (fun _=>qsS rfl) (LD rfl)
theorem kT:Tri Tryz.prog bO (Cv).pt:=
 fa (S:=aJ [(aw,gj),(fM,Mc)]) (ag (aa cx (aa Ap ac))) tr (fun _=>qsS rfl) (BW rfl rfl)
theorem ya:Tri Tryz.prog eN (Rs).pt:=
 fa (S:=aJ [(aw,gj),(cW,s_crune),(bO,Cv)]) (ag (aa cx (aa yo (aa kT ac)))) wt (fun _=>qsS rfl) (GN rfl rfl rfl)
theorem zF:Tri Tryz.prog fm (Rt).pt:=
 fa (S:=aJ [(aw,gj),(eN,Rs),(nb,Hy)]) (ag (aa cx (aa ya (aa Jm ac)))) xP (fun _=>qsS rfl) (JH rfl rfl rfl)
theorem Aq:Tri Tryz.prog fN (Md).pt:=
 fa (S:=aJ [(aw,gj),(tK,Rr),(fm,Rt),(cW,s_crune),(bO,Cv)]) (ag (aa cx (aa Qk (aa zF (aa yo (aa kT ac)))))) yN (fun _=>qsS rfl) (LF rfl rfl rfl rfl rfl)
theorem xZ:Tri Tryz.prog eM (Rq).pt:=
 fa (S:=aJ [(aw,gj),(fN,Md)]) (ag (aa cx (aa Aq ac))) ws (fun _=>qsS rfl) (GL rfl rfl)
theorem yc:Tri Tryz.prog eO (Ru).pt:=
 fa (S:=aJ [(aw,gj),(eM,Rq)]) (ag (aa cx (aa xZ ac))) wu (fun _=>qsS rfl) (GO rfl rfl)
theorem zD:Tri Tryz.prog fl (Ro).pt:=
 fa (S:=aJ [(aw,gj),(eO,Ru)]) (ag (aa cx (aa yc ac))) xO (fun _=>qsS rfl) (JE rfl rfl)
theorem zC:∀n,Tri Tryz.prog gZ (qdy (qe n)).pt
 | 0=>qbD
 | n+1=>Q3 (S:=aJ [(gZ,qdy (qe n))]) (ag (aa (zC n) ac)) H4 (by decide) (JF n rfl)
theorem EY:Tri Tryz.prog jK (Hu).pt:=
 ae (S:=aJ []) (ag ac) CH (fun _=>qsS rfl) (DN)
theorem Dt:Tri Tryz.prog iH (D7).pt:=
 ae (S:=aJ [(jK,Hu)]) (ag (aa EY ac)) A3 (fun _=>qsS rfl) (BU rfl)
theorem qT:∀n,Tri Tryz.prog dv (rS n).pt
 | 0=>iZ fun x h=>by cases h
 | n+1=>ae (S:=aJ [(iH,D7),(dv,rS n)]) (ag (aa Dt (aa (qT n) ac))) Ah (fun _=>qsS rfl) (AJ n rfl rfl)
theorem te:∀n,Tri Tryz.prog dR (Hx n).pt
 | 0=>iZ fun x h=>by obtain⟨m,h⟩:=h;cases h
 | n+1=>ae (S:=aJ [(dR,Hx n)]) (ag (aa (te n) ac)) A4 (fun _=>qsS rfl) (BV n rfl)
theorem vB:Tri Tryz.prog eq (Hw).pt:=
 ae (S:=aJ [(gZ,qdy (qe 50)),(dv,rS 50),(dR,Hx 50)]) (ag (aa (zC 50) (aa (qT 50) (aa (te 50) ac)))) CL (fun _=>qsS rfl) (DQ rfl rfl rfl)
theorem AE:Tri Tryz.prog hZ (vi).pt:=
 ae (S:=aJ [(sE,s_cpAt),(fl,Ro),(eq,Hw)]) (ag (aa qeG (aa zD (aa vB ac)))) H6 (fun _=>qsS rfl) (JI rfl rfl rfl)
theorem KB:Tri Tryz.prog pI (qbJ).pt:=
 ae (S:=aJ [(hZ,vi)]) (ag (aa AE ac)) Ip (fun _=>qsS rfl) (JW rfl)
theorem E1:Tri Tryz.prog jL (qbI).pt:=
 ae (S:=aJ []) (ag ac) CK (fun _=>qsS rfl) (DP)
theorem qV:Tri Tryz.prog cY (Cw).pt:=
 rO (S:=aJ []) (ag ac) yS (fun _=>qsS rfl) (qes)
theorem iE:Tri Tryz.prog bC (vQ).pt:=
 rO (S:=aJ [(cY,Cw)]) (ag (aa qV ac)) ww (fun _=>qsS rfl) (Xj rfl)
theorem Jl:∀n,Tri Tryz.prog aU (vR n).pt/\Tri Tryz.prog eP (Ry n).pt/\Tri Tryz.prog bW (Hv n).pt
 | 0=>⟨L3,L3,L3⟩
 | n+1=>⟨rO (S:=aJ [(aU,vR n),(eP,Ry n),(bC,vQ)]) (ag (aa (Jl n).1 (aa (Jl n).2.1 (aa iE ac)))) xU (fun _=>qsS rfl) (qbl n rfl rfl rfl),rO (S:=aJ [(aU,vR n),(bW,Hv n),(bC,vQ),(cY,Cw)]) (ag (aa (Jl n).1 (aa (Jl n).2.2 (aa iE (aa qV ac))))) wv (fun _=>qsS rfl) (Xg n rfl rfl rfl rfl),rO (S:=aJ [(aU,vR n),(bW,Hv n),(bC,vQ)]) (ag (aa (Jl n).1 (aa (Jl n).2.2 (aa iE ac)))) uw (fun _=>qsS rfl) (QS n rfl rfl rfl)⟩
theorem Qm:Tri Tryz.prog tV (XR 50).pt:=
 ae (S:=aJ [(aU,vR 50)]) (ag (aa (Jl 50).1 ac)) MV (fun _=>qsS rfl) (qnH 50 rfl)
theorem Ar:Tri Tryz.prog fP (Rz).pt:=
 ae (S:=aJ []) (ag ac) yT (fun _=>qsS rfl) (qbn)
theorem EX:Tri Tryz.prog ck (XQ).pt:=
 ae (S:=aJ [(jW,s_cpFold1)]) (ag (aa E8 ac)) CG (fun _=>qsS rfl) (QO rfl)
theorem Gi:Tri Tryz.prog cJ (XW).pt:=
 ae (S:=aJ []) (ag ac) Ek (fun _=>qsS rfl) (FI)
theorem AD:Tri Tryz.prog hU (OJ).pt:=
 ae (S:=aJ [(eq,KO),(fy,s_cpVal),(tV,XR 50),(fP,Rz),(jL,OI),(cJ,XW),(ck,XQ)]) (ag (aa vB (aa KH (aa Qm (aa Ar (aa E1 (aa Gi (aa EX ac)))))))) H5 (fun _=>qsS rfl) (JG rfl rfl rfl rfl rfl rfl rfl)
theorem Kt:Tri Tryz.prog pq (KP false).pt:=
 ae (S:=aJ [(hU,OJ)]) (ag (aa AD ac)) H7 (fun _=>qsS rfl) (JJ rfl)
theorem Du:Tri Tryz.prog iI (KP true).pt:=
 ae (S:=aJ [(hU,OJ)]) (ag (aa AD ac)) A5 (fun _=>qsS rfl) (BX rfl)
theorem KA:Tri Tryz.prog pH (Mq).pt:=
 ae (S:=aJ [(hZ,vi),(pq,KP false),(iI,KP true)]) (ag (aa AE (aa Kt (aa Du ac)))) Io (fun _=>qsS rfl) (JV rfl rfl rfl)
theorem xH:Tri Tryz.prog aY (ON).pt:=
 ae (S:=aJ []) (ag ac) CZ (fun _=>qsS rfl) (DU)
theorem Gk:Tri Tryz.prog cK (Ec).pt:=
 ae (S:=aJ [(aY,ON)]) (ag (aa xH ac)) CY (fun _=>qsS rfl) (DT rfl)
theorem BK:Tri Tryz.prog cb (Me).pt:=
 ae (S:=aJ [(aY,ON),(cK,Ec)]) (ag (aa xH (aa Gk ac))) yQ (fun _=>qsS rfl) (Ad rfl rfl)
theorem qU:Tri Tryz.prog bE (yu).pt:=
 ae (S:=aJ [(fy,s_cpVal)]) (ag (aa KH ac)) yP (fun _=>qsS rfl) (Ac rfl)
theorem Gl:Tri Tryz.prog ld (HB).pt:=
 ae (S:=aJ [(bE,yu)]) (ag (aa qU ac)) Ew (fun _=>qsS rfl) (FQ rfl)
theorem BL:Tri Tryz.prog gC (RR).pt:=
 ae (S:=aJ []) (ag ac) Al (fun _=>qsS rfl) (AL)
theorem Kz:Tri Tryz.prog pG (RQ).pt:=
 ae (S:=aJ [(ld,HB),(gC,RR)]) (ag (aa Gl (aa BL ac))) In (fun _=>qsS rfl) (JU rfl rfl)
theorem qa:∀n,Tri Tryz.prog cv (HG n).pt
 | 0=>iZ fun x h=>qpQ h.1
 | n+1=>ae (S:=aJ [(cv,HG n)]) (ag (aa (qa n) ac)) yU (fun _=>qsS rfl) (yi n rfl)
theorem As:Tri Tryz.prog cv (HH).pt:=vN (fun n=>qa n) (AU (fun x h=>h))
theorem Dy:Tri Tryz.prog iS (Ed).pt:=
 ae (S:=aJ []) (ag ac) Bj (fun _=>qsS rfl) (AM)
theorem vD:Tri Tryz.prog bb (Eg).pt:=
 ae (S:=aJ []) (ag ac) ux (fun _=>qsS rfl) (uW)
theorem qN:Tri Tryz.prog cI (HL Attr (aJ [(bb,Eg)])).pt:=
 ae (S:=aJ [(bb,Eg)]) (ag (aa vD ac)) pT (fun _=>qsS rfl) (GZ)
theorem eR:Tri Tryz.prog aN (qW).pt:=
 ae (S:=aJ [(cI,HL Attr (aJ [(bb,Eg)]))]) (ag (aa qN ac)) wx (fun _=>qsS rfl) (xL (S0:=(aJ [(bb,Eg)])) rfl rfl)
theorem tZ:Tri Tryz.prog dT (yz).pt:=
 ae (S:=aJ [(aN,qW)]) (ag (aa eR ac)) Bm (fun _=>qsS rfl) (B3 rfl)
theorem DB:Tri Tryz.prog iV (HJ).pt:=
 ae (S:=aJ []) (ag ac) Bo (fun _=>qsS rfl) (B5)
theorem eQ:Tri Tryz.prog aM (vS).pt:=
 ae (S:=aJ []) (ag ac) wq (fun _=>qsS rfl) (GY)
theorem uN:Tri Tryz.prog aF (RT).pt:=
 ae (S:=aJ [(aM,vS)]) (ag (aa eQ ac)) kj (fun _=>qsS rfl) (B8 rfl)
theorem Dz:Tri Tryz.prog iT (HF).pt:=
 ae (S:=aJ [(dT,yz),(aN,qW),(cb,Me)]) (ag (aa tZ (aa eR (aa BK ac)))) Bk (fun _=>qsS rfl) (B2 rfl rfl rfl)
theorem DA:Tri Tryz.prog iU (HI).pt:=
 ae (S:=aJ [(iS,Ed),(iT,HF),(pI,OM),(aN,qW),(lF,s_sConB),(bE,yu),(aF,RT)]) (ag (aa Dy (aa Dz (aa KB (aa eR (aa Q2 (aa qU (aa uN ac)))))))) Bn (fun _=>qsS rfl) (B4 rfl rfl rfl rfl rfl rfl rfl)
theorem xk:Tri Tryz.prog bK (Mu).pt:=
 ae (S:=aJ [(iU,HI)]) (ag (aa DA ac)) vp (fun _=>qsS rfl) (vI rfl)
theorem tY:∀n,Tri Tryz.prog dw (HD n).pt
 | 0=>iZ fun x h=>by obtain⟨a,lb,_,h,_⟩:=h;cases h
 | n+1=>ae (S:=aJ [(bK,Mu),(dw,HD n)]) (ag (aa xk (aa (tY n) ac))) C3 (fun _=>qsS rfl) (B1 n rfl rfl)
theorem E6:Tri Tryz.prog dw (HC).pt:=vN (fun n=>tY n) (AU (fun x h=>h))
theorem zI:Tri Tryz.prog fw (RY).pt:=
 ae (S:=aJ [(cv,HH),(dw,HC)]) (ag (aa As (aa E6 ac))) xW (fun _=>qsS rfl) (yj rfl rfl)
theorem Ao:Tri Tryz.prog fL (Mp).pt:=
 ae (S:=aJ []) (ag ac) yK (fun _=>qsS rfl) (LU)
theorem xi:Tri Tryz.prog ei (Ms).pt:=
 ae (S:=aJ [(fL,Mp)]) (ag (aa Ao ac)) vo (fun _=>qsS rfl) (FS rfl)
theorem zH:Tri Tryz.prog aV (tB).pt:=
 ae (S:=aJ [(ei,Ms)]) (ag (aa xi ac)) xV (fun _=>qsS rfl) (yh rfl)
theorem tt:Tri Tryz.prog bI (HL Region (aJ [(aV,tB)])).pt:=
 ae (S:=aJ [(aV,tB)]) (ag (aa zH ac)) jo (fun _=>qsS rfl) (Fg)
theorem qO:Tri Tryz.prog aO (My Region (aJ [(aV,tB)])).pt:=
 ae (S:=aJ [(bI,HL Region (aJ [(aV,tB)]))]) (ag (aa tt ac)) ge (fun _=>qsS rfl) (Fh rfl)
theorem BM:Tri Tryz.prog gD (RS).pt:=
 ae (S:=aJ [(aO,My Region (aJ [(aV,tB)]))]) (ag (aa qO ac)) Am (fun _=>qsS rfl) (AN (S0:=(aJ [(aV,tB)])) rfl rfl)
theorem tf:∀n,Tri Tryz.prog dS (yy n).pt
 | 0=>iZ fun x h=>by obtain⟨_,y,h⟩:=h;cases h
 | n+1=>
   have g1:Tri Tryz.prog au (FX n).pt:=ae (S:=aJ [(dS,yy n)]) (ag (aa (tf n) ac)) yW (fun _=>qsS rfl) (UY n rfl)
   have g2:Tri Tryz.prog be (OL n).pt:=ae (S:=aJ [(au,FX n)]) (ag (aa g1 ac)) yV (fun _=>qsS rfl) (UX n rfl)
   have g3:Tri Tryz.prog dQ (HL Cond (aJ [(au,FX n),(be,OL n)])).pt:=ae (S:=aJ [(au,FX n),(be,OL n)]) (ag (aa g1 (aa g2 ac))) uv (fun _=>qsS rfl) (U1)
   have g4:Tri Tryz.prog cX (My Cond (aJ [(au,FX n),(be,OL n)])).pt:=ae (S:=aJ [(dQ,HL Cond (aJ [(au,FX n),(be,OL n)]))]) (ag (aa g3 ac)) rb (fun _=>qsS rfl) (U2 rfl)
   ae (S:=aJ [(au,FX n),(cX,My Cond (aJ [(au,FX n),(be,OL n)])),(dT,yz),(iV,HJ),(pH,Mq),(aN,qW),(pG,RQ),(aM,vS),(gD,RS)]) (ag (aa g1 (aa g4 (aa tZ (aa DB (aa KA (aa eR (aa Kz (aa eQ (aa BM ac)))))))))) Bl (fun _=>qsS rfl) (qbj (S0:=(aJ [(au,FX n),(be,OL n)])) n rfl rfl rfl rfl rfl rfl rfl rfl rfl rfl rfl)
theorem Gn:Tri Tryz.prog li (qg).pt:=
 ae (S:=aJ []) (ag ac) Ez (fun _=>qsS rfl) (FR)
theorem ua:Tri Tryz.prog dV (fe).pt:=
 ae (S:=aJ [(li,qg)]) (ag (aa Gn ac)) Bq (fun _=>qsS rfl) (B7 rfl)
theorem NA:Tri Tryz.prog rr (vT).pt:=
 ae (S:=aJ []) (ag ac) Kk (fun _=>qsS rfl) (LS)
theorem zB:Tri Tryz.prog fk (RV).pt:=
 ae (S:=aJ [(dV,fe)]) (ag (aa ua ac)) xN (fun _=>qsS rfl) (qey rfl)
theorem xG:Tri Tryz.prog eb (s_cmpM).pt:=
 ae (S:=aJ [(dV,fe),(fk,RV),(rr,vT)]) (ag (aa ua (aa zB (aa NA ac)))) Es (fun _=>qsS rfl) (qex rfl rfl rfl)
theorem Gm:Tri Tryz.prog lg (Ef).pt:=
 ae (S:=aJ []) (ag ac) Ey (fun _=>qsS rfl) (U0)
theorem Ku:Tri Tryz.prog pr (RC).pt:=
 ae (S:=aJ []) (ag ac) H8 (fun _=>qsS rfl) (qel)
theorem SR:Tri Tryz.prog wK (Mj).pt:=
 ae (S:=aJ [(pr,RC)]) (ag (aa Ku ac)) OT (fun _=>qsS rfl) (qba rfl)
theorem Kx:Tri Tryz.prog pE (Mk).pt:=
 ae (S:=aJ []) (ag ac) Il (fun _=>qsS rfl) (JT)
theorem E7:Tri Tryz.prog jV (Mo).pt:=
 ae (S:=aJ [(dS,yy 21)]) (ag (aa (tf 21) ac)) C5 (fun _=>qsS rfl) (qbi rfl)
theorem xj:Tri Tryz.prog bJ (RL).pt:=
 ae (S:=aJ []) (ag ac) ma (fun _=>qsS rfl) (qeq)
theorem qjX:Tri Tryz.prog bJ b_masg.pt:=Oi rfl (D1 (S:=aJ []) (ag ac) ma (fun _=>qsS rfl) (qbd)) fun y c hc=>by
 simp at hc
 subst hc
 exact IN _
theorem Dx:Tri Tryz.prog fu (qeV).pt:=
 ae (S:=aJ [(bJ,RL),(jV,Mo),(aM,vS)]) (ag (aa xj (aa E7 (aa eQ ac)))) Bf (fun _=>qsS rfl) (qeo rfl rfl rfl)
theorem qjV:Tri Tryz.prog fu b_mtok.pt:=Fj Dx fun z=>by
 obtain⟨s,v⟩:=z
 simp only[qjp]
 refine Pv fun d hd=>?_
 simp only[qsY,qtp,or_false]at hd
 rcases hd with rfl|rfl
 ·exact Zn fun d hd=>by
   simp only[qsY,qtp,or_false]at hd
   rcases hd with rfl|rfl|rfl|rfl <;> exact IN _
 ·exact IN _
theorem zG:Tri Tryz.prog aS (tA).pt:=
 ae (S:=aJ []) (ag ac) xT (fun _=>qsS rfl) (qbe)
theorem BJ:Tri Tryz.prog eH (qeW).pt:=
 have h1:Tri Tryz.prog bI (HL Region (aJ [(aS,tA)])).pt:=ae (S:=aJ [(aS,tA)]) (ag (aa zG ac)) jo (fun _=>qsS rfl) (Fg)
 have h2:Tri Tryz.prog aO (My Region (aJ [(aS,tA)])).pt:=ae (S:=aJ [(bI,HL Region (aJ [(aS,tA)]))]) (ag (aa h1 ac)) ge (fun _=>qsS rfl) (Fh rfl)
 ae (S:=aJ [(aO,My Region (aJ [(aS,tA)]))]) (ag (aa h2 ac)) Aj (fun _=>qsS rfl) (qer (S0:=aJ [(aS,tA)]) rfl rfl)
theorem qjY:Tri Tryz.prog eH b_manc.pt:=Fj BJ fun _=>IN _
theorem Ny:Tri Tryz.prog ro (Mm).pt:=
 ae (S:=aJ []) (ag ac) Kh (fun _=>qsS rfl) (qbb)
theorem Nz:Tri Tryz.prog nj clC.pt:=Vb Tryz.cloneSet rfl (ic Tryz.func184 (by kernel_rfl) rfl)
theorem E5:Tri Tryz.prog jU (RK).pt:=
 Q6 (S:=aJ []) (ag ac) C0 (fun _=>qsS rfl) (qep)
theorem X9:Tri Tryz.prog bu (Ay 0).pt:=ve fun d ds H K h=>by
 obtain⟨id,b',x,z,ds',h1,h2,h3,h4,h5,h6,h7⟩:=h
 obtain⟨_,_,_,q,_,hq,_⟩:=h6
 rw[Gw]at hq
 omega
theorem Ur:∀n,Tri Tryz.prog bu (Ay n).pt
 | 0=>X9
 | n+1=>
   have h1:Tri Tryz.prog eu (Hz n).pt:=AR (S:=aJ [(bu,Ay n)]) (ag (aa (Ur n) ac)) CX (fun _=>qsS rfl) (qet n rfl)
   have h2:Tri Tryz.prog gB (XU n).pt:=AR (S:=aJ [(ro,Mm),(eu,Hz n),(bu,Ay n),(nj,clC),(jU,RK)]) (ag (aa Ny (aa h1 (aa (Ur n) (aa Nz (aa E5 ac)))))) Ai (fun _=>qsS rfl) (qhK n rfl rfl rfl rfl rfl)
   AR (S:=aJ [(fu,b_mtok),(eH,b_manc),(eu,Hz n),(bu,Ay n),(gB,XU n)]) (ag (aa qjV (aa qjY (aa h1 (aa (Ur n) (aa h2 ac)))))) Bg (fun _=>qsS rfl) (qa9 n rfl rfl rfl rfl rfl)
theorem qgi:Tri Tryz.prog fW (Mg eb rN).pt:=Va Tryz.sortMatch rfl (fun w=>Tryz.isAgg55 w) (fun w=>Tryz.sizeOf55 w) rfl xG (ic Tryz.func19 (by kernel_rfl) rfl) (ic Tryz.func83 (by kernel_rfl) rfl)
theorem qir{p:Pat}(h:fH p<=0):False:=by rw[Gw]at h;omega
theorem xr:Tri Tryz.prog aY (pR).pt:=
 ae (S:=aJ []) (ag ac) Eu (fun _=>qsS rfl) (FP)
theorem FU:Tri Tryz.prog cK (HA).pt:=
 ae (S:=aJ [(aY,pR)]) (ag (aa xr ac)) Et (fun _=>qsS rfl) (FO rfl)
theorem AQ:Tri Tryz.prog cb (Ht).pt:=
 ae (S:=aJ [(aY,pR),(cK,HA)]) (ag (aa xr (aa FU ac))) Ak (fun _=>qsS rfl) (AK rfl rfl)
theorem LV:Tri Tryz.prog rj (Rm).pt:=
 ae (S:=aJ []) (ag ac) Kb (fun _=>qsS rfl) (LL)
theorem LX:Tri Tryz.prog jR (Ml).pt:=
 ae (S:=aJ [(rj,Rm)]) (ag (aa LV ac)) Kg (fun _=>qsS rfl) (LO rfl)
theorem J0:Tri Tryz.prog eo (Cx).pt:=
 ae (S:=aJ [(cb,Ht)]) (ag (aa AQ ac)) Ie (fun _=>qsS rfl) (JN rfl)
theorem G1:Tri Tryz.prog dJ (yv).pt:=
 ae (S:=aJ []) (ag ac) F4 (fun _=>qsS rfl) (GS)
def QN:Nat->Spc:=aJ [(jR,Ml),(eo,Cx),(dJ,yv)]
def qqF(n:Nat):Nat->Spc:=aJ [(fq,XS n)]
theorem ZX{S:Nat->Spc}(h:∀f,Tri Tryz.prog f (S f).pt):Tri Tryz.prog aC (HM S).pt:=
 ae (S:=aJ [(eF,XZ S)]) (ag (aa (ae (S:=S) h ra (fun _=>qsS rfl) rL) ac)) ox (fun _=>qsS rfl) (pK rfl)
theorem xt:∀n,Tri Tryz.prog dZ (D8 n).pt
 | 0=>iZ fun x h=>qir h.1
 | n+1=>
   have h1:Tri Tryz.prog fq (XS n).pt:=ae (S:=aJ [(dZ,D8 n)]) (ag (aa (xt n) ac)) Bc (fun _=>qsS rfl) (BZ n rfl)
   ae (S:=aJ [(aC,HM (qqF n))]) (ag (aa (ZX (S:=qqF n) (ag (aa h1 ac))) ac)) En (fun _=>qsS rfl) (FK (S0:=qqF n) n rfl rfl)
theorem FT:Tri Tryz.prog dZ (AW).pt:=
 vN (fun n=>xt n) (AU (fun x h=>⟨fH x.1,qs2 _,h⟩))
def qqJ(n:Nat):Nat->Spc:=aJ [(gU,XX QN n)]
def qqI(n:Nat):Nat->Spc:=aJ [(aC,HM (qqJ n)),(jR,Ml),(eo,Cx),(dJ,yv)]
theorem qb5(n:Nat)(d:D)(f:Pat->Bool)(h:FunIs QN d f):FunIs (qqI n) d f:=by
 obtain⟨g,c,pc,a,b,e⟩:=h
 refine⟨g,c,pc,a,?_,e⟩
 by_cases hg:g=aC
 ·subst hg
  have:QN aC=Spc.none:=rfl
  rw[this]at b
  cases b
 ·rw[<-b]
  unfold qqI QN
  rw[aJ,if_neg hg]
theorem Az:∀n,Tri Tryz.prog cG (Mr QN n).pt
 | 0=>iZ fun x h=>by obtain⟨f,h1,h2⟩:=h;exact qir h2
 | n+1=>
   have h1:Tri Tryz.prog gU (XX QN n).pt:=ae (S:=aJ [(cG,Mr QN n)]) (ag (aa (Az n) ac)) Eo (fun _=>qsS rfl) (FN (S0:=QN) n rfl)
   ae (S:=qqI n) (ag (aa (ZX (S:=qqJ n) (ag (aa h1 ac))) (aa LX (aa J0 (aa G1 ac))))) If (fun _=>qsS rfl) (JO (S0:=qqJ n) (N:=QN) n (qb5 n) rfl rfl)
theorem ud:Tri Tryz.prog cG (rU QN).pt:=
 vN (fun n=>Az n) (AU (fun x h=>by obtain⟨f,h⟩:=h;exact⟨fH x.1,f,h,qs2 _⟩))
theorem Aw:Tri Tryz.prog ib (Cz).pt:=
 ae (S:=aJ [(dZ,AW),(cG,rU QN)]) (ag (aa FT (aa ud ac))) Ii (fun _=>qsS rfl) (JR (N:=QN) rfl rfl rfl)
theorem JZ:Tri Tryz.prog pz (qf).pt:=
 ae (S:=aJ [(ib,Cz),(cG,rU QN)]) (ag (aa Aw (aa ud ac))) Id (fun _=>qsS rfl) (JM (N:=QN) rfl rfl rfl rfl)
theorem CD:∀n,Tri Tryz.prog gA (RA n).pt
 | 0=>iZ fun x h=>qir h.1
 | n+1=>ae (S:=aJ [(gA,RA n)]) (ag (aa (CD n) ac)) Ke (fun _=>qsS rfl) (LM n rfl)
theorem LW:Tri Tryz.prog gA (Mh).pt:=
 vN (fun n=>CD n) (AU (fun x h=>⟨fH x,qs2 _,h⟩))
theorem yJ:∀n,Tri Tryz.prog eG (HE n).pt
 | 0=>iZ fun x h=>h
 | n+1=>ae (S:=aJ [(eG,HE n)]) (ag (aa (yJ n) ac)) F5 (fun _=>qsS rfl) (GV n rfl)
theorem G3:Tri Tryz.prog eG (Ee).pt:=
 vN (fun n=>yJ n) (AU (fun x h=>h))
theorem Av:Tri Tryz.prog ia (Cy).pt:=
 ae (S:=aJ [(eG,Ee)]) (ag (aa G3 ac)) Ig (fun _=>qsS rfl) (JP rfl)
theorem yH:∀n,Tri Tryz.prog cF (EH n).pt
 | 0=>ve fun d ds H K ⟨id,v,l,a,x,h1,h2,h3,h4,h5⟩=>qir h4.1
 | n+1=>G6 (S:=aJ [(cF,EH n),(ia,Cy)]) (ag (aa (yH n) (aa Av ac))) xu (by decide) (GT n rfl rfl)
theorem uY:Tri Tryz.prog cF i_leavesQA.pt:=vN (fun n=>yH n) fun d ds H K ⟨id,v,l,a,x,h1,h2,h3,h4,h5⟩=>⟨fH x,id,v,l,a,x,h1,h2,h3,⟨qs2 _,h4⟩,h5⟩
theorem G2:Tri Tryz.prog cF s_leavesQ.pt:=Q9 (D1 (S:=aJ [(cF,i_leavesQA),(ia,Cy)]) (ag (aa uY (aa Av ac))) xu (fun _=>qsS rfl) (FL rfl rfl)) uY
theorem Xs:Tri Tryz.prog aF s_has2.pt:=
 have h:Tri Tryz.prog aF s_hasE.pt:=ae (S:=aJ [(aM,vS)]) (ag (aa eQ ac)) kj (fun _=>qsS rfl) (AI rfl)
 Q9 h (G7 h rfl fun _=>IN _)
theorem yI:∀n,Tri Tryz.prog br (IJ n).pt
 | 0=>ve fun d ds H K ⟨id,v,l,a,x,h1,h2,h3,h4,h5⟩=>qir h4.1
 | n+1=>G6 (S:=aJ [(aF,s_has2),(br,IJ n)]) (ag (aa Xs (aa (yI n) ac))) xw (by decide) (GU n rfl rfl)
theorem uZ:Tri Tryz.prog br i_labelsA.pt:=vN (fun n=>yI n) fun d ds H K ⟨id,v,l,a,x,h1,h2,h3,h4,h5⟩=>⟨fH x,id,v,l,a,x,h1,h2,h3,⟨qs2 _,h4⟩,h5⟩
theorem rM:Tri Tryz.prog br s_qlabels.pt:=Q9 (D1 (S:=aJ [(aF,s_has2),(br,i_labelsA)]) (ag (aa Xs (aa uZ ac))) xw (fun _=>qsS rfl) (FM rfl rfl)) uZ
theorem G4:Tri Tryz.prog ni (rT).pt:=
 ae (S:=aJ [(pz,qf),(br,s_qlabels)]) (ag (aa JZ (aa rM ac))) F6 (fun _=>qsS rfl) (GW rfl rfl)
theorem Nx:Tri Tryz.prog rk (RG).pt:=
 ae (S:=aJ []) (ag ac) Kf (fun _=>qsS rfl) (LN)
theorem Kv:Tri Tryz.prog pA (Mw).pt:=
 ae (S:=aJ [(rk,RG)]) (ag (aa Nx ac)) Ih (fun _=>qsS rfl) (JQ rfl)
theorem tu:Tri Tryz.prog de (RZ).pt:=
 ae (S:=aJ []) (ag ac) sA (fun _=>qsS rfl) (tm)
theorem gX:Tri Tryz.prog bi (HN).pt:=
 ae (S:=aJ [(de,RZ)]) (ag (aa tu ac)) pU (fun _=>qsS rfl) (qc rfl)
theorem yn:Tri Tryz.prog ft (RW).pt:=
 ae (S:=aJ [(ib,Cz),(cG,rU QN),(gA,Mh),(br,s_qlabels),(bi,HN)]) (ag (aa Aw (aa ud (aa LW (aa rM (aa gX ac)))))) xS (fun _=>qsS rfl) (qez (N:=QN) rfl rfl rfl rfl rfl rfl rfl)
theorem Dv:Tri Tryz.prog iP (Mt).pt:=
 ae (S:=aJ []) (ag ac) Bd (fun _=>qsS rfl) (qbk)
theorem E4:Tri Tryz.prog jS (RX).pt:=
 ae (S:=aJ [(iP,Mt)]) (ag (aa Dv ac)) CV (fun _=>qsS rfl) (qeA rfl)
theorem D0:Tri Tryz.prog jT (RD).pt:=
 ae (S:=aJ [(ft,RW),(br,s_qlabels),(cF,s_leavesQ),(fw,RY),(bi,HN),(pA,Mw),(jS,RX)]) (ag (aa yn (aa rM (aa G2 (aa zI (aa gX (aa Kv (aa E4 ac)))))))) CW (fun _=>qsS rfl) (qem rfl rfl rfl rfl rfl rfl rfl)
theorem LY:Tri Tryz.prog rp (Mn).pt:=
 ae (S:=aJ [(lg,Ef),(ni,rT),(bu,Ay 101),(bJ,b_masg),(fW,Mg eb rN)]) (ag (aa Gm (aa G4 (aa (Ur 101) (aa qjX (aa qgi ac)))))) Ki (fun _=>qsS rfl) (qbc rfl rfl rfl rfl rfl)
theorem xq:Tri Tryz.prog eY (OK).pt:=
 ae (S:=aJ [(jT,RD),(rp,Mn)]) (ag (aa D0 (aa LY ac))) Er (fun _=>qsS rfl) (qhN rfl rfl)
theorem ep:Tri Tryz.prog aK (vj).pt:=
 cZ (S:=aJ []) (ag ac) CO (fun _=>qsS rfl) (qhM)
theorem qd:Tri Tryz.prog db (RN).pt:=
 cZ (S:=aJ [(aK,vj)]) (ag (aa ep ac)) El (fun _=>qsS rfl) (qnG rfl)
theorem fS:Tri Tryz.prog bj (yx).pt:=
 cZ (S:=aJ [(db,RN)]) (ag (aa qd ac)) CP (fun _=>qsS rfl) (qhO rfl)
theorem Ch:Tri Tryz.prog iK (Rw).pt:=
 cZ (S:=aJ [(aK,vj)]) (ag (aa ep ac)) A7 (fun _=>qsS rfl) (qej rfl)
theorem Ck:Tri Tryz.prog iN (RP).pt:=
 cZ (S:=aJ [(bj,yx)]) (ag (aa fS ac)) Ba (fun _=>qsS rfl) (qew rfl)
theorem Ci:Tri Tryz.prog iL (RH).pt:=
 cZ (S:=aJ []) (ag ac) A8 (fun _=>qsS rfl) (qen)
theorem Ae:Tri Tryz.prog fO (AY).pt:=
 cZ (S:=aJ [(aK,vj),(iL,RH)]) (ag (aa ep (aa Ci ac))) yO (fun _=>qsS rfl) (Xk rfl rfl)
theorem Cj:Tri Tryz.prog iM (RM).pt:=
 cZ (S:=aJ [(aK,vj),(bj,yx),(iK,Rw),(iN,RP)]) (ag (aa ep (aa fS (aa Ch (aa Ck ac))))) A9 (fun _=>qsS rfl) (qev rfl rfl rfl rfl)
theorem DY:Tri Tryz.prog jN (XV).pt:=
 cZ (S:=aJ [(aK,vj),(bj,yx),(iM,RM)]) (ag (aa ep (aa fS (aa Cj ac)))) CN (fun _=>qsS rfl) (qhL rfl rfl rfl)
theorem DX:Tri Tryz.prog jM (XT).pt:=
 cZ (S:=aJ [(fO,AY),(jN,XV)]) (ag (aa Ae (aa DY ac))) CM (fun _=>qsS rfl) (qhJ rfl rfl)
theorem DZ:Tri Tryz.prog jO (XY).pt:=
 cZ (S:=aJ [(bj,yx),(jM,XT)]) (ag (aa fS (aa DX ac))) CQ (fun _=>qsS rfl) (qhP rfl rfl)
theorem G0:Tri Tryz.prog nc (pR).pt:=
 ae (S:=aJ []) (ag ac) F0 (fun _=>qsS rfl) (QV)
theorem JX:Tri Tryz.prog pu (Eb).pt:=
 ae (S:=aJ []) (ag ac) H9 (fun _=>qsS rfl) (UW)
theorem Of:Tri Tryz.prog tL (Mi).pt:=
 ae (S:=aJ []) (ag ac) MJ (fun _=>qsS rfl) (qa8)
theorem Q1:Tri Tryz.prog wL (RB).pt:=
 ae (S:=aJ [(nc,pR),(pu,Eb),(tL,Mi)]) (ag (aa G0 (aa JX (aa Of ac)))) OU (fun _=>qsS rfl) (qek rfl rfl rfl)
theorem Cg:Tri Tryz.prog iJ (Rv).pt:=
 cZ (S:=aJ [(db,RN)]) (ag (aa qd ac)) A6 (fun _=>qsS rfl) (qei rfl)
theorem JY:Tri Tryz.prog pv (Mf).pt:=
 ae (S:=aJ []) (ag ac) Ia (fun _=>qsS rfl) (UZ)
theorem Og:Tri Tryz.prog tM (Mx).pt:=
 ae (S:=aJ [(wL,RB),(jO,XY),(bj,yx),(pv,Mf),(iJ,Rv),(db,RN),(aK,vj)]) (ag (aa Q1 (aa DZ (aa fS (aa JY (aa Cg (aa qd (aa ep ac)))))))) MK (fun _=>qsS rfl) (qbm rfl rfl rfl rfl rfl rfl rfl)
theorem J1:Tri Tryz.prog pF (Ea).pt:=
 ae (S:=aJ [(tM,Mx),(pE,Mk),(eY,OK),(wK,Mj)]) (ag (aa Og (aa Kx (aa xq (aa SR ac))))) Im (fun _=>qsS rfl) (UV rfl rfl rfl rfl)
end Go.Gv

namespace Go.Gv
open Go.Proofs
def sZ:CC:=by refine(fun(_:G.ap (G.gn Tryz.prog Tryz.f49 [2006006] { cu:=[1] })=?c)=>?c) ?h;case h=>conv=>lhs; (conv=>arg 1;reduce);dsimp only[G.ap]
def ss:List aj:=[.cell 6 true 7]
theorem Ik:aq Tryz.prog pB [2006006] sZ ss 28:=ai mixed (by kernel_rfl)
def qK:CC:=by refine(fun(_:G.ap (G.gn Tryz.prog Tryz.f107 [2006006,2006006,2083008,2082008] { cu:=[2,4,6,18,21,24] })=?c)=>?c) ?h;case h=>conv=>lhs; (conv=>arg 1;reduce);dsimp only[G.ap]
def qs:List aj:=[.cell 6 true 7]
theorem F8:aq Tryz.prog eI [2006006,2006006,2083008,2082008] qK qs 110:=ai mixed (by kernel_rfl)
def nN:CC:=by refine(fun(_:G.ap (G.gn Tryz.prog Tryz.f21 [2006006] { cu:=[2,4,7] })=?c)=>?c) ?h;case h=>conv=>lhs; (conv=>arg 1;reduce);dsimp only[G.ap]
def mQ:List aj:=[.cell 6 true 13]
end Go.Gv

namespace Go.Gv
open Cod (enc dec)
variable {S S0:Nat->Spc}
abbrev vk:Spc:=bp (a1 Int) bX (enc (X:=B)) (fun _ y=>y∈Types)
theorem UT(h1:S pD=s_m_Mod):ar vz vm S (a1 Int) bX (enc (X:=B)) (fun _ y=>y∈Types):=by
 rintro n -
 simp[vz,vm,h1]
 have h3:=Ir n 3 (by omega)
 refine⟨h3.1,h3.2,?_⟩
 have:ED n 3=0\/ED n 3=1\/ED n 3=2:=by omega
 rcases this with h|h|h <;> simp[h,Types,qna,qdc,qm9]
def Lw(n:Nat)(x:List Int×Int×List B):Prop:=x.2.1.toNat < n/\ -10<=x.2.1/\x.2.1<=100/\x.2.2.length<=1000
theorem jr{q:Cond->Prop}{H:ab}{op:Int}{n a v l:B}{f:Bool}{d:D}(ks:List Cond)(hd:FrzTo H d (enc ks))(hq:q ⟨op,n,a,v,l,f,ks⟩):Fin enc q (.agg [.v (.int .i64 op), .v (.string n), .v (.string a), .v (.string v), .v (.string l), .v (.bool f),d]) H:=by
 refine cV (⟨op,n,a,v,l,f,ks⟩:Cond) ?_ hq
 rw[ZA]
 refine .agg rfl fun k x y hx hy=>?_
 rcases k with _|_|_|_|_|_|_|k
 ·cases hx;cases hy;exact .same _
 ·cases hx;cases hy;exact .same _
 ·cases hx;cases hy;exact .same _
 ·cases hx;cases hy;exact .same _
 ·cases hx;cases hy;exact .same _
 ·cases hx;cases hy;exact .same _
 ·cases hx;cases hy;exact hd
 ·simp at hx
theorem qh1(a b c d e f g h:B):D.list 1 [.v (.string a), .v (.string b), .v (.string c), .v (.string d), .v (.string e), .v (.string f), .v (.string g), .v (.string h)]= .list 1 (Ow [a,b,c,d,e,f,g,h]):=id rfl
theorem qdx(a b c d:B):D.list 1 [.v (.string a), .v (.string b), .v (.string c), .v (.string d)]= .list 1 (Ow [a,b,c,d]):=id rfl
theorem Dm{q:Pat->Prop}{H:ab}{op o:Int}{n a v l lb rg:B}{f:Bool}{cd d:D}{mn mx:Int}(cks:List Cond)(ks:List Pat)(hc:FrzTo H cd (enc cks))(hd:FrzTo H d (enc ks))(hq:q ⟨op,⟨o,n,a,v,l,f,cks⟩,lb,rg,mn,mx,ks⟩):
 Fin enc q (.agg [.v (.int .i64 op), .v (.int .i64 o), .v (.string n), .v (.string a), .v (.string v), .v (.string l), .v (.bool f),cd, .v (.string lb), .v (.string rg), .v (.int .i64 mn), .v (.int .i64 mx),d]) H:=by
 refine cV (⟨op,⟨o,n,a,v,l,f,cks⟩,lb,rg,mn,mx,ks⟩:Pat) ?_ hq
 rw[Nm]
 refine .agg rfl fun k x y hx hy=>?_
 rcases k with _|_|_|_|_|_|_|_|_|_|_|_|_|k
 ·cases hx;cases hy;exact .same _
 ·cases hx;cases hy;exact .same _
 ·cases hx;cases hy;exact .same _
 ·cases hx;cases hy;exact .same _
 ·cases hx;cases hy;exact .same _
 ·cases hx;cases hy;exact .same _
 ·cases hx;cases hy;exact .same _
 ·cases hx;cases hy;exact hc
 ·cases hx;cases hy;exact .same _
 ·cases hx;cases hy;exact .same _
 ·cases hx;cases hy;exact .same _
 ·cases hx;cases hy;exact .same _
 ·cases hx;cases hy;exact hd
 ·simp at hx
def QD(n:Nat)(x:List Int×Int×List B):Prop:=x.2.1.toNat < n/\ -10<=x.2.1/\x.2.1<=100/\x.2.2.length<=1000
def qj5(x:List Int×Int×List B)(p:Pat):Prop:=WP x.2.2 x.2.1.toNat p/\PD x.2.1.toNat p
end Go.Gv
