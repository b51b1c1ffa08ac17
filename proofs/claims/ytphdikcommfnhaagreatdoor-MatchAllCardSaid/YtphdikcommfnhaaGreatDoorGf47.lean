/- A part of the framework and of the walks: Asm24 C4 W42. -/
import Derived.Test.YtphdikcommfnhaaGreatDoorGf28
import Derived.Test.YtphdikcommfnhaaGreatDoorGf32
import Derived.Test.YtphdikcommfnhaaGreatDoorGf29
import Derived.Test.YtphdikcommfnhaaGreatDoorGf35
import Derived.Test.YtphdikcommfnhaaGreatDoorGf36
import Derived.Test.YtphdikcommfnhaaGreatDoorGf46
import Derived.Test.YtphdikcommfnhaaGreatDoorGf43
import Derived.Test.YtphdikcommfnhaaGreatDoorGf20
import Derived.Test.YtphdikcommfnhaaGreatDoorGf25
import Derived.Test.YtphdikcommfnhaaGreatDoorGf22
set_option linter.unusedSimpArgs false
set_option linter.unusedVariables false
set_option linter.unusedSectionVars false
set_option maxRecDepth 100000
set_option maxHeartbeats 0

namespace Go.Gv
open Go.Proofs Cod
theorem jc{P:Program}{f:Nat}{A:Nat->PT}{A':PT}(h:∀n,Tri P f (A n))(hs:∀d ds H K,A' d ds H K->∃n,A n d ds H K):Tri P f A':=
 fun O tp w vs ds H d K a b c e g hA=>(hs d ds H K hA).elim fun n hn=>h n O tp w vs ds H d K a b c e g hn
theorem sD{P:Program}{f:Nat}{A:PT}(hs:∀d ds H K,¬A d ds H K):Tri P f A:=fun O tp w vs ds H d K a b c e g hA=>absurd hA (hs d ds H K)
theorem mK{X Y:Type}{A:de X}{pre:Nat->X->Prop}{pre':X->Prop}{er:Y->D}{post:X->Y->Prop}(hx:∀x,pre' x->∃n,pre n x):∀d ds H K,(aJ A pre' er post).pt d ds H K->∃n,(aJ A (pre n) er post).pt d ds H K:=by
 intro d ds H K h
 rw[sE]at h
 cases e:A.dec ds with
 | none=>rw[e]at h;exact h.elim
 | some x=>
   rw[e]at h
   obtain⟨h1,h2⟩:=h
   obtain⟨n,hn⟩:=hx x h1
   exact⟨n,by rw[sE,e];exact⟨hn,h2⟩⟩
theorem dN{P:Program}{f:Nat}{X Y:Type}{A:de X}{pre:X->Prop}{er:Y->D}{post:X->Y->Prop}(hx:∀x,¬pre x):Tri P f (aJ A pre er post).pt:=sD fun d ds H K h=>by
 rw[sE]at h
 cases e:A.dec ds with
 | none=>rw[e]at h;exact h.elim
 | some x=>rw[e]at h;exact hx x h.1
theorem NP{P:Program}{f:Nat}{Y Z:Type}{A:de Z}{er:Y->D} :Tri P f (qdY A er fun _ _=>none).pt:=sD fun d ds H K h=>by
 obtain⟨id,b',x,z,ds',h1,h2,h3,h4,h5,⟨r,h6⟩,h7⟩:=h
 cases h6
theorem qeI{P:Program}{f:Nat} :Tri P f (qkE fun _ _ _=>none).pt:=sD fun d ds H K h=>by
 obtain⟨id',b',x,n',k,r,d0',h1,h2,h3,h4,h5⟩:=h
 cases h4
theorem qtL{p:Cond}(h:mi p<=0):False:=by rw[Pj]at h;omega
theorem EL:Tri Tryz.prog eh (H3).pt:=
 ae (ag ac) Cx (fun _=>qwO rfl) (Dl)
theorem Gg:Tri Tryz.prog pJ (s_cpFold1).pt:=XJ (S:=HU [(eh,H3)]) (ag (aa EL ac)) rfl
theorem Gh:Tri Tryz.prog pK (qau).pt:=
 ae (ag ac) Eg (fun _=>qwO rfl) (E8)
theorem C1:Tri Tryz.prog lQ (qaH).pt:=
 ae (ag (aa Gh ac)) Bv (fun _=>qwO rfl) (BY rfl)
theorem Ga:Tri Tryz.prog cK (qav).pt:=
 ae (ag (aa C1 ac)) DY (fun _=>qwO rfl) (EX rfl)
theorem lj:Tri Tryz.prog cB (qaz).pt:=
 ae (ag (aa Ga ac)) kI (fun _=>qwO rfl) (K8 rfl)
theorem qM:Tri Tryz.prog dT (qar).pt:=
 ae (ag (aa lj ac)) pr (fun _=>qwO rfl) (K7 rfl)
theorem EE:Tri Tryz.prog nJ (QP).pt:=
 ae (ag ac) Cn (fun _=>qwO rfl) (NI)
theorem HL:Tri Tryz.prog rj (VD).pt:=
 ae (ag (aa EE ac)) Fy (fun _=>qwO rfl) (Tm rfl)
theorem wA:Tri Tryz.prog ed (qeM).pt:=
 ae (ag (aa HL (aa qM ac))) ve (fun _=>qwO rfl) (vS rfl rfl)
theorem wE:Tri Tryz.prog ed (WR).pt:=ID wA rfl (fun _=>RM (fun _ h=>by cases h))
theorem KI:Tri Tryz.prog tj (Qz).pt:=
 Ty (ag (aa wE ac)) Ho (fun _=>qwO rfl) (Ih rfl)
theorem Sx:Tri Tryz.prog Ak (qad).pt:=
 ae (ag ac) Ok (fun _=>qwO rfl) (PK)
theorem ct:Tri Tryz.prog bc (um).pt:=
 fe (ag (aa Dz ac)) zO (fun _=>qwO rfl) (Ns rfl)
theorem By:Tri Tryz.prog kK (Vl).pt:=
 fe (ag (aa Dz ac)) zN (fun _=>qwO rfl) (Nr rfl)
theorem lm:Tri Tryz.prog dK (NY).pt:=
 fe (ag (aa ct (aa By ac))) uf (fun _=>qwO rfl) (Dc rfl rfl)
theorem yZ:Tri Tryz.prog iG (qae).pt:=
 fe (ag (aa ct (aa zr (aa lm ac)))) xn (fun _=>qwO rfl) (Ii rfl rfl rfl)
theorem AN:Tri Tryz.prog jz (qaf).pt:=
 fe (ag (aa ct (aa yZ (aa KI ac)))) yQ (fun _=>qwO rfl) (Lc rfl rfl rfl)
theorem Bz:Tri Tryz.prog kL (Vm).pt:=
 fe (ag (aa ct (aa Sx (aa AN (aa zr (aa lm ac)))))) zP (fun _=>qwO rfl) (Nt rfl rfl rfl rfl rfl)
theorem yY:Tri Tryz.prog iF (qac).pt:=
 fe (ag (aa ct (aa Bz ac))) xm (fun _=>qwO rfl) (Ig rfl rfl)
theorem za:Tri Tryz.prog iH (qag).pt:=
 fe (ag (aa ct (aa yY ac))) xo (fun _=>qwO rfl) (Ij rfl rfl)
theorem AM:Tri Tryz.prog jy (qab).pt:=
 fe (ag (aa ct (aa za ac))) yP (fun _=>qwO rfl) (K9 rfl rfl)
theorem AL:∀n,Tri Tryz.prog qp (qkE (uN n)).pt
 | 0=>qeI
 | n+1=>Tu (ag (aa (AL n) ac)) Jp (by decide) (La n rfl)
theorem F9:Tri Tryz.prog pz (Qx).pt:=
 ae (ag ac) DX (fun _=>qwO rfl) (EW)
theorem EB:Tri Tryz.prog nz (Mn).pt:=
 ae (ag (aa F9 ac)) Cb (fun _=>qwO rfl) (Da rfl)
theorem rS:∀n,Tri Tryz.prog gJ (B6 n).pt
 | 0=>dN fun x h=>by cases h
 | n+1=>ae (ag (aa EB (aa (rS n) ac))) Bn (fun _=>qwO rfl) (BT n rfl rfl)
theorem tW:∀n,Tri Tryz.prog iT (TO n).pt
 | 0=>dN fun x h=>by obtain⟨m,h⟩:=h;cases h
 | n+1=>ae (ag (aa (tW n) ac)) Ce (fun _=>qwO rfl) (Db n rfl)
theorem wB:Tri Tryz.prog jX (Qy).pt:=
 ae (ag (aa (AL 50) (aa (rS 50) (aa (tW 50) ac)))) D0 (fun _=>qwO rfl) (EZ rfl rfl rfl)
theorem BN:Tri Tryz.prog qr (Fk).pt:=
 ae (ag (aa qia (aa AM (aa wB ac)))) Jr (fun _=>qwO rfl) (Ld rfl rfl rfl)
theorem BO:Tri Tryz.prog qt (Vw).pt:=
 ae (ag (aa BN ac)) JM (fun _=>qwO rfl) (Lu rfl)
theorem Gb:Tri Tryz.prog pA (qeN).pt:=
 ae (ag ac) DZ (fun _=>qwO rfl) (EY)
theorem rU:Tri Tryz.prog fL (NZ).pt:=
 sC (ag ac) zW (fun _=>qwO rfl) (qhT)
theorem iP:Tri Tryz.prog dq (HX).pt:=
 sC (ag (aa rU ac)) xq (fun _=>qwO rfl) (ZE rfl)
theorem KH:∀n,Tri Tryz.prog cM (IX n).pt/\Tri Tryz.prog iI (qaj n).pt/\Tri Tryz.prog ee (TM n).pt
 | 0=>⟨NP,NP,NP⟩
 | n+1=>⟨sC (ag (aa (KH n).1 (aa (KH n).2.1 (aa iP ac)))) yU (fun _=>qwO rfl) (qeo n rfl rfl rfl),sC (ag (aa (KH n).1 (aa (KH n).2.2 (aa iP (aa rU ac))))) xp (fun _=>qwO rfl) (ZB n rfl rfl rfl rfl),sC (ag (aa (KH n).1 (aa (KH n).2.2 (aa iP ac)))) vh (fun _=>qwO rfl) (Th n rfl rfl rfl)⟩
theorem Sy:Tri Tryz.prog Aw (qgU 50).pt:=
 ae (ag (aa (KH 50).1 ac)) OB (fun _=>qwO rfl) (qrz 50 rfl)
theorem BA:Tri Tryz.prog kN (qak).pt:=
 ae (ag ac) zX (fun _=>qwO rfl) (qeq)
theorem F8:Tri Tryz.prog cJ (qgT).pt:=
 ae (ag (aa Gg ac)) DW (fun _=>qwO rfl) (Td rfl)
theorem HK:Tri Tryz.prog db (qgY).pt:=
 ae (ag ac) Fp (fun _=>qwO rfl) (G3)
theorem BM:Tri Tryz.prog qq (qap).pt:=
 ae (ag (aa wB (aa Mf (aa Sy (aa BA (aa Gb (aa HK (aa F8 ac)))))))) Jq (fun _=>qwO rfl) (Lb rfl rfl rfl rfl rfl rfl rfl)
theorem L2:Tri Tryz.prog vk (VH false).pt:=
 ae (ag (aa BM ac)) Js (fun _=>qwO rfl) (Le rfl)
theorem EC:Tri Tryz.prog nA (VH true).pt:=
 ae (ag (aa BM ac)) Cf (fun _=>qwO rfl) (Dd rfl)
theorem L8:Tri Tryz.prog vx (Vv).pt:=
 ae (ag (aa BN (aa L2 (aa EC ac)))) JL (fun _=>qwO rfl) (Lt rfl rfl rfl)
theorem yI:Tri Tryz.prog bW (qaL).pt:=
 ae (ag ac) Ea (fun _=>qwO rfl) (E7)
theorem HN:Tri Tryz.prog ep (Mu).pt:=
 ae (ag (aa yI ac)) D9 (fun _=>qwO rfl) (E6 rfl)
theorem CY:Tri Tryz.prog bu (Vn).pt:=
 ae (ag (aa yI (aa HN ac))) zU (fun _=>qwO rfl) (Bj rfl rfl)
theorem rT:Tri Tryz.prog cn (Fj).pt:=
 ae (ag (aa Mf ac)) zT (fun _=>qwO rfl) (Bh rfl)
theorem HO:Tri Tryz.prog rp (QE).pt:=
 ae (ag (aa rT ac)) FE (fun _=>qwO rfl) (He rfl)
theorem CZ:Tri Tryz.prog lO (qaD).pt:=
 ae (ag ac) Bt (fun _=>qwO rfl) (BV)
theorem L7:Tri Tryz.prog vw (qaC).pt:=
 ae (ag (aa HO (aa CZ ac))) JK (fun _=>qwO rfl) (Ls rfl rfl)
theorem qN:∀n,Tri Tryz.prog ez (QJ n).pt
 | 0=>dN fun x h=>qtL h.1
 | n+1=>ae (ag (aa (qN n) ac)) zY (fun _=>qwO rfl) (zj n rfl)
theorem BB:Tri Tryz.prog ez (QK).pt:=jc (fun n=>qN n) (mK (fun x h=>h))
theorem EH:Tri Tryz.prog nL (Mw).pt:=
 ae (ag ac) Cr (fun _=>qwO rfl) (BW)
theorem wD:Tri Tryz.prog bK (N8).pt:=
 ae (ag ac) vi (fun _=>qwO rfl) (vT)
theorem rM:Tri Tryz.prog ek (TV Attr (HU [(bK,N8)])).pt:=
 ae (ag (aa wD ac)) qD (fun _=>qwO rfl) (Iv)
theorem dt:Tri Tryz.prog bE (A2).pt:=
 ae (ag (aa rM ac)) xr (fun _=>qwO rfl) (yM (S0:=(HU [(bK,N8)])) rfl rfl)
theorem uG:Tri Tryz.prog iW (I5).pt:=
 ae (ag (aa dt ac)) Cu (fun _=>qwO rfl) (Di rfl)
theorem EK:Tri Tryz.prog nO (QO).pt:=
 ae (ag ac) Cw (fun _=>qwO rfl) (Dk)
theorem eS:Tri Tryz.prog cw (I3).pt:=
 ae (ag ac) xk (fun _=>qwO rfl) (Iu)
theorem ll:Tri Tryz.prog aR (TS).pt:=
 ae (ag (aa eS ac)) ko (fun _=>qwO rfl) (Dn rfl)
theorem EI:Tri Tryz.prog nM (QI).pt:=
 ae (ag (aa uG (aa dt (aa CY ac)))) Cs (fun _=>qwO rfl) (Dh rfl rfl rfl)
theorem EJ:Tri Tryz.prog nN (QN).pt:=
 ae (ag (aa EH (aa EI (aa BO (aa dt (aa Tt (aa rT (aa ll ac)))))))) Cv (fun _=>qwO rfl) (Dj rfl rfl rfl rfl rfl rfl rfl)
theorem yo:Tri Tryz.prog bZ (VC).pt:=
 ae (ag (aa EJ ac)) wn (fun _=>qwO rfl) (wI rfl)
theorem uF:∀n,Tri Tryz.prog fX (QG n).pt
 | 0=>dN fun x h=>by obtain⟨a,lb,_,h,_⟩:=h;cases h
 | n+1=>ae (ag (aa yo (aa (uF n) ac))) Ee (fun _=>qwO rfl) (Dg n rfl rfl)
theorem Ge:Tri Tryz.prog fX (QF).pt:=jc (fun n=>uF n) (mK (fun x h=>h))
theorem qO:Tri Tryz.prog fu (TU).pt:=
 ae (ag (aa BB (aa Ge ac))) yW (fun _=>qwO rfl) (zl rfl rfl)
theorem Bw:Tri Tryz.prog kJ (Vu).pt:=
 ae (ag ac) zM (fun _=>qwO rfl) (NJ)
theorem ym:Tri Tryz.prog gI (Vy).pt:=
 ae (ag (aa Bw ac)) wk (fun _=>qwO rfl) (Hh rfl)
theorem AP:Tri Tryz.prog bS (DP).pt:=
 ae (ag (aa ym ac)) yV (fun _=>qwO rfl) (zi rfl)
theorem uh:Tri Tryz.prog dg (TV Region (HU [(bS,DP)])).pt:=
 ae (ag (aa AP ac)) js (fun _=>qwO rfl) (Gq)
theorem rN:Tri Tryz.prog bz (XW Region (HU [(bS,DP)])).pt:=
 ae (ag (aa uh ac)) gk (fun _=>qwO rfl) (Gr rfl)
theorem C0:Tri Tryz.prog lP (qaG).pt:=
 ae (ag (aa rN ac)) Bu (fun _=>qwO rfl) (BX (S0:=(HU [(bS,DP)])) rfl rfl)
theorem tX:∀n,Tri Tryz.prog iV (I4 n).pt
 | 0=>dN fun x h=>by obtain⟨_,y,h⟩:=h;cases h
 | n+1=>
   have g1:Tri Tryz.prog aG (TR n).pt:=ae (ag (aa (tX n) ac)) Aa (fun _=>qwO rfl) (XA n rfl)
   have g2:Tri Tryz.prog cp (qaA n).pt:=ae (ag (aa g1 ac)) zZ (fun _=>qwO rfl) (Xz n rfl)
   have g3:Tri Tryz.prog fT (TV Cond (HU [(aG,TR n),(cp,qaA n)])).pt:=ae (ag (aa g1 (aa g2 ac))) vg (fun _=>qwO rfl) (XD)
   have g4:Tri Tryz.prog eO (XW Cond (HU [(aG,TR n),(cp,qaA n)])).pt:=ae (ag (aa g3 ac)) rY (fun _=>qwO rfl) (XE rfl)
   ae (ag (aa g1 (aa g4 (aa uG (aa EK (aa L8 (aa dt (aa L7 (aa eS (aa C0 ac)))))))))) Ct (fun _=>qwO rfl) (qej (S0:=(HU [(aG,TR n),(cp,qaA n)])) n rfl rfl rfl rfl rfl rfl rfl rfl rfl rfl rfl)
theorem HQ:Tri Tryz.prog rr (yx).pt:=
 ae (ag ac) FG (fun _=>qwO rfl) (Hg)
theorem uH:Tri Tryz.prog iX (mM).pt:=
 ae (ag (aa HQ ac)) Cy (fun _=>qwO rfl) (Dm rfl)
theorem Pi:Tri Tryz.prog xT (DQ).pt:=
 ae (ag ac) LT (fun _=>qwO rfl) (NH)
theorem AK:Tri Tryz.prog jx (qaI).pt:=
 ae (ag (aa uH ac)) yO (fun _=>qwO rfl) (qhZ rfl)
theorem HM:Tri Tryz.prog lw (s_cmpM).pt:=
 ae (ag (aa uH (aa AK (aa Pi ac)))) Fz (fun _=>qwO rfl) (qhY rfl rfl rfl)
theorem HP:Tri Tryz.prog rq (My).pt:=
 ae (ag ac) FF (fun _=>qwO rfl) (XC)
theorem L3:Tri Tryz.prog vm (qaq).pt:=
 ae (ag ac) Jt (fun _=>qwO rfl) (qhM)
theorem KJ:Tri Tryz.prog xK (N1).pt:=
 ae (ag (aa L3 ac)) Q2 (fun _=>qwO rfl) (qd7 rfl)
theorem L6:Tri Tryz.prog vu (Vq).pt:=
 ae (ag ac) JI (fun _=>qwO rfl) (Lr)
theorem Gf:Tri Tryz.prog pI (Vt).pt:=
 ae (ag (aa (tX 21) ac)) Ef (fun _=>qwO rfl) (qeg rfl)
theorem yn:Tri Tryz.prog cY (qax).pt:=
 ae (ag ac) my (fun _=>qwO rfl) (qhR)
theorem qnK:Tri Tryz.prog cY b_masg.pt:=P8 rfl (AY (ag ac) my (fun _=>qwO rfl) (qeb)) fun y c hc=>by
 simp at hc
 subst hc
 exact J8 _
theorem EF:Tri Tryz.prog iU (qiq).pt:=
 ae (ag (aa yn (aa Gf (aa eS ac)))) Co (fun _=>qwO rfl) (qhP rfl rfl rfl)
theorem qnI:Tri Tryz.prog iU b_mtok.pt:=Gu EF fun z=>by
 obtain⟨s,v⟩:=z
 simp only[qna]
 refine RM fun d hd=>?_
 simp only[qwT,qxe,or_false]at hd
 rcases hd with rfl|rfl
 ·exact qch fun d hd=>by
   simp only[qwT,qxe,or_false]at hd
   rcases hd with rfl|rfl|rfl|rfl <;> exact J8 _
 ·exact J8 _
theorem AO:Tri Tryz.prog bQ (DM).pt:=
 ae (ag ac) yT (fun _=>qwO rfl) (qec)
theorem CX:Tri Tryz.prog gK (qir).pt:=
 have h1:Tri Tryz.prog dg (TV Region (HU [(bQ,DM)])).pt:=ae (ag (aa AO ac)) js (fun _=>qwO rfl) (Gq)
 have h2:Tri Tryz.prog bz (XW Region (HU [(bQ,DM)])).pt:=ae (ag (aa h1 ac)) gk (fun _=>qwO rfl) (Gr rfl)
 ae (ag (aa h2 ac)) Bp (fun _=>qwO rfl) (qhS (S0:=HU [(bQ,DM)]) rfl rfl)
theorem qnL:Tri Tryz.prog gK b_manc.pt:=Gu CX fun _=>J8 _
theorem Pg:Tri Tryz.prog xQ (Vs).pt:=
 ae (ag ac) LP (fun _=>qwO rfl) (qd9)
theorem Ph:Tri Tryz.prog uB clC.pt:=XN Tryz.cloneSet rfl (iv Tryz.func184 (by kernel_rfl) rfl)
theorem Gd:Tri Tryz.prog pG (qaw).pt:=
 Tx (ag ac) Eb (fun _=>qwO rfl) (qhQ)
theorem qa0:Tri Tryz.prog cX (Mp 0).pt:=sD fun d ds H K h=>by
 obtain⟨id,b',x,z,ds',h1,h2,h3,h4,h5,h6,h7⟩:=h
 obtain⟨_,_,_,q,_,hq,_⟩:=h6
 rw[H5]at hq
 omega
theorem WM:∀n,Tri Tryz.prog cX (Mp n).pt
 | 0=>qa0
 | n+1=>
   have h1:Tri Tryz.prog kb (TQ n).pt:=B1 (ag (aa (WM n) ac)) D8 (fun _=>qwO rfl) (qhU n rfl)
   have h2:Tri Tryz.prog lN (qgW n).pt:=B1 (ag (aa Pg (aa h1 (aa (WM n) (aa Ph (aa Gd ac)))))) Bo (fun _=>qwO rfl) (qly n rfl rfl rfl rfl rfl)
   B1 (ag (aa qnI (aa qnL (aa h1 (aa (WM n) (aa h2 ac)))))) Cp (fun _=>qwO rfl) (qd6 n rfl rfl rfl rfl rfl)
theorem qj0:Tri Tryz.prog mD (TN lw sB).pt:=XM Tryz.sortMatch rfl (fun w=>Tryz.isAgg55 w) (fun w=>Tryz.sizeOf55 w) rfl HM (iv Tryz.func19 (by kernel_rfl) rfl) (iv Tryz.func83 (by kernel_rfl) rfl)
theorem qkK{p:Pat}(h:eG p<=0):False:=by rw[H5]at h;omega
theorem yu:Tri Tryz.prog bW (zB).pt:=
 ae (ag ac) FB (fun _=>qwO rfl) (Hb)
theorem Hk:Tri Tryz.prog ep (QB).pt:=
 ae (ag (aa yu ac)) FA (fun _=>qwO rfl) (Ha rfl)
theorem gr:Tri Tryz.prog bu (zy).pt:=
 ae (ag (aa yu (aa Hk ac))) Bq (fun _=>qwO rfl) (BU rfl rfl)
theorem NK:Tri Tryz.prog xP (qaa).pt:=
 ae (ag ac) LK (fun _=>qwO rfl) (Nz)
theorem NL:Tri Tryz.prog jZ (N3).pt:=
 ae (ag (aa NK ac)) LM (fun _=>qwO rfl) (NC rfl)
theorem Ly:Tri Tryz.prog cT (A1).pt:=
 ae (ag (aa gr ac)) JA (fun _=>qwO rfl) (Lj rfl)
theorem Iy:Tri Tryz.prog cD (wb).pt:=
 ae (ag ac) Hu (fun _=>qwO rfl) (In)
def Zm:Nat->Spc:=HU [(jZ,N3),(cT,A1),(cD,wb)]
def qv3(n:Nat):Nat->Spc:=HU [(fq,qam n)]
theorem qcT{S:Nat->Spc}(h:∀f,Tri Tryz.prog f (S f).pt):Tri Tryz.prog aI (N9 S).pt:=
 ae (ag (aa (ae (S:=S) h rX (fun _=>qwO rfl) sA) ac)) pv (fun _=>qwO rfl) (qw rfl)
theorem yy:∀n,Tri Tryz.prog ia (Mo n).pt
 | 0=>dN fun x h=>qkK h.1
 | n+1=>
   have h1:Tri Tryz.prog fq (qam n).pt:=ae (ag (aa (yy n) ac)) Cm (fun _=>qwO rfl) (Df n rfl)
   ae (ag (aa (qcT (S:=qv3 n) (ag (aa h1 ac))) ac)) Ft (fun _=>qwO rfl) (G5 (S0:=qv3 n) n rfl rfl)
theorem Hi:Tri Tryz.prog ia (IY).pt:=
 jc (fun n=>yy n) (mK (fun x h=>⟨eG x.1,qwY _,h⟩))
def quF(n:Nat):Nat->Spc:=HU [(ic,qaF Zm n)]
def quE(n:Nat):Nat->Spc:=HU [(aI,N9 (quF n)),(jZ,N3),(cT,A1),(cD,wb)]
theorem qfi(n:Nat)(d:D)(f:Pat->Bool)(h:FunIs Zm d f):FunIs (quE n) d f:=by
 obtain⟨g,c,pc,a,b,e⟩:=h
 refine⟨g,c,pc,a,?_,e⟩
 by_cases hg:g=aI
 ·subst hg
  have:Zm aI=Spc.none:=rfl
  rw[this]at b
  cases b
 ·rw[<-b]
  unfold quE Zm
  rw[HU,if_neg hg]
theorem BH:∀n,Tri Tryz.prog eE (Vx Zm n).pt
 | 0=>dN fun x h=>by obtain⟨f,h1,h2⟩:=h;exact qkK h2
 | n+1=>
   have h1:Tri Tryz.prog ic (qaF Zm n).pt:=ae (ag (aa (BH n) ac)) Fv (fun _=>qwO rfl) (G8 (S0:=Zm) n rfl)
   ae (S:=quE n) (ag (aa (qcT (S:=quF n) (ag (aa h1 ac))) (aa NL (aa Ly (aa Iy ac))))) JB (fun _=>qwO rfl) (Lk (S0:=quF n) (N:=Zm) n (qfi n) rfl rfl)
theorem qh:Tri Tryz.prog eE (zA Zm).pt:=
 jc (fun n=>BH n) (mK (fun x h=>by obtain⟨f,h⟩:=h;exact⟨eG x.1,f,h,qwY _⟩))
theorem uL:Tri Tryz.prog lg (H4).pt:=
 ae (ag (aa Hi (aa qh ac))) JE (fun _=>qwO rfl) (Lp (N:=Zm) rfl rfl rfl)
theorem Lx:Tri Tryz.prog vr (yv).pt:=
 ae (ag (aa uL (aa qh ac))) Jz (fun _=>qwO rfl) (Lh (N:=Zm) rfl rfl rfl rfl)
theorem DT:∀n,Tri Tryz.prog jY (qal n).pt
 | 0=>dN fun x h=>qkK h.1
 | n+1=>ae (ag (aa (DT n) ac)) LL (fun _=>qwO rfl) (NA n rfl)
theorem Dy:Tri Tryz.prog jY (N0).pt:=
 jc (fun n=>DT n) (mK (fun x h=>⟨eG x,qwY _,h⟩))
theorem zL:∀n,Tri Tryz.prog jB (QH n).pt
 | 0=>dN fun x h=>h
 | n+1=>ae (ag (aa (zL n) ac)) Hv (fun _=>qwO rfl) (Iq n rfl)
theorem Iz:Tri Tryz.prog jB (Mx).pt:=
 jc (fun n=>zL n) (mK (fun x h=>h))
theorem BE:Tri Tryz.prog qs (N6).pt:=
 ae (ag (aa Iz ac)) JC (fun _=>qwO rfl) (Ll rfl)
theorem zJ:∀n,Tri Tryz.prog dV (MY n).pt
 | 0=>sD fun d ds H K ⟨id,v,l,a,x,h1,h2,h3,h4,h5⟩=>qkK h4.1
 | n+1=>B2 (ag (aa (zJ n) (aa BE ac))) yz (by decide) (Io n rfl rfl)
theorem vW:Tri Tryz.prog dV i_leavesQA.pt:=jc (fun n=>zJ n) fun d ds H K ⟨id,v,l,a,x,h1,h2,h3,h4,h5⟩=>⟨eG x,id,v,l,a,x,h1,h2,h3,⟨qwY _,h4⟩,h5⟩
theorem zo:Tri Tryz.prog dV s_leavesQ.pt:=NN (AY (ag (aa vW (aa BE ac))) yz (fun _=>qwO rfl) (G6 rfl rfl)) vW
theorem ZP:Tri Tryz.prog aR s_has2.pt:=
 have h:Tri Tryz.prog aR s_hasE.pt:=ae (ag (aa eS ac)) ko (fun _=>qwO rfl) (BS rfl)
 NN h (ID h rfl fun _=>J8 _)
theorem zK:∀n,Tri Tryz.prog bP (Ry n).pt
 | 0=>sD fun d ds H K ⟨id,v,l,a,x,h1,h2,h3,h4,h5⟩=>qkK h4.1
 | n+1=>B2 (ag (aa ZP (aa (zK n) ac))) yB (by decide) (Ip n rfl rfl)
theorem vX:Tri Tryz.prog bP i_labelsA.pt:=jc (fun n=>zK n) fun d ds H K ⟨id,v,l,a,x,h1,h2,h3,h4,h5⟩=>⟨eG x,id,v,l,a,x,h1,h2,h3,⟨qwY _,h4⟩,h5⟩
theorem ja:Tri Tryz.prog bP s_qlabels.pt:=NN (AY (ag (aa ZP (aa vX ac))) yB (fun _=>qwO rfl) (G7 rfl rfl)) vX
theorem IA:Tri Tryz.prog tr (zz).pt:=
 ae (ag (aa Lx (aa ja ac))) Hw (fun _=>qwO rfl) (Is rfl rfl)
theorem Pf:Tri Tryz.prog nH (qas).pt:=
 ae (ag ac) BJ (fun _=>qwO rfl) (NB)
theorem L4:Tri Tryz.prog ld (VF).pt:=
 ae (ag (aa Pf ac)) zS (fun _=>qwO rfl) (Lo rfl)
theorem ui:Tri Tryz.prog cg (qaO).pt:=
 ae (ag ac) jt (fun _=>qwO rfl) (ud)
theorem io:Tri Tryz.prog aL (TW).pt:=
 ae (ag (aa ui ac)) gl (fun _=>qwO rfl) (qR rfl)
theorem zq:Tri Tryz.prog dW (qaJ).pt:=
 ae (ag (aa uL (aa qh (aa Dy (aa ja (aa io ac)))))) oQ (fun _=>qwO rfl) (qh0 (N:=Zm) rfl rfl rfl rfl rfl rfl rfl)
theorem ED:Tri Tryz.prog ft (VA).pt:=
 ae (ag ac) te (fun _=>qwO rfl) (qem)
theorem Gc:Tri Tryz.prog dC (qaK).pt:=
 ae (ag (aa ED ac)) uo (fun _=>qwO rfl) (qh1 rfl)
theorem Fd:Tri Tryz.prog fV (qip).pt:=
 ae (ag (aa zq (aa ja (aa zo (aa qO (aa io (aa L4 (aa Gc ac)))))))) uq (fun _=>qwO rfl) (qhN rfl rfl rfl rfl rfl rfl rfl)
theorem wM:Tri Tryz.prog sd (N4).pt:=
 ae (ag (aa HP (aa IA (aa (WM 101) (aa qnK (aa qj0 ac)))))) LQ (fun _=>qwO rfl) (qea rfl rfl rfl rfl rfl)
theorem Hj:Tri Tryz.prog ig (qgZ).pt:=
 ae (ag (aa Fd (aa wM ac))) wm (fun _=>qwO rfl) (qgM rfl rfl)
theorem eF:Tri Tryz.prog cL (IZ).pt:=
 cZ (ag ac) D3 (fun _=>qwO rfl) (qlA)
theorem qS:Tri Tryz.prog hZ (qeO).pt:=
 cZ (ag (aa eF ac)) Fq (fun _=>qwO rfl) (qry rfl)
theorem fN:Tri Tryz.prog dB (Mv).pt:=
 cZ (ag (aa qS ac)) D4 (fun _=>qwO rfl) (qlB rfl)
theorem Du:Tri Tryz.prog nC (qai).pt:=
 cZ (ag (aa eF ac)) Ch (fun _=>qwO rfl) (qhK rfl)
theorem Dx:Tri Tryz.prog nF (qaB).pt:=
 cZ (ag (aa fN ac)) Ck (fun _=>qwO rfl) (qhX rfl)
theorem Dv:Tri Tryz.prog nD (qat).pt:=
 cZ (ag ac) Ci (fun _=>qwO rfl) (qhO)
theorem Bk:Tri Tryz.prog kM (Ja).pt:=
 cZ (ag (aa eF (aa Dv ac))) zQ (fun _=>qwO rfl) (ZG rfl rfl)
theorem Dw:Tri Tryz.prog nE (qay).pt:=
 cZ (ag (aa eF (aa fN (aa Du (aa Dx ac))))) Cj (fun _=>qwO rfl) (qhW rfl rfl rfl rfl)
theorem Fb:Tri Tryz.prog pD (qgX).pt:=
 cZ (ag (aa eF (aa fN (aa Dw ac)))) D2 (fun _=>qwO rfl) (qlz rfl rfl rfl)
theorem Fa:Tri Tryz.prog pB (qgV).pt:=
 cZ (ag (aa Bk (aa Fb ac))) D1 (fun _=>qwO rfl) (qlx rfl rfl)
theorem Fc:Tri Tryz.prog pE (qg0).pt:=
 cZ (ag (aa fN (aa Fa ac))) D5 (fun _=>qwO rfl) (qlC rfl rfl)
theorem Iw:Tri Tryz.prog tk (zB).pt:=
 ae (ag ac) Hp (fun _=>qwO rfl) (Tl)
theorem Lv:Tri Tryz.prog vn (Mt).pt:=
 ae (ag ac) Ju (fun _=>qwO rfl) (Xy)
theorem P4:Tri Tryz.prog Al (Vp).pt:=
 ae (ag ac) Ol (fun _=>qwO rfl) (qd5)
theorem Ts:Tri Tryz.prog CP (qan).pt:=
 ae (ag (aa Iw (aa Lv (aa P4 ac)))) Q3 (fun _=>qwO rfl) (qhL rfl rfl rfl)
theorem Dt:Tri Tryz.prog nB (qah).pt:=
 cZ (ag (aa qS ac)) Cg (fun _=>qwO rfl) (qhJ rfl)
theorem Lw:Tri Tryz.prog vo (Vo).pt:=
 ae (ag ac) Jv (fun _=>qwO rfl) (XB)
theorem P5:Tri Tryz.prog Am (VG).pt:=
 ae (ag (aa Ts (aa Fc (aa fN (aa Lw (aa Dt (aa qS (aa eF ac)))))))) Om (fun _=>qwO rfl) (qep rfl rfl rfl rfl rfl rfl rfl)
theorem Lz:Tri Tryz.prog vv (Ms).pt:=
 ae (ag (aa P5 (aa L6 (aa Hj (aa KJ ac))))) JJ (fun _=>qwO rfl) (Xx rfl rfl rfl rfl)
end Go.Gv

namespace Go.Gv
open Go.Proofs
def tQ:CC:=gq Tryz.f49 [2006006] { cu:=[1] } _
def sW:List aj:=[.cell 6 true 7]
theorem JG:ak Tryz.prog vt [2006006] tQ sW 28:=fo
def rI:CC:=gq Tryz.f107 [2006006,2006006,2083008,2082008] { cu:=[2,4,6,18,21,24] } _
def rc:List aj:=[.cell 6 true 7]
theorem Hy:ak Tryz.prog jC [2006006,2006006,2083008,2082008] rI rc 110:=fo
def om:CC:=gq Tryz.f21 [2006006] { cu:=[2,4,7] } _
def nf:List aj:=[.cell 6 true 13]
end Go.Gv

namespace Go.Gv
open Cod (enc dec)
variable {S S0:Nat->Spc}
abbrev we:Spc:=aJ (a1 Int) bH (enc (X:=B)) (fun _ y=>y∈Types)
theorem Xv(h1:S uC=s_m_Mod):aq wz wh S (a1 Int) bH (enc (X:=B)) (fun _ y=>y∈Types):=by
 rintro n -
 simp[wz,wh,h1]
 have h3:=JN n 3 (by omega)
 refine⟨h3.1,h3.2,?_⟩
 have:FL n 3=0\/FL n 3=1\/FL n 3=2:=by omega
 rcases this with h|h|h <;> simp[h,Types,qq0,qgr,qqZ]
def Nk(n:Nat)(x:List Int×Int×List B):Prop:=x.2.1.toNat < n/\ -10<=x.2.1/\x.2.1<=100/\x.2.2.length<=1000
theorem fm{q:Cond->Prop}{H:ab}{op:Int}{n a v l:B}{f:Bool}{d:D}(ks:List Cond)(hd:FrzTo H d (enc ks))(hq:q ⟨op,n,a,v,l,f,ks⟩):Fin enc q (.agg [.v (.int .i64 op), .v (.string n), .v (.string a), .v (.string v), .v (.string l), .v (.bool f),d]) H:=by
 refine cm (⟨op,n,a,v,l,f,ks⟩:Cond) ?_ hq
 rw[qcw]
 refine .agg rfl fun k x y hx hy=>?_
 rcases k with _|_|_|_|_|_|_|k
 ·cases hx;cases hy;exact .same _
 ·cases hx;cases hy;exact .same _
 ·cases hx;cases hy;exact .same _
 ·cases hx;cases hy;exact .same _
 ·cases hx;cases hy;exact .same _
 ·cases hx;cases hy;exact .same _
 ·cases hx;cases hy;exact hd
 ·simp at hx
theorem qlP(a b c d e f g h:B):D.list 1 [.v (.string a), .v (.string b), .v (.string c), .v (.string d), .v (.string e), .v (.string f), .v (.string g), .v (.string h)]= .list 1 (Ql [a,b,c,d,e,f,g,h]):=id rfl
theorem qgQ(a b c d:B):D.list 1 [.v (.string a), .v (.string b), .v (.string c), .v (.string d)]= .list 1 (Ql [a,b,c,d]):=id rfl
theorem A9{q:Pat->Prop}{H:ab}{op o:Int}{n a v l lb rg:B}{f:Bool}{cd d:D}{mn mx:Int}(cks:List Cond)(ks:List Pat)(hc:FrzTo H cd (enc cks))(hd:FrzTo H d (enc ks))(hq:q ⟨op,⟨o,n,a,v,l,f,cks⟩,lb,rg,mn,mx,ks⟩):
 Fin enc q (.agg [.v (.int .i64 op), .v (.int .i64 o), .v (.string n), .v (.string a), .v (.string v), .v (.string l), .v (.bool f),cd, .v (.string lb), .v (.string rg), .v (.int .i64 mn), .v (.int .i64 mx),d]) H:=by
 refine cm (⟨op,⟨o,n,a,v,l,f,cks⟩,lb,rg,mn,mx,ks⟩:Pat) ?_ hq
 rw[O5]
 refine .agg rfl fun k x y hx hy=>?_
 rcases k with _|_|_|_|_|_|_|_|_|_|_|_|_|k
 ·cases hx;cases hy;exact .same _
 ·cases hx;cases hy;exact .same _
 ·cases hx;cases hy;exact .same _
 ·cases hx;cases hy;exact .same _
 ·cases hx;cases hy;exact .same _
 ·cases hx;cases hy;exact .same _
 ·cases hx;cases hy;exact .same _
 ·cases hx;cases hy;exact hc
 ·cases hx;cases hy;exact .same _
 ·cases hx;cases hy;exact .same _
 ·cases hx;cases hy;exact .same _
 ·cases hx;cases hy;exact .same _
 ·cases hx;cases hy;exact hd
 ·simp at hx
def Xc(n:Nat)(x:List Int×Int×List B):Prop:=x.2.1.toNat < n/\ -10<=x.2.1/\x.2.1<=100/\x.2.2.length<=1000
def qnT(x:List Int×Int×List B)(p:Pat):Prop:=WP x.2.2 x.2.1.toNat p/\PD x.2.1.toNat p
end Go.Gv
