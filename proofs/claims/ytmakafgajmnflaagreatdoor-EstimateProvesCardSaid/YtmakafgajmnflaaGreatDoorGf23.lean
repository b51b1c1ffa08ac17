/- Asm24 -/
import Derived.Test.YtmakafgajmnflaaGreatDoorGf22
set_option linter.all false
set_option maxRecDepth 100000
set_option maxHeartbeats 0
open Bool renaming forall_bool → fB', exists_bool → eB'
namespace Go.Gv
section
open Go.Proofs Cod
variable {dq:Prop}
def ei{P:Program}{f:Nat}{A:Nat->PT}{j:PT}(h:∀n,Tri dq P f (A n))(hs:∀d ds H K,j d ds H K->∃n,A n d ds H K):Tri dq P f j:=
 λO tp w vs ds H d K a b c e g k=>(hs d ds H K k).elim λn hn=>h n O tp w vs ds H d K a b c e g hn
def nO{P:Program}{f:Nat}{A:PT}(hs:∀d ds H K,¬A d ds H K):Tri dq P f A:=λO tp w vs ds H d K a b c e g h=>absurd h (hs d ds H K)
def gh{X Y:Type}{A:dN X}{pre:Nat->X->Prop}{a:X->Prop}{er:Y->D}{post:X->Y->Prop}(b:∀x,a x->∃n,pre n x):∀d ds H K,(aJ A a er post).pt d ds H K->∃n,(aJ A (pre n) er post).pt d ds H K:=by
 intro d ds H K h;rw[su]at h;cases e:A.dec ds with
 |none=>rw[e]at h;exact h.elim
 | some x=>
   rw[e]at h;obtain⟨h1,h2⟩:=h;obtain⟨n,hn⟩:=b x h1;exact⟨n,by rw[su,e];exact⟨hn,h2⟩⟩
def bU{P:Program}{f:Nat}{X Y:Type}{A:dN X}{pre:X->Prop}{er:Y->D}{post:X->Y->Prop}(a:∀x,¬pre x):Tri dq P f (aJ A pre er post).pt:=nO λd ds H K h=>by
 rw[su]at h;cases e:A.dec ds with
 |none=>rw[e]at h;exact h.elim
 |some x=>rw[e]at h;exact a x h.1
def RD{P:Program}{f:Nat}{Y Z:Type}{A:dN Z}{er:Y->D} :Tri dq P f (qiQ A er λ_ _=>none).pt:=nO λd ds H K h=>by
 obtain⟨id,b',x,z,a,h1,h2,h3,h4,h5,⟨r,h6⟩,b⟩:=h;cases h6
def qjJ{P:Program}{f:Nat} :Tri dq P f (qpB λ_ _ _=>none).pt:=nO λd ds H K h=>by
 obtain⟨a,b',x,c,k,r,b,h1,h2,h3,h4,h5⟩:=h;cases h4
def qzb{p:Cond}(h:dE p<=0):False:=by rw[Hl]at h;omega
def Hj:TQ dq eQ Lc:=
 ac (ag ae) Er (Fq)
def Jj:TQ dq qP s_cpFold1:=qcp (S:=FG [(eQ,Lc)]) (ag (aa Hj ae)) rfl
def Jk:TQ dq qQ qfa:=
 ac (ag ae) Gu (HP)
def EU:TQ dq nc qfm:=
 ac (ag (aa Jk ae)) C6 (DP rfl)
def Jd:TQ dq dg qfb:=
 ac (ag (aa EU ae)) Ga (HA rfl)
def mG:TQ dq cT qff:=
 ac (ag (aa Jd ae)) lS (Ol rfl)
def sk:TQ dq ez qe9:=
 ac (ag (aa mG ae)) qC (Ok rfl)
def G9:TQ dq pi Vx:=
 ac (ag ae) Ee (Rq)
def KP:TQ dq sL qaA:=
 ac (ag (aa G9 ae)) Ii (Yj rfl)
def yt:TQ dq eL qjN:=
 ac (ag (aa KP (aa sk ae))) wL (xG rfl rfl)
def yx:TQ dq eL qbM:=LT yt rfl (λ_=>WK (λ_ h=>by cases h))
def NT:TQ dq uQ Vh:=
 DX (ag (aa yx ae)) Ko (λ_=>qCh rfl) (Lx rfl)
def XD:TQ dq BN qeZ:=
 ac (ag ae) Sh (Ua)
def cK:TQ dq bA vV:=
 fU (ag (aa FC ae)) Bq (λ_=>qCh rfl) (Q3 rfl)
def Db:TQ dq lU qaf:=
 fU (ag (aa FC ae)) Bp (λ_=>qCh rfl) (Q2 rfl)
def mI:TQ dq ed RO:=
 fU (ag (aa cK (aa Db ae))) vO (λ_=>qCh rfl) (Fe rfl rfl)
def AT:TQ dq ju qe0:=
 fU (ag (aa cK (aa A9 (aa mI ae)))) zl (λ_=>qCh rfl) (Ly rfl rfl rfl)
def Ch:TQ dq kK qe1:=
 fU (ag (aa cK (aa AT (aa NT ae)))) AK (λ_=>qCh rfl) (Oq rfl rfl rfl)
def Dc:TQ dq lV qag:=
 fU (ag (aa cK (aa XD (aa Ch (aa A9 (aa mI ae)))))) Bt (λ_=>qCh rfl) (Q4 rfl rfl rfl rfl rfl)
def AS:TQ dq jt qeY:=
 fU (ag (aa cK (aa Dc ae))) zj (λ_=>qCh rfl) (Lw rfl rfl)
def AU:TQ dq jv qe2:=
 fU (ag (aa cK (aa AS ae))) zn (λ_=>qCh rfl) (Lz rfl rfl)
def Cg:TQ dq kJ qeX:=
 fU (ag (aa cK (aa AU ae))) AJ (λ_=>qCh rfl) (Om rfl rfl)
def Cf:∀n,TQ dq rC (qpB (wu n))
 | 0=>qjJ
 |n+1=>Yu (ag (aa (Cf n) ae)) MD (by decide) (On n rfl)
def Jc:TQ dq qI Vc:=
 ac (ag ae) F9 (Hz)
def G7:TQ dq oY PO:=
 ac (ag (aa Jc ae)) D8 (Fc rfl)
def tt:∀n,TQ dq iF (D1 n)
 | 0=>bU λx h=>by cases h
 |n+1=>dc (ag (aa G7 (aa (tt n) ae))) CW (λ_=>qCh rfl) (DJ n rfl rfl)
def vH:∀n,TQ dq jS (YM n)
 | 0=>bU λx h=>by obtain⟨m,h⟩:=h;cases h
 |n+1=>dc (ag (aa (vH n) ae)) D9 (λ_=>qCh rfl) (Fd n rfl)
def yu:TQ dq lw Ve:=
 ac (ag (aa (Cf 50) (aa (tt 50) (aa (vH 50) ae)))) Gc (HC rfl rfl rfl)
def Dt:TQ dq rE H5:=
 ac (ag (aa qm2 (aa Cg (aa yu ae)))) MF (Ot rfl rfl rfl)
def Du:TQ dq rH qat:=
 ac (ag (aa Dt ae)) MZ (OM rfl)
def Je:TQ dq qJ qjO:=
 ac (ag ae) Gb (HB)
def tv:TQ dq gJ RP:=
 uh (ag ae) Bz (λ_=>qCh rfl) (qmR)
def jF:TQ dq dK Lb:=
 uh (ag (aa tv ae)) zq (λ_=>qCh rfl) (qek rfl)
def NS:∀n,TQ dq dh (Mb n)/\TQ dq jw (qe3 n)/\TQ dq eO (YJ n)
 | 0=>⟨RD,RD,RD⟩
 |n+1=>⟨uh (ag (aa (NS n).1 (aa (NS n).2.1 (aa jF ae)))) AP (λ_=>qCh rfl) (qji n rfl rfl rfl),uh (ag (aa (NS n).1 (aa (NS n).2.2 (aa jF (aa tv ae))))) zo (λ_=>qCh rfl) (qeh n rfl rfl rfl rfl),uh (ag (aa (NS n).1 (aa (NS n).2.2 (aa jF ae)))) wN (λ_=>qCh rfl) (Yf n rfl rfl rfl)⟩
def XE:TQ dq BY (qlX 50):=
 ac (ag (aa (NS 50).1 ae)) Sv (qwJ 50 rfl)
def Dd:TQ dq lW qe4:=
 ac (ag ae) BA (qjj)
def Jb:TQ dq df qlW:=
 ac (ag (aa Jj ae)) F8 (X9 rfl)
def KO:TQ dq dF qlZ:=
 ac (ag ae) Ic (J1)
def Ds:TQ dq rD qe8:=
 ac (ag (aa yu (aa PH (aa XE (aa Dd (aa Je (aa KO (aa Jb ae)))))))) ME (Oo rfl rfl rfl rfl rfl rfl rfl)
def Ps:TQ dq wT (qaC false):=
 ac (ag (aa Ds ae)) MG (Ou rfl)
def G8:TQ dq pa (qaC true):=
 ac (ag (aa Ds ae)) Ea (Ff rfl)
def Pv:TQ dq xa qas:=
 ac (ag (aa Dt (aa Ps (aa G8 ae)))) MY (OL rfl rfl rfl)
def AB:TQ dq ct qfo:=
 ac (ag ae) Gk (HJ)
def KR:TQ dq eV PX:=
 ac (ag (aa AB ae)) Gj (HI rfl)
def ER:TQ dq bJ qai:=
 ac (ag (aa AB (aa KR ae))) Bw (CU rfl rfl)
def tu:TQ dq cG H4:=
 ac (ag (aa PH ae)) Bv (CT rfl)
def KS:TQ dq sQ Vk:=
 ac (ag (aa tu ae)) Iq (Ke rfl)
def ES:TQ dq mZ qfi:=
 ac (ag ae) C0 (DL)
def Pu:TQ dq wZ qfh:=
 ac (ag (aa KS (aa ES ae))) MX (OK rfl rfl)
def so:∀n,TQ dq cH (Vq n)
 | 0=>bU λx h=>qzb h.1
 |n+1=>dc (ag (aa (so n) ae)) BB (λ_=>qCh rfl) (A2 n rfl)
def tw:TQ dq cH Mj:=ei (λn=>so n) (gh (λx h=>h))
def Hd:TQ dq pn PY:=
 ac (ag ae) Ei (DN)
def yw:TQ dq bX RV:=
 ac (ag ae) wP (xJ)
def th:TQ dq eT (VB Attr (FG [(bX,RV)])):=
 ac (ag (aa yw ae)) rT (LL)
def dL:TQ dq bQ Cr:=
 ac (ag (aa th ae)) zr (AG (S0:=(FG [(bX,RV)])) rfl rfl)
def wm:TQ dq jV Mk:=
 ac (ag (aa dL ae)) En (Fm rfl)
def Hi:TQ dq pr Vw:=
 ac (ag ae) Ep (Fp)
def fF:TQ dq cO Mi:=
 ac (ag ae) zi (LK)
def mH:TQ dq aU YP:=
 ac (ag (aa fF ae)) lE (Ft rfl)
def He:TQ dq pp Vp:=
 ac (ag (aa wm (aa dL (aa ER ae)))) Ej (Fj rfl rfl rfl)
def Hh:TQ dq pq Vv:=
 ac (ag (aa Hd (aa He (aa Du (aa dL (aa Ys (aa tu (aa mH ae)))))))) Eo (Fo rfl rfl rfl rfl rfl rfl rfl)
def Aj:TQ dq cA qaz:=
 ac (ag (aa Hh ae)) yk (yD rfl)
def wk:∀n,TQ dq gY (Vm n)
 | 0=>bU λx h=>by obtain⟨a,lb,_,h,_⟩:=h;cases h
 |n+1=>dc (ag (aa Aj (aa (wk n) ae))) Gr (λ_=>qCh rfl) (Fi n rfl rfl)
def Jg:TQ dq gY Vl:=ei (λn=>wk n) (gh (λx h=>h))
def sq:TQ dq eC YR:=
 ac (ag (aa tw (aa Jg ae))) AR (A3 rfl rfl)
def Da:TQ dq lT qar:=
 ac (ag ae) Bo (Rr)
def Ah:TQ dq iE qav:=
 ac (ag (aa Da ae)) yg (Kg rfl)
def Cj:TQ dq ck F0:=
 ac (ag (aa Ah ae)) AQ (A1 rfl)
def vR:TQ dq dG (VB Region (FG [(ck,F0)])):=
 ac (ag (aa Cj ae)) kF (Jr)
def ti:TQ dq bM (VC Region (FG [(ck,F0)])):=
 ac (ag (aa vR ae)) il (Js rfl)
def ET:TQ dq na qfl:=
 ac (ag (aa ti ae)) C1 (DO (S0:=(FG [(ck,F0)])) rfl rfl)
def nq:∀n,TQ dq eP (F1 n)
 | 0=>bU λx h=>by obtain⟨_,y,h⟩:=h;cases h
 | n+1=>
   have a:TQ dq aL (YO n):=ac (ag (aa (nq n) ae)) BD (qcj n rfl);have b:TQ dq cI (qfg n):=ac (ag (aa a ae)) BC (qci n rfl);have c:TQ dq eM (VB Cond (FG [(aL,YO n),(cI,qfg n)])):=ac (ag (aa a (aa b ae))) mA (PA);have d:TQ dq bC (VC Cond (FG [(aL,YO n),(cI,qfg n)])):=ac (ag (aa c ae)) jP (PB rfl)
   ac (ag (aa a (aa d (aa wm (aa Hi (aa Pv (aa dL (aa Pu (aa fF (aa ET ae)))))))))) Em (qje (S0:=(FG [(aL,YO n),(cI,qfg n)])) n rfl rfl rfl rfl rfl rfl rfl rfl rfl rfl rfl)
def KU:TQ dq sS Aq:=
 ac (ag ae) Is (Kf)
def pY:TQ dq dD jM:=
 ac (ag (aa KU ae)) Es (Fs rfl)
def Hk:TQ dq pv yL:=
 ac (ag ae) Pf (Ro)
def Ce:TQ dq kI qfn:=
 ac (ag (aa pY ae)) AH (qmU rfl)
def KQ:TQ dq mO s_cmpM:=
 ac (ag (aa pY (aa Ce (aa Hk ae)))) Ik (qmT rfl rfl rfl)
def KT:TQ dq sR P0:=
 ac (ag ae) Ir (qck)
def Ji:TQ dq qO qaq:=
 ac (ag (aa (nq 21) ae)) Gt (qjc rfl)
def Ai:TQ dq dB qfd:=
 ac (ag ae) nB (qmP)
def qsJ:Tri dq Tryz.prog dB b_masg.pt:=UG rfl (xU (ag ae) nB (λ_=>qCh rfl) (qi7)) λy c hc=>by
 simp at hc;subst hc;exact Nl _
def Ha:TQ dq jT qnn:=
 ac (ag (aa Ai (aa Ji (aa fF ae)))) Ef (qmN rfl rfl rfl)
def qsH:Tri dq Tryz.prog jT b_mtok.pt:=Jw Ha λz=>by
 obtain⟨s,v⟩:=z;simp only[qr8];refine WK λd a=>?_
 simp only[qCm,qCN,or_false]at a;rcases a with rfl|rfl
 ·exact qgU λd a=>by
   simp only[qCm,qCN,or_false]at a;rcases a with rfl|rfl|rfl|rfl<;>exact Nl _
 ·exact Nl _
def Ci:TQ dq cj FU:=
 ac (ag ae) AO (qi8)
def EQ:TQ dq iI qno:=
 have h1:TQ dq dG (VB Region (FG [(cj,FU)])):=ac (ag (aa Ci ae)) kF (Jr);have h2:TQ dq bM (VC Region (FG [(cj,FU)])):=ac (ag (aa h1 ae)) il (Js rfl)
 ac (ag (aa h2 ae)) CY (qmQ (S0:=FG [(cj,FU)]) rfl rfl)
def qsK:Tri dq Tryz.prog iI b_manc.pt:=Jw EQ λ_=>Nl _
def Tz:TQ dq zO qao:=
 ac (ag ae) Pc (qi5)
def TA:Tri dq Tryz.prog wh clC.pt:=qct Tryz.cloneSet rfl (fT Tryz.func185 (by kernel_rfl) rfl)
def Jf:TQ dq qM qfc:=
 Yw (ag ae) Gl (λ_=>qCh rfl) (qmO)
def qfE:TQ dq dA (PR 0):=nO λd ds H K h=>by
 obtain⟨id,b',x,z,a,h1,h2,h3,h4,h5,h6,c⟩:=h;obtain⟨_,_,_,q,_,b,_⟩:=h6;rw[Lf]at b;omega
def qbH:∀n,TQ dq dA (PR n)
 | 0=>qfE
 | n+1=>
   have h1:TQ dq lA (YN n):=DW (ag (aa (qbH n) ae)) Gi (λ_=>qCh rfl) (qmS n rfl);have h2:TQ dq mY (qlY n):=DW (ag (aa Tz (aa h1 (aa (qbH n) (aa TA (aa Jf ae)))))) CX (λ_=>qCh rfl) (qqu n rfl rfl rfl rfl rfl)
   DW (ag (aa qsH (aa qsK (aa h1 (aa (qbH n) (aa h2 ae)))))) Eg (λ_=>qCh rfl) (qi3 n rfl rfl rfl rfl rfl)
def qoU:TQ dq nG (YK mO xT):=qcs Tryz.sortMatch rfl (λw=>Tryz.isAgg61 w) (λw=>Tryz.sizeOf61 w) rfl KQ (fT Tryz.func63 (by kernel_rfl) rfl) (fT Tryz.func62 (by kernel_rfl) rfl)
def qd6{p:Pat}(h:cM p<=0):False:=by rw[Lf]at h;omega
def Ao:TQ dq ct xY:=
 ac (ag ae) Im (Ka)
def Kk:TQ dq eV FX:=
 ac (ag (aa Ao ae)) Il (J9 rfl)
def io:TQ dq bJ um:=
 ac (ag (aa Ao (aa Kk ae))) CZ (DK rfl rfl)
def Rw:TQ dq zM qeW:=
 ac (ag ae) O5 (Rf)
def Ry:TQ dq lz RR:=
 ac (ag (aa Rw ae)) O8 (Rh rfl)
def OP:TQ dq fj FT:=
 ac (ag (aa io ae)) MM (OC rfl)
def LM:TQ dq eB Bd:=
 ac (ag ae) Ks (LD)
def qd9:Nat->Spc:=FG [(lz,RR),(fj,FT),(eB,Bd)]
def qBr(n:Nat):Nat->Spc:=FG [(gd,qe6 n)]
def qhG{S:Nat->Spc}(h:∀f,TQ dq f (S f)):TQ dq aM (RX S):=
 ac (ag (aa (ac (S:=S) h tL uf) ae)) qE (rM rfl)
def Ar:∀n,TQ dq je (PQ n)
 | 0=>bU λx h=>qd6 h.1
 | n+1=>
   have h1:TQ dq gd (qe6 n):=ac (ag (aa (Ar n) ae)) Ec (Fh n rfl)
   ac (ag (aa (qhG (S:=qBr n) (ag (aa h1 ae))) ae)) Ie (J4 (S0:=qBr n) n rfl rfl)
def Kj:TQ dq je Mc:=
 ei (λn=>Ar n) (gh (λx h=>⟨cM x.1,qCj _,h⟩))
def qz1(n:Nat):Nat->Spc:=FG [(jh,qfk qd9 n)]
def qz0(n:Nat):Nat->Spc:=FG [(aM,RX (qz1 n)),(lz,RR),(fj,FT),(eB,Bd)]
def qkl(n:Nat)(d:D)(f:Pat->Bool)(h:FunIs qd9 d f):FunIs (qz0 n) d f:=by
 obtain⟨g,c,k,a,b,e⟩:=h;refine⟨g,c,k,a,?_,e⟩;by_cases j:g=aM
 ·subst j;have:qd9 aM=Spc.none:=rfl;rw[this]at b;cases b
 ·rw[<-b];unfold qz0 qd9;rw[FG,if_neg j]
def Dn:∀n,TQ dq gw (qau qd9 n)
 | 0=>bU λx h=>by obtain⟨f,h1,h2⟩:=h;exact qd6 h2
 | n+1=>
   have h1:TQ dq jh (qfk qd9 n):=ac (ag (aa (Dn n) ae)) Ig (J7 (S0:=qd9) n rfl)
   ac (S:=qz0 n) (ag (aa (qhG (S:=qz1 n) (ag (aa h1 ae))) (aa Ry (aa OP (aa LM ae))))) MN (OD (S0:=qz1 n) (N:=qd9) n (qkl n) rfl rfl)
def wt:TQ dq gw (FY qd9):=
 ei (λn=>Dn n) (gh (λx h=>by obtain⟨f,h⟩:=h;exact⟨cM x.1,f,h,qCj _⟩))
def Dh:TQ dq rG RW:=
 ac (ag (aa Kj (aa wt ae))) MS (OI (N:=qd9) rfl rfl rfl)
def ws:TQ dq jk fQ:=
 ac (ag (aa Dh (aa wt ae))) ML (OA (N:=qd9) rfl rfl rfl rfl)
def F6:∀n,TQ dq iH (qe5 n)
 | 0=>bU λx h=>qd6 h.1
 |n+1=>dc (ag (aa (F6 n) ae)) O6 (λ_=>qCh rfl) (Rg n rfl)
def FA:TQ dq iH RQ:=
 ei (λn=>F6 n) (gh (λx h=>⟨cM x,qCj _,h⟩))
def Bn:∀n,TQ dq kN (Vo n)
 | 0=>bU λx h=>h
 |n+1=>dc (ag (aa (Bn n) ae)) Kt (λ_=>qCh rfl) (LG n rfl)
def LO:TQ dq kN PZ:=
 ei (λn=>Bn n) (gh (λx h=>h))
def Df:TQ dq rF RT:=
 ac (ag (aa LO ae)) MO (OE rfl)
def Bl:∀n,TQ dq fu (Qs n)
 | 0=>nO λd ds H K ⟨id,v,l,a,x,h1,h2,h3,h4,h5⟩=>qd6 h4.1
 |n+1=>yH (ag (aa (Bl n) (aa Df ae))) As (by decide) (LE n rfl rfl)
def xN:Tri dq Tryz.prog fu i_leavesQA.pt:=ei (λn=>Bl n) λd ds H K ⟨id,v,l,a,x,h1,h2,h3,h4,h5⟩=>⟨cM x,id,v,l,a,x,h1,h2,h3,⟨qCj _,h4⟩,h5⟩
def LN:Tri dq Tryz.prog fu s_leavesQ.pt:=LS (xU (ag (aa xN (aa Df ae))) As (λ_=>qCh rfl) (J5 rfl rfl)) xN
def qew:Tri dq Tryz.prog aU s_has2.pt:=
 have h:Tri dq Tryz.prog aU s_hasE.pt:=ac (ag (aa fF ae)) lE (DI rfl)
 LS h (LT h rfl λ_=>Nl _)
def Bm:∀n,TQ dq dy (Wr n)
 | 0=>nO λd ds H K ⟨id,v,l,a,x,h1,h2,h3,h4,h5⟩=>qd6 h4.1
 |n+1=>yH (ag (aa qew (aa (Bm n) ae))) At (by decide) (LF n rfl rfl)
def xO:Tri dq Tryz.prog dy i_labelsA.pt:=ei (λn=>Bm n) λd ds H K ⟨id,v,l,a,x,h1,h2,h3,h4,h5⟩=>⟨cM x,id,v,l,a,x,h1,h2,h3,⟨qCj _,h4⟩,h5⟩
def ug:Tri dq Tryz.prog dy s_qlabels.pt:=LS (xU (ag (aa qew (aa xO ae))) At (λ_=>qCh rfl) (J6 rfl rfl)) xO
def LP:TQ dq uW Be:=
 ac (ag (aa ws (aa ug ae))) Ku (LI rfl rfl)
def RA:TQ dq zP qap:=
 ac (ag (aa KT (aa LP (aa (qbH 101) (aa qsJ (aa qoU ae)))))) Pd (qi6 rfl rfl rfl rfl rfl)
end
section
open Go.Proofs
def vC:CC:=gq Tryz.f49 [2006006] { cu:=[1] } _
def uD:List ak:=[.cell 6 true 7]
def MU:FO wX [2006006] vC uD 28:=fo
def tc:CC:=gq Tryz.f104 [2006006,2006006,2083008,2082008] { cu:=[2,4,6,18,21,24] } _
def sE:List ak:=[.cell 6 true 7]
def Kw:FO kP [2006006,2006006,2083008,2082008] tc sE 110:=fo
def pQ:CC:=gq Tryz.f16 [2006006] { cu:=[2,4,7] } _
def ol:List ak:=[.cell 6 true 13]
open Cod (enc dec)
variable {S S0:Nat->Spc}
abbrev xV:Spc:=aJ (a1 Int) bW (enc (X:=B)) (λ_ y=>y∈Types)
def qcf(h1:S wi=s_m_Mod):aq yr ya S (a1 Int) bW (enc (X:=B)) (λ_ y=>y∈Types):=by
 rintro n -;simp[yr,ya,h1];have h3:=M1 n 3 (by omega);refine⟨h3.1,h3.2,?_⟩;have:Iy n 3=0\/Iy n 3=1\/Iy n 3=2:=by omega
 rcases this with h|h|h<;>simp[h,Types,qwe,qlu,qwd]
def QV(n:Nat)(x:List Int×Int×List B):Prop:=x.2.1.toNat<n/\ -10<=x.2.1/\x.2.1<=100/\x.2.2.length<=1000
def fZ{q:Cond->Prop}{H:ab}{op:Int}{n a v l:B}{f:Bool}{d:D}(ks:List Cond)(c:FrzTo H d (enc ks))(b:q ⟨op,n,a,v,l,f,ks⟩):Fin enc q (.agg [.v (.int .i64 op), .v (.string n), .v (.string a), .v (.string v), .v (.string l), .v (.bool f),d]) H:=by
 refine bF (⟨op,n,a,v,l,f,ks⟩:Cond) ?_ b;rw[qhb];refine .agg rfl λk x y h j=>?_
 rcases k with _|_|_|_|_|_|_|k;simp_all;simp_all;simp_all;simp_all;simp_all;simp_all;simp_all;simp_all
def qqJ(a b c d e f g h:B):D.list 1 [.v (.string a), .v (.string b), .v (.string c), .v (.string d), .v (.string e), .v (.string f), .v (.string g), .v (.string h)]= .list 1 (UT [a,b,c,d,e,f,g,h]):=i' rfl
def qlR(a b c d:B):D.list 1 [.v (.string a), .v (.string b), .v (.string c), .v (.string d)]= .list 1 (UT [a,b,c,d]):=i' rfl
theorem CB{q:Pat->Prop}{H:ab}{op o:Int}{n a v l lb rg:B}{f:Bool}{c d:D}{mn mx:Int}(b:List Cond)(ks:List Pat)(hc:FrzTo H c (enc b))(j:FrzTo H d (enc ks))(h:q ⟨op,⟨o,n,a,v,l,f,b⟩,lb,rg,mn,mx,ks⟩):
 Fin enc q (.agg [.v (.int .i64 op), .v (.int .i64 o), .v (.string n), .v (.string a), .v (.string v), .v (.string l), .v (.bool f),c, .v (.string lb), .v (.string rg), .v (.int .i64 mn), .v (.int .i64 mx),d]) H:=by
 refine bF (⟨op,⟨o,n,a,v,l,f,b⟩,lb,rg,mn,mx,ks⟩:Pat) ?_ h;rw[qbn];refine .agg rfl λk x y p r=>?_
 rcases k with _|_|_|_|_|_|_|_|_|_|_|_|_|k;simp_all;simp_all;simp_all;simp_all;simp_all;simp_all;simp_all;simp_all;simp_all;simp_all;simp_all;simp_all;simp_all;simp_all
def qbX(n:Nat)(x:List Int×Int×List B):Prop:=x.2.1.toNat<n/\ -10<=x.2.1/\x.2.1<=100/\x.2.2.length<=1000
def qsT(x:List Int×Int×List B)(p:Pat):Prop:=WP x.2.2 x.2.1.toNat p/\PD x.2.1.toNat p
def ZO(x:List Int×Int×List B)(y:Cond):Prop:=GI x.2.2 x.2.1.toNat y
abbrev Mf(n:Nat):Spc:=aJ (aT (a2 Int (List B))) (QV n) (enc (X:=Cond)) ZO
def qB5{i:Nat}{a:B}(h:[(⟨#[119,111,114,100]⟩:B),⟨#[119,111,114,100]⟩,⟨#[116,97,103]⟩][i]? =some a):a∈Attr2:=by
 grind [Attr2,LW,qeF]
def qlv{i:Nat}{a:B}(h:[(⟨#[119,111,114,100]⟩:B),⟨#[116,97,103]⟩][i]? =some a):a∈Attr2:=aY h
def qzH{i:Nat}{a:B}(h:[(⟨#[112]⟩:B),⟨#[113]⟩][i]? =some a):a∈FeatL:=aY h
def qzG{i:Nat}{a:B}(h:[(⟨#[49]⟩:B),⟨#[50]⟩][i]? =some a):a∈NumL:=aY h
def qBk{i:Nat}{a:B}(h:[(⟨#[97]⟩:B),⟨#[98]⟩,⟨#[97,46,42]⟩,⟨#[91,97,98,93]⟩][i]? =some a):a∈ValsT:=aY h
def qB4{i:Nat}{a:B}(h:[(⟨#[97]⟩:B),⟨#[98]⟩,⟨#[97,46,42]⟩,⟨#[91,97,98,93]⟩,⟨#[88]⟩,⟨#[]⟩,⟨#[99,63]⟩,⟨#[97,124,98]⟩][i]? =some a):a∈ValsI:=by
 have:=aY h;simp only[ValsI,qCm,qCN,or_false]at this ⊢;grind
theorem Yg(n:Nat)(h1:S cv=s_m_Next)(h2:S sf=xV)(h3:S kP=Mf n):aq tc sE S (aT (a2 Int (List B))) (QV (n+1)) (enc (X:=Cond)) ZO:=by
 rintro⟨L,deep,lb⟩ ⟨hn,E,F,q⟩;simp only at hn E F q;simp[tc,sE,h1];intro b6 k0 W Y;refine bc (X:=Int) [0,1,2,6] [6] (λk=>0<=k/\k< 12/\(deep< 1->k< 8)) (λk=>[(7,enc k)]) (λ_=>[]) ?_ ?_
 ·simp;grind
 rintro k ⟨q0,q1,q2⟩;refine bc (X:=Unit) [0,1,2,6,7] [6] (λ_=>10<=k) (λ_=>[]) (λ_=>[]) ?_ ?_
 ·simp;refine bc (X:=Bool) [0,1,2,6,7,15] [6] (λb=>b=decide (k< 4)) (λb=>[(16,enc b)]) (λ_=>[]) ?_ ?_;simp;omega;rintro b hb;simp[h1,PK,US,qqJ,qlR,mu,rq,-fB'];refine⟨λ_ y c d=>⟨c,d,λa r y c d=>⟨c,d,λI s y c d=>fZ [] (.nil _) (.atom _ _ (.val a I _ (qB5 r) (qB4 s)))⟩⟩,λp=>?_⟩;rw[p]at hb;have hb:4<=k:=by simpa using hb.symm
  refine⟨λ_ y c d=>⟨c,d,λa r=>fZ [] (.nil _) (.atom _ _ (.feat a (qzH r)))⟩,λk4=>⟨λ_ _=>⟨λhl y c d=>⟨c,d,λa r _=>⟨by omega,λy C=>⟨by omega,by omega,λI s y c d=>⟨c,d,λJ A=>fZ [] (.nil _) (.atom _ _ (.same a I J (qlv r) (aY s) (qlv A)))⟩⟩⟩⟩,λ_=>fZ [] (.nil _) (.atom _ _ (.val qeF _ false (by simp[Attr2]) (by simp[ValsI])))⟩,λk5=>?_⟩⟩;refine bc (X:=Bool) [0,1,2,6,7,15] [6] (λb=>b=decide (k=6\/k=7)) (λb=>[(67,enc b)]) (λ_=>[]) ?_ ?_
  ·simp
   repeat' first|apply And.intro|intro _
   all_goals first|omega|(rw[qCS];simp;omega)
  rintro b u;simp[h1,h2,-fB'];refine⟨λ_ y c d=>⟨trivial,λt U Z=>?_⟩,λp=>?_⟩
  ·refine bc (X:=B×B) [6,8] [6] (λx=>(x.1=E0/\x.2=E0)\/(x.1=qtx/\x.2∈NumL)) (λ_=>[]) (λx=>[(8, .box Z [.v (.int .i64 5), .v (.string t), .v (.string x.1), .v (.string x.2), .v (.string ⟨#[]⟩), .v (.bool false), .v (.slice none 0 0)])]) ?_ ?_
   ·simp[h1,PK,mu,rq];refineλy c d=>⟨λ_ z K M=>⟨K,M,λa r=>⟨qtx,a, .inr ⟨rfl,qzG r⟩, .inl ⟨rfl,rfl⟩⟩⟩,λ_=>⟨E0,E0, .inl ⟨rfl,rfl⟩, .inl ⟨rfl,rfl⟩⟩⟩
   ·rintro⟨a,v⟩ N;simp;refine fZ [] (.nil _) (.atom _ _ ?_);rcases N with⟨rfl,rfl⟩|⟨rfl,hv⟩
    ·exact .reg t U
    ·exact .regk t v U hv
  rw[p]at u;have u:¬(k=6\/k=7):=by simpa using u.symm
  refine bc (X:=Bool) [0,1,2,6,7,15] [6] (λb=>b=decide (k=8\/k=9)) (λb=>[(85,enc b)]) (λ_=>[]) ?_ ?_
  ·simp
   repeat' first|apply And.intro|intro _
   all_goals first|omega|(rw[qCS];simp;omega)
  rintro b l;simp[h3,-fB'];have j:1<=deep->QV n (L,deep -1,lb):=λh=>⟨by show(deep -1).toNat<n;omega,by show -10<=deep -1;omega,by show deep -1<=100;omega,q⟩
  refine⟨λO=>?_,λp=>?_⟩
  ·rw[O]at l;have l:k=8\/k=9:=by simpa using l.symm
   have w:deep.toNat=(deep -1).toNat+1:=by omega
   refine⟨by simp only[InR];omega,j (by omega),λy C=>fZ [y] (by simp) (by show GI lb deep.toNat _;rw[w];exact .not _ _ C)⟩
  rw[p]at l;have l:¬(k=8\/k=9):=by simpa using l.symm
  omega
 ·rintro -hk;have j:QV n (L,deep -1,lb):=⟨by show(deep -1).toNat<n;omega,by show -10<=deep -1;omega,by show deep -1<=100;omega,q⟩
  have w:deep.toNat=(deep -1).toNat+1:=by omega
  simp[h3];refine⟨by simp only[InR];omega,by simp only[InR];omega,by simp only[InR];omega,j,λy C=>⟨by simp only[InR];omega,j,λy' Q=>fZ [y,y'] (by simp) (by show GI lb deep.toNat _;rw[w];exact .two _ _ _ _ (by omega) C Q)⟩⟩
def qmu(x:List Int×Int×List B)(y:Cond):Prop:=GC x.2.2 x.2.1.toNat y
abbrev PV:Spc:=aJ (aT (a2 Int (List B))) (λx=> -10<=x.2.1/\x.2.1<=100/\x.2.2.length<=1000) (enc (X:=Cond)) qmu
abbrev JC:Spc:=aJ (aT (a2 Int (List B))) (λx=>∃n,QV n x) (enc (X:=Cond)) ZO
theorem qcg(h1:S cv=s_m_Next)(h3:S kP=JC):aq vC uD S (aT (a2 Int (List B))) (λx=> -10<=x.2.1/\x.2.1<=100/\x.2.2.length<=1000) (enc (X:=Cond)) qmu:=by
 rintro⟨L,deep,lb⟩ ⟨b,c,d⟩;simp only at b c d;simp[vC,uD,h1];intro q;refine bc (X:=Unit) [0,1,2,6] [6] (λ_=>True) (λ_=>[]) (λ_=>[]) ?_ ?_
 ·simp[h1,qlR,mu,rq,-fB'];exactλy _ _=>⟨λ_=>fZ [] (.nil _) .any,λ_=>⟨λ_ z j k=>⟨j,k,λa l u _ _=>fZ [] (.nil _) (.top a _ (qBk l))⟩,λ_ _ z j k=>⟨j,k,λa l u _ _=>fZ [] (.nil _) (.top a _ (qBk l))⟩⟩⟩
 ·rintro - -;have h:∃n,QV n (L,deep,lb):=⟨deep.toNat+1,Nat.lt_succ_self _,b,c,d⟩
  simp[h3,h];exactλy p=>fZ y.kids (.same _) (by show GC lb deep.toNat _;rw[G3 y];exact .inner _ p)
def qn2{p:Pat}{C:Pat->Prop}(h1:¬p.op=1)(h2:p.kids=[]):∀y∈am p,C y:=by
 simp_all [aQ]
def qn0{p:Pat}{C:Pat->Prop}(h1:p.op=1)(h:C p):∀y∈am p,C y:=by
 simp_all [aQ]
def qn1{p a:Pat}{C:Pat->Prop}(h1:¬p.op=1)(h2:p.kids=[a])(b:∀y∈am a,C y):∀y∈am p,C y:=by
 simp_all [aQ]
def qgf{p a b:Pat}{C:Pat->Prop}(h1:¬p.op=1)(h2:p.kids=[a,b])(c:∀y∈am a,C y)(hb:∀y∈am b,C y):∀y∈am p,C y:=by
 rw[aQ,if_neg h1,h2];grind
def N9(x:List Int×Int×List B)(p:Pat):Prop:=qsT x p/\∀y∈am p,GC x.2.2 1 y.cond
abbrev FW(n:Nat):Spc:=aJ (aT (a2 Int (List B))) (qbX n) (enc (X:=Pat)) N9
theorem Rl(n:Nat)(h1:S cv=s_m_Next)(h2:S sf=xV)(h3:S wX=PV)(h4:S gW=FW n):aq pQ ol S (aT (a2 Int (List B))) (qbX (n+1)) (enc (X:=Pat)) N9:=by
 rintro⟨L,deep,lb⟩ ⟨hn,u,w,q⟩;simp only at hn u w q;simp[pQ,ol,h1];intro U W J K;refine bc (X:=Int) [0,1,2,6] [6] (λk=>0<=k/\k< 14/\(deep< 1->k< 7)) (λk=>[(7,enc k)]) (λ_=>[]) ?_ ?_
 ·simp;grind
 rintro k ⟨Y,Z,q2⟩;refine bc (X:=Unit) [0,1,2,6] [6] (λ_=>12<=k) (λ_=>[]) (λ_=>[]) ?_ ?_
 ·have b:1<=deep->qbX n (L,deep -1,lb):=λh=>⟨by grind,by grind,by grind,q⟩
  have j:1<=deep->deep.toNat=(deep -1).toNat+1:=λh=>by omega
  simp[h1,h2,h3,h4,-fB'];refine⟨λhk=>⟨q,λc hc M=>?_⟩,λhk=>⟨λA=>⟨by grind [InR],by grind [InR],λy _ _=>⟨trivial,λt N=>CB [] [] (.nil _) (.nil _) ⟨⟨qwx (.inr ⟨by grind,rfl,rfl,N,rfl,rfl,rfl⟩),qfM qbA rfl⟩,qn2 (by grind) rfl⟩⟩⟩,λA=>⟨λr=>⟨by grind [InR],b (by omega),λy p=>⟨by grind [InR],b (by omega),λs l=>?_⟩⟩,λr F=>⟨by grind [InR],b (by omega),λy p=>⟨by grind [InR],b (by omega),λs l=>?_⟩⟩⟩⟩⟩
  ·refine bc (X:=B) [6,8] [6] (λx=>x=⟨#[]⟩\/x∈lb) (λ_=>[]) (λx=>[(8, .box M [.v (.int .i64 1), .v (.int .i64 c.op), .v (.string c.name), .v (.string c.arg), .v (.string c.val), .v (.string c.lab), .v (.bool c.fold),enc c.kids, .v (.string x), .v (.string ⟨#[]⟩), .v (.int .i64 0), .v (.int .i64 0), .v (.slice none 0 0)])]) ?_ ?_
   ·simp[h1];exactλ_ h0 y _ _ _ _=>⟨by omega,λz hz=>⟨by omega,by omega,λa O=> .inr ⟨a,aY O, .inl rfl⟩⟩⟩
   ·rintro x Q;simp;exact CB c.kids [] (.same _) (.nil _) ⟨⟨qwx (.inl ⟨rfl,Q,rfl,rfl,rfl,rfl⟩),qfM ⟨_,qlb (d:=c) rfl (qrQ hc)⟩ rfl⟩,qn0 rfl (by show GC lb 1 _;rw[G3 c];exact hc)⟩
  ·refine CB [] [y,s] (.nil _) (by simp) ?_;refine⟨⟨?_,qfL (j (by omega)) qbA rfl p.1.2 l.1.2⟩,qgf (by show ¬(4:Int)=1;decide) rfl p.2 l.2⟩;show WP lb deep.toNat _;rw[j (by omega)];exact .inr (.inl ⟨.inl rfl,rfl,rfl,rfl,rfl,rfl,y,s,rfl,p.1.1,l.1.1⟩)
  ·refine CB [] [y,s] (.nil _) (by simp) ?_;refine⟨⟨?_,qfL (j (by omega)) qbA rfl p.1.2 l.1.2⟩,qgf (by show ¬(5:Int)=1;decide) rfl p.2 l.2⟩;show WP lb deep.toNat _;rw[j (by omega)];exact .inr (.inl ⟨.inr rfl,rfl,rfl,rfl,rfl,rfl,y,s,rfl,p.1.1,l.1.1⟩)
 ·rintro -hk;have b:qbX n (L,deep -1,lb):=⟨by show(deep -1).toNat<n;omega,by show -10<=deep -1;omega,by show deep -1<=100;omega,q⟩
  have j:deep.toNat=(deep -1).toNat+1:=by omega
  have vM:∀(mn mx:Int) (y:Pat) (H:ab),(mn,mx) ∈XT->N9 (L,deep -1,lb) y->Fin enc (N9 (L,deep,lb)) (.agg [.v (.int .i64 6), .v (.int .i64 0), .v (.string ⟨#[]⟩), .v (.string ⟨#[]⟩), .v (.string ⟨#[]⟩), .v (.string ⟨#[]⟩), .v (.bool false), .v (.slice none 0 0), .v (.string ⟨#[]⟩), .v (.string ⟨#[]⟩), .v (.int .i64 mn), .v (.int .i64 mx), .list 13 [enc y]]) H:=by
   intro mn mx y H hm p;refine CB [] [y] (.nil _) (by simp) ?_;refine⟨⟨?_,qnG j qbA rfl p.1.2⟩,qn1 (by show ¬(6:Int)=1;decide) rfl p.2⟩;show WP lb deep.toNat _;rw[j];exact .inr (.inr ⟨rfl,rfl,rfl,rfl,hm,y,rfl,p.1.1⟩)
  simp only[qbn]at vM;simp[h1,h4];intro y C E;refine⟨C,E,λd I=>?_⟩;have:y=0\/y=1\/y=2\/y=3\/y=4\/y=5\/y=6:=by omega
  rcases this with rfl|rfl|rfl|rfl|rfl|rfl|rfl
  all_goals (simp at I;subst I;simp[h4])
  all_goals exact⟨by simp only[InR];omega,b,λy p=>vM _ _ y _ (by simp[XT]) p⟩
end
section
open Go.Proofs
def Nu{f:Pat->Bool}(p:Pat)(h:cm f p=true):qb (λq=>f q=true) p:=by
 induction p using eb with|_ p a=>?_
 rw[cP,qCi,qCl]at h;exact qj8 h.1 λk hk=>a k hk (h.2 k hk)
def qc2(p:Pat):qb vK p->∀q∈sJ p,q.op=1->q∈am p:=by
 induction p using eb with|_ p b=>?_
 intro a q hq h1;have hp:=nA a;rw[aQ];cases p with
 | mk op cond lab reg mn mx ks=>
   rw[sJ]at hq;rcases qCm.1 hq with rfl|hq
   ·rw[if_pos h1];simp
   ·obtain⟨k,hk,hq⟩:=vW hq;split
    ·rename_i e;rcases hp with h|h|h|h
     ·have:=h.2.2.2.2;simp only at this;rw[this]at hk;cases hk
     ·have:=h.1;simp only at this e;omega
     ·have:=h.1;simp only at this e;omega
     ·have:=h.1;simp only at this e;omega
    ·exact qDq.2 ⟨k,hk,b k hk (uJ a hk) q hq h1⟩
def qju:Prop:=aK qwe=true/\aK qlu=true/\aK qwd=true/\aK qoZ=true/\aK qp9=true
def xL{b:B}(h:(decide (1<=b.size) && decide (b.size<=32) && (b.data.toList.all λc=>KV c.toNat))=true):aK b=true:=by
 simp only[qCi,decide_eq_true_eq,qCl]at h;have hm:∀(k:Nat) (c:UInt8),b.data[k]? =some c->KV c.toNat=true:=λk c hc=>h.2 c (by rw[<-qCA]at hc;exact qCg hc)
 rw[DS];exact⟨h.1.1,h.1.2,hm 0,λk c hc=>by unfold Po;rw[hm k c hc];rfl⟩
def qep:qju:=⟨xL (by decide),xL (by decide),xL (by decide),xL (by decide),xL (by decide)⟩
def Sz{lb:List B} :∀{n:Nat} {c:Cond},GI lb n c->KB (n+1) c
 |n,_, .atom _ c h=>⟨by rw[wa h];decide,λk hk=>by rw[wa h]at hk;cases hk⟩
 | _,_, .not n k h=>⟨qCh rfl,λz hz=>by rw[qDH]at hz;subst hz;exact Sz h⟩
 | _,_, .two n op a b _ h1 h2=>⟨qCh rfl,λz hz=>by
    simp only[qCm,qCN,or_false]at hz;rcases hz with rfl|rfl
    ·exact Sz h1
    ·exact Sz h2⟩
def qnV{lb:List B}{n:Nat}{c:Cond}(h:GC lb n c):∃m,KB m c:=by
 cases h with
 |any=>exact⟨1,by decide,λk hk=>by cases hk⟩
 |top v f h=>exact⟨1,qCh rfl,λk hk=>by cases hk⟩
 |inner c h=>exact⟨_,Sz h⟩
structure qb3 (c:Corpus):Prop where
 ok:OkCorp c
 few:c.toks.length<=60


open Cod (enc dec)
variable {S S0:Nat->Spc}
end
section
open Go.Proofs
def Gm:FO gW [2006006] pQ ol 103:=fo
open Go.Proofs Cod
variable {dq:Prop}
def Hb:TQ dq sf xV:=
 ac (ag (aa RK ae)) Qa (qcf rfl)
def AC:∀n,TQ dq kP (Mf n)
 | 0=>bU λx h=>by have:=h.1;omega
 |n+1=>dc (ag (aa du (aa Hb (aa (AC n) ae)))) Kw (λ_=>qCh rfl) (Yg n rfl rfl rfl)
def NU:TQ dq kP JC:=ei (λn=>AC n) (gh (λx h=>h))
def Pt:TQ dq wX PV:=
 ac (ag (aa du (aa NU ae))) MU (qcg rfl rfl)
def yv:∀n,TQ dq gW (FW n)
 | 0=>bU λx h=>by have:=h.1;omega
 |n+1=>dc (ag (aa du (aa Hb (aa Pt (aa (yv n) ae))))) Gm (λ_=>qCh rfl) (Rl n rfl rfl rfl rfl)
end
section
open Go.Proofs
def WB(w:Int×Int)(d:Int):Prop:=0<=d/\w.1<=d/\(w.2= -1\/d<=w.2\/10000<d)
def qmM{a b:Int×Int}{d e:Int}(c:WB a d)(hb:WB b e):WB (Lv true a b) (d+e):=by
 unfold WB Lv at*;rw[if_pos rfl];refine⟨by omega,by simp only;omega,?_⟩;simp only;split<;>omega
def qi2{a b:Int×Int}{d:Int}(c:WB a d):WB (Lv false a b) d:=by
 unfold WB Lv at*;rw[if_neg (by decide)];refine⟨by omega,by simp only;omega,?_⟩;simp only;split<;>omega
def qi1{a b:Int×Int}{d:Int}(c:WB b d):WB (Lv false a b) d:=by
 unfold WB Lv at*;rw[if_neg (by decide)];refine⟨by omega,by simp only;omega,?_⟩;simp only;split<;>omega
def Q1{d:Int} :∀(ks:List Pat) (w:Int×Int),WB w d->WB (jZ false ks w) d
 | [],w,h=>by rw[jZ];exact h
 |k::ks,w,h=>by rw[jZ];exact Q1 ks _ (qi2 h)
def WD(r:Rn)(p:Pat):Prop:=∀s t,nM r p s t->WB (bG p) (t.p -s.p)
def Z3{r:Rn} :∀(ks:List Pat) (w:Int×Int) (d:Int) (s t:St3),(∀k∈ks,WD r k)->WB w d->xE r ks s t->WB (jZ true ks w) (d+ (t.p -s.p))
 | [],w,d,s,t,_,h,c=>by
   rw[vh]at c;rw[jZ,c,Int.sub_self,Int.add_zero];exact h
 | k::ks,w,d,s,t,hk,h,c=>by
   rw[nH]at c;obtain⟨u,a,b⟩:=c;rw[jZ];have:=Z3 ks _ _ u t (λk h=>hk k (by simp[h])) (qmM h (hk k (by simp) s u a)) b;rw[show d+ (t.p -s.p)=d+ (u.p -s.p) + (t.p -u.p)by omega];exact this
def Z4{r:Rn} :∀(ks:List Pat) (w:Int×Int) (s t:St3),(∀k∈ks,WD r k)->An r ks s t->WB (jZ false ks w) (t.p -s.p)
 | [],w,s,t,_,a=>by rw[G4]at a;exact a.elim
 | k::ks,w,s,t,hk,a=>by
   rw[ue]at a;rw[jZ];rcases a with h|h
   ·exact Q1 ks _ (qi1 (hk k (by simp) s t h))
   ·exact Z4 ks _ s t (λk h=>hk k (by simp[h])) h
def Hy{R:St3->St3->Prop}{w:Int×Int}(h:∀s t,R s t->WB w (t.p -s.p)):∀(n:Nat) (s t:St3),Pow R n s t->0<=t.p -s.p/\w.1*n<=t.p -s.p/\(w.2= -1\/t.p -s.p<=w.2*n\/10000<t.p -s.p)
 | 0,s,t,hp=>by
   have hp:s=t:=hp;subst hp;simp
 | n+1,s,t,⟨u,a,b⟩=>by
   have h1:=h s u a;have h2:=Hy h n u t b;unfold WB at h1;rw[show((n+1:Nat):Int)=(n:Int) +1 by omega,Int.mul_add,Int.mul_add];omega
theorem Tq{r:Rn}{v:B->Bool}(p:Pat):fJ v p=true->WD r p:=by
 induction p using eb with|_ p l=>?_
 intro h s t d;obtain⟨h1,_,hn⟩:=eJ h;unfold nL at hn;rw[decide_eq_true_eq]at hn;rcases qF h1 with⟨ho,_⟩|⟨ho,_⟩|⟨ho,k,ks,hk⟩|⟨ho,k,hk⟩
 ·rw[Z0 ho];have hp:=((qbu ho s t).1 d).2.2;have:t.p=s.p+1:=by
   rw[hp];unfold Iu;dsimp only;split
   ·rfl
   ·generalize (ij r.lb λz=>decide (z=p.lab)).toNat=i;rcases i with _|_|i<;>rfl
  unfold WB;simp only;omega
 ·rw[qeg ho,((ND ho s t).1 d).2];unfold WB;simp only;omega
 ·rw[qef ho hk];have c:∀x∈p.kids,WD r x:=λx j=>l x j (eW h j)
  rcases ho with ho|ho
  ·rw[qho ho,hk,nH]at d;obtain⟨u,a,b⟩:=d;rw[show decide (p.op=4)=true from decide_eq_true ho,show t.p -s.p=(u.p -s.p) + (t.p -u.p)by omega];exact Z3 ks _ _ u t (λx j=>c x (by rw[hk];simp[j])) (c k (by rw[hk];simp) s u a) b
  ·rw[qml ho,hk,ue]at d;rw[show decide (p.op=4)=false from decide_eq_false (by omega)];rcases d with a|a
   ·exact Q1 ks _ (c k (by rw[hk];simp) s t a)
   ·exact Z4 ks _ s t (λx j=>c x (by rw[hk];simp[j])) a
 ·rw[qee ho hk];have y:=l k (by rw[hk];simp) (eW h (by rw[hk];simp));have hn:=hn ho;rw[qbt ho hk]at d;obtain⟨u,a,n,hm,b⟩:=d;have ok:=vS k (eW h (by rw[hk];simp));have a1:=Hy y _ s u a;have b1:=Hy (λs t q=>y s t q.1) n u t b;rw[Int.toNat_of_nonneg hn.1]at a1;unfold gG at ok;generalize bG k=w at*;have A:0<=w.1*n:=qDB ok.1 (by omega);refine⟨by omega,by simp only;omega,?_⟩;simp only;split
  ·rename_i h0;rcases h0 with h0|h0
   ·have h2:p.mn=0:=by omega
    have h3:n=0:=by omega
    subst h3;rw[h2]at a;have a:s=u:=a;have b:u=t:=b;subst a;subst b;omega
   ·rw[h0,Int.zero_mul]at a1 b1;omega
  ·split
   ·exact .inl rfl
   ·rename_i h0 h2;have h3:p.mn+n<=p.mx:=by omega
    have h4:w.2* (p.mn+n)<=w.2*p.mx:=Int.mul_le_mul_of_nonneg_left h3 (by omega);rw[Int.mul_add]at h4;omega


open Cod (enc dec)
variable {S S0:Nat->Spc}
end
section
open Go.Proofs Cod
variable {dq:Prop}
def Dm:∀n,TQ dq mD (qah n)
 | 0=>bU λx h=>qd6 h.1
 |n+1=>dc (ag (aa (Dm n) ae)) MK (λ_=>qCh rfl) (Oz n rfl)
def OO:TQ dq mD Vb:=
 ei (λn=>Dm n) (gh (λx h=>⟨cM x,qCj _,h⟩))
def Dg:TQ dq gy Ld:=
 ac (ag (aa ws (aa OO ae))) MQ (OH rfl rfl)
end
section
variable {S S0:Nat->Spc}
mutual
def oU:Glob->Nat| .mk _ _ _ _ _ _ _ _ _ _ ks=>nF ks+1
def nF:List Glob->Nat|[]=>0|k::ks=>max (oU k) (nF ks)
end
def ID:∀{ks:List Glob} {k:Glob},k∈ks->oU k<=nF ks
 | x::ks,k,h=>by
   rw[nF];rcases qCm.1 h with rfl|h
   ·omega
   ·have:=ID h;omega
def WH{p k:Glob}(h:k∈p.kids):oU k<oU p:=by
 have:=ID h;cases p;rw[oU];simp only at this;omega
mutual
def Gz:Glob->Nat| .mk _ _ _ _ _ _ _ _ _ _ ks=>nC ks+1
def nC:List Glob->Nat|[]=>0|k::ks=>Gz k+nC ks
end
def qaW(x:Glob):Gz x=nC x.kids+1:=by cases x;rw[Gz]
def Ln(x:Glob):oU x=nF x.kids+1:=by cases x;rw[oU]
def Iv:∀(a b:List Glob),nC (a++b)=nC a+nC b
 | [],b=>by rw[qC5,nC];omega
 |k::a,b=>by rw[qC8,nC,nC,Iv a b];omega
def Qx:∀(a b:List Glob),nF (a++b)=max (nF a) (nF b)
 | [],b=>by rw[qC5,nF];omega
 |k::a,b=>by rw[qC8,nF,nF,Qx a b];omega
def qc0{ks:List Glob}{k:Nat}{x:Glob}(h:ks[k]? =some x):nC (ks.take (k+1))=nC (ks.take k) +Gz x/\nF (ks.take (k+1))=max (nF (ks.take k)) (oU x)/\nC (ks.take (k+1))<=nC ks:=by
 have e:=aB h;refine⟨by rw[e,Iv,nC,nC];omega,by rw[e,Qx,nF,nF];omega,?_⟩
 conv=>rhs;rw[<-qCM (k+1) ks,Iv]
 omega
def qod{lb:List B}{n:Nat}{g:Glob}(h:GG lb n g):Gz g< 2^ (n+1)/\oU g<=n+1:=by
 induction h with
 |not n k h j=>rw[Gz,oU,Nat.pow_succ];simp only[nC,nF];omega
 |two n op a b ho h1 h2 c d=>rw[Gz,oU,Nat.pow_succ];simp only[nC,nF];omega
 |bound n|val n|same n|dist n|reg n|head n|path n|node n|depth n=>have:=Nat.one_le_two_pow (n:=n);rw[Gz,oU,Nat.pow_succ];simp only[nC,nF];omega
def qgI{lb:List B}{n:Nat}{g k:Glob}(h:GG lb n g)(hk:k∈g.kids):∃m,m<=n/\GG lb m k:=by
 cases h with
 | not n c h=>
   simp at hk;subst hk;exact⟨n,by omega,h⟩
 | two n op a b ho h1 h2=>
   simp at hk;rcases hk with rfl|rfl
   ·exact⟨n,by omega,h1⟩
   ·exact⟨n,by omega,h2⟩
 | _=>cases hk
end
section
open Go.Proofs
def qV:CC:=gq Tryz.f115 [3] {} _
def qk:List ak:=[.tmp 6, .tmp 7]
def If:FO jg [3] qV qk 40:=fo
def bO:CC:=gq Tryz.f117 [1,2029005,2028005,2027005,2026005,2037005,2036005,2045005,2044005,2068005,2067005,2066005] {} _
def bN:List ak:=[.tmp 2]
def Pa:FO ee [1,2029005,2028005,2027005,2026005,2037005,2036005,2045005,2044005,2068005,2067005,2066005] bO bN 155:=fo
def vy:CC:=gq Tryz.f116 [3,2] {} _
def uA:List ak:=[.tmp 4]
def MP:FO mE [3,2] vy uA 15:=fo
def qX:CC:=gq Tryz.f179 [2] {} _
def qn:List ak:=[.tmp 3]
def Ih:FO fS [2] qX qn 8:=fo
def dr:CC:=gq Tryz.f178 [] {} _
def dm:List ak:=[.tmp 4]
def nK:FO dx [] dr dm 9:=fo
def dW:CC:=gq Tryz.f227 [] {} _
def dP:List ak:=[.tmp 4]
def qD:FO eA [] dW dP 19:=fo
def kV:CC:=gq Tryz.f181 [] {} _
def kq:List ak:=[.tmp 2]
def Bu:FO eY [] kV kq 10:=fo
def eE:CC:=gq Tryz.f180 [] {} _
def ek:List ak:=[.tmp 4]
def rU:FO eU [] eE ek 9:=fo
def fA:CC:=gq Tryz.f228 [] {} _
def fk:List ak:=[.tmp 4]
def uK:FO fK [] fA fk 19:=fo
open Cod (enc dec)
variable {S S0:Nat->Spc}
abbrev ZX(x:Glob):Prop:=∃lb m,GG lb m x
abbrev qaB:Spc:=aJ (a1 Glob) ZX (enc (X:=Bool)) λx y=>y=true
set_option maxHeartbeats 1000000 in
theorem OG:aq bO bN S (a1 Glob) ZX (enc (X:=Bool)) λx y=>y=true:=by
 rintro x ⟨lb,m,h⟩;cases h with
 |bound n a h=>simp[bO,bN,E0,-fB',-eB']
 |val n a v f h1 h2=>simp[bO,bN,E0,-fB',-eB']
 |same n a b g h1 h2 h3=>simp[bO,bN,E0,-fB',-eB']
 |dist n a b mn mx h1 h2 h3 h4 h5 h6=>simp[bO,bN,E0,-fB',-eB']
 |reg n a b t h1 h2 h3=>simp[bO,bN,E0,-fB',-eB']
 |path n a b l h1 h2 h3 h4=>simp[bO,bN,E0,-fB',-eB']
 |node n a b t h1 h2 h3=>simp[bO,bN,E0,-fB',-eB']
 |depth n a mn mx h1 h3 h4 h5 h6=>simp[bO,bN,E0,-fB',-eB']
 |head n op a b ho h1 h2=>rcases ho with rfl|rfl<;>simp[bO,bN,E0,-fB',-eB']
 |not n k h=>simp[bO,bN,E0,-fB',-eB']
 |two n op a b ho h1 h2=>rcases ho with rfl|rfl<;>simp[bO,bN,E0,-fB',-eB']
def qsZ(n:Nat)(x:Glob×Int×Int):Prop:=oU x.1<=n/\0<=x.2.1/\x.2.1+Gz x.1<=60/\0<=x.2.2/\x.2.2+oU x.1<=1000/\oU x.1<=60
abbrev Vi(n:Nat):Spc:=aJ (a3 Glob Int Int) (qsZ n) (qR (Y:=Int) (Z:=Int)) λx y=>y=(x.2.1+Gz x.1,x.2.2+oU x.1 -1)
abbrev Vj:Spc:=aJ (a3 Glob Int Int) (λx=>∃n,qsZ n x) (qR (Y:=Int) (Z:=Int)) λx y=>y=(x.2.1+Gz x.1,x.2.2+oU x.1 -1)
theorem HH(n:Nat)(h1:S jg=Vi n):aq qV qk S (a3 Glob Int Int) (qsZ (n+1)) (qR (Y:=Int) (Z:=Int)) λx y=>y=(x.2.1+Gz x.1,x.2.2+oU x.1 -1):=by
 rintro⟨x,nodes,deep⟩ ⟨hn,h0,h2,h3,h4,h5⟩;simp only at hn h0 h2 h3 h4 h5;have j:=Ln x;have l:=qaW x;simp[qV,qk];refine⟨by grind [Spc,InR],λp=>?_⟩;refine ah (X:=Int×Int) [2,17] [] x.kids.length (λk z=>z.1=nodes+1+ (nC (x.kids.take k):Int)/\z.2=deep+ (nF (x.kids.take k):Int)) (λz=>[(1,enc z.1),(8,enc z.2)]) (λ_=>[]) (nodes+1,deep) (by simp[nC,nF]) ?_ ?_
 ·rintro k ⟨m,d⟩ hk ⟨q,h⟩;simp only at q h;obtain⟨y,b⟩:=bh hk;obtain⟨_,c⟩:=qCd.1 b;have hm:=qc0 b;have r:=ID (aY b);have hp:qsZ n (y,m,deep+1):=⟨by show oU y<=n;omega,by show 0<=m;omega,by show m+Gz y<=60;omega,by show 0<=deep+1;omega,by show deep+1+oU y<=1000;omega,by show oU y<=60;omega⟩
  have a:¬60<m:=by have:=qaW y;omega
  simp[h1,hk,b,c,hp,a];exact⟨by simp only[InR];omega,by omega,by rw[hm.2.1,h];omega⟩
 simp;omega
def qgH(x:Glob):D.agg [D.v (Value.int IntKind.i64 x.op),D.v (Value.string x.a),D.v (Value.string x.b),D.v (Value.string x.name),D.v (Value.string x.arg),D.v (Value.string x.val),D.v (Value.bool x.fold),D.v (Value.int IntKind.i64 x.mn),D.v (Value.int IntKind.i64 x.mx),D.list 1 (List.map enc x.args),D.list 11 (List.map enc x.kids)]=enc x:=by simp
def Od(S0:Nat->Spc)(x:List Glob×D×Unit):Prop:=FunOnP S0 x.2.1 x.1 λ_=>false
abbrev qfq(S0:Nat->Spc):Spc:=aJ (aE (List Glob) (aD a0)) (Od S0) (enc (X:=Int)) λx y=>y= -1
def rL:aq dW dP S (aE (List Glob) (aD a0)) (Od S) (enc (X:=Int)) λx y=>y= -1:=by
 rintro⟨l,d,⟨⟩⟩ hp;replace hp:FunOnP S d l λ_=>false:=hp
 simp[dW,dP,-fB',-eB'];intro h;refine ah (X:=Unit) [0,1] [] l.length (λk _=>True) (λ_=>[]) (λ_=>[]) () (by simp) ?_ ?_
 ·rintro k -hk -;obtain⟨y,a⟩:=bh hk;obtain⟨_,c⟩:=qCd.1 a;simp[hk,a,c,-fB',-eB'];rw[qgH y];refine hp.useB y (aY a) λb hb=>?_
  grind [Ph]
 simp
abbrev qfs(S0:Nat->Spc):Spc:=aJ (aE (List Glob) (aD a0)) (Od S0) (enc (X:=Bool)) λx y=>y=false
def nN(h1:S eA=qfq S0):aq dr dm S (aE (List Glob) (aD a0)) (Od S0) (enc (X:=Bool)) λx y=>y=false:=by
 rintro⟨l,d,⟨⟩⟩ hp;simp_all [dr,dm]
def qph(n:Nat)(x:Glob):Prop:=oU x<=n/\ZX x
abbrev Vy(n:Nat):Spc:=aJ (aE Glob (aD a0)) (λx=>qph n x.1/\x.2.1= .clo ee []) (enc (X:=Bool)) λx y=>y=true
abbrev Vz:Spc:=aJ (aE Glob (aD a0)) (λx=>(∃n,qph n x.1)/\x.2.1= .clo ee []) (enc (X:=Bool)) λx y=>y=true
abbrev Ml(n:Nat):Spc:=aJ (aE Glob (aD a0)) (λx=>qph n x.1/\x.2.1= .cptr [.clo ee []] 0) (enc (X:=Bool)) λx y=>y=false
def J8(n:Nat)(h1:S mE=Vy n):aq qX qn S (aE Glob (aD a0)) (λx=>qph n x.1/\x.2.1= .cptr [.clo ee []] 0) (enc (X:=Bool)) λx y=>y=false:=by
 rintro⟨x,d,⟨⟩⟩ ⟨a,b⟩;simp_all [qX,qn]
def OF(n:Nat)(h0:S0 fS=Ml n)(h1:S dx=qfs S0)(h2:S ee=qaB):aq vy uA S (aE Glob (aD a0)) (λx=>qph (n+1) x.1/\x.2.1= .clo ee []) (enc (X:=Bool)) λx y=>y=true:=by
 rintro⟨x,d,⟨⟩⟩ ⟨⟨hn,b⟩,c⟩;simp only at hn b c;subst c;have hk:∀k∈x.kids,qph n k:=λk hk=>by
  have:=WH hk;obtain⟨lb,m,h⟩:=b;obtain⟨j,_,h2⟩:=qgI h hk;exact⟨by omega,lb,j,h2⟩
 have hO:FunOnP S0 (.clo fS [.cptr [.clo ee []] 0]) x.kids λ_=>false:=
  IE h0 (λk a=>⟨hk k a,rfl⟩) (λ_ _ y l=>l)
 have p:Od S0 (x.kids, .clo fS [.cptr [.clo ee []] 0],()):=hO;simp_all [vy,uA]
abbrev qam:Spc:=aJ (a1 Glob) (λg=>g=GlobE\/ZX g) (enc (X:=Bool)) λx y=>y=decide (x.op=0)
set_option maxHeartbeats 1000000 in
def OB:aq rI rv S (a1 Glob) (λg=>g=GlobE\/ZX g) (enc (X:=Bool)) λx y=>y=decide (x.op=0):=by
 rintro x (rfl|⟨lb,m,h⟩);simp[rI,rv,GlobE,E0]
 ·have:x.op≠0:=by cases h<;>simp<;>omega
  simp[rI,rv,this,-fB',-eB']
abbrev VA:Spc:=aJ (a1 Glob) (λg=>g=GlobE\/ ∃lb,GG lb 2 g) (enc (X:=Bool)) λx y=>y=true
def LH(h1:S zN=qam)(h2:S jg=Vj)(h3:S mE=Vz):aq pJ oa S (a1 Glob) (λg=>g=GlobE\/ ∃lb,GG lb 2 g) (enc (X:=Bool)) λx y=>y=true:=by
 rintro x (rfl|⟨lb,h⟩)
 ·have a:GlobE=GlobE\/ZX GlobE:= .inl rfl;have d:GlobE.op=0:=rfl;simp[pJ,oa,h1,a,d,-fB',-eB'];exact .inl rfl
 ·have c:=qod h;have a:x=GlobE\/ZX x:= .inr ⟨lb,2,h⟩;have b:x.op≠0:=by cases h<;>simp<;>omega
  have j:∃n,qsZ n (x,0,1):=⟨oU x,qCj _,qDe _,by grind,by simp,by grind,by grind⟩
  have k:∃n,qph n x:=⟨oU x,qCj _,lb,2,h⟩
  have l:(Gz x:Int)<=60:=by omega
  have p:(1:Int) +oU x -1<=20:=by omega
  simp[pJ,oa,h1,h2,h3,a,b,j,k,l,p,-fB',-eB']
def GK{x:B} :(x∈Types\/x∈qb2\/(x∈XU/\x≠ ⟨#[]⟩))->aK x=true:=by
 have a:∀b:B,(decide (1<=b.size) && decide (b.size<=32) && (b.data.toList.all λc=>KV c.toNat))=true->aK b=true:=λb h=>xL h
 rintro(h|h|⟨h,hn⟩)
 ·simp only[Types,qCm,qCN,or_false]at h;rcases h with rfl|rfl|rfl<;>exact a _ (by decide)
 ·simp only[qb2,qCm,qCN,or_false]at h;rcases h with rfl|rfl|rfl<;>exact a _ (by decide)
 ·simp only[XU,qCm,qCN,or_false]at h;rcases h with rfl|rfl|rfl
  ·exact a _ (by decide)
  ·exact a _ (by decide)
  grind
def Zf{v:B}(h:v∈qb5):∃r,ox v=some r:=by
 have e:∀v∈qb5,(ox v).isSome=true:=by decide
 grind [Option.isSome_iff_exists]
abbrev YQ:Spc:=aJ (a1 B) (λs=>s∈XU) (enc (X:=Bool)) λ_ y=>y=false
def qmV(h1:S bJ=um):aq kV kq S (a1 B) (λs=>s∈XU) (enc (X:=Bool)) λ_ y=>y=false:=by
 rintro s hs;have hs:s∈XU:=hs;have a:s≠ ⟨#[]⟩->aK s=true:=λh=>GK (.inr (.inr ⟨hs,h⟩))
 simp_all [kV,kq]
def Nj{X:Type}[Cod X]{S:Nat->Spc}{g:Nat}{l:List X}{pre:X->Prop}{q:X->Bool}{post:X->Bool->Prop}(h:S g=aJ (a1 X) pre enc post)(hp:∀x∈l,pre x)(c:∀x∈l,∀y,post x y->y=q x):FunOnP S (.clo g []) l q:=by
 refine⟨g, [],_,rfl,h,λx a=>⟨⟨x,by simp,hp x a⟩,λr b=>?_⟩⟩;obtain⟨y,rfl,d⟩:=b x (by simp) (hp x a);grind
def Oc(S0:Nat->Spc)(x:List B×D×Unit):Prop:=FunOnP S0 x.2.1 x.1 λ_=>false
abbrev qfp(S0:Nat->Spc):Spc:=aJ (aE (List B) (aD a0)) (Oc S0) (enc (X:=Int)) λx y=>y= -1
def qmW:aq fA fk S (aE (List B) (aD a0)) (Oc S) (enc (X:=Int)) λx y=>y= -1:=by
 rintro⟨l,d,⟨⟩⟩ hp;replace hp:FunOnP S d l λ_=>false:=hp
 simp[fA,fk,-fB',-eB'];intro h;refine ah (X:=Unit) [0,1] [] l.length (λk _=>True) (λ_=>[]) (λ_=>[]) () (by simp) ?_ ?_
 ·rintro k -hk -;obtain⟨y,a⟩:=bh hk;obtain⟨_,c⟩:=qCd.1 a;simp[hk,a,c,-fB',-eB'];refine hp.useB y (aY a) λb hb=>?_
  obtain rfl:b=false:=hb _ hp;simp
 simp
abbrev qfr(S0:Nat->Spc):Spc:=aJ (aE (List B) (aD a0)) (Oc S0) (enc (X:=Bool)) λx y=>y=false
def qmX(h1:S fK=qfp S0):aq eE ek S (aE (List B) (aD a0)) (Oc S0) (enc (X:=Bool)) λx y=>y=false:=by
 rintro⟨l,d,⟨⟩⟩ hp;simp_all [eE,ek]
def CO(S0:Nat->Spc)(x:List yB×D×Unit):Prop:=FunOnP S0 x.2.1 x.1 λ_=>false
abbrev qaD(S0:Nat->Spc):Spc:=aJ (aE (List yB) (aD a0)) (CO S0) (enc (X:=Int)) λx y=>y= -1
def qg0(x:yB):D.agg [D.v (Value.int IntKind.i64 x.op),D.v (Value.bool x.neg),D.v (Value.string x.reg)]=enc x:=by simp
def qjk:aq fC fm S (aE (List yB) (aD a0)) (CO S) (enc (X:=Int)) λx y=>y= -1:=by
 rintro⟨l,d,⟨⟩⟩ hp;replace hp:FunOnP S d l λ_=>false:=hp
 simp[fC,fm,-fB',-eB'];intro h;refine ah (X:=Unit) [0,1] [] l.length (λk _=>True) (λ_=>[]) (λ_=>[]) () (by simp) ?_ ?_
 ·rintro k -hk -;obtain⟨y,a⟩:=bh hk;obtain⟨_,c⟩:=qCd.1 a;simp[hk,a,c,-fB',-eB'];rw[qg0 y];refine hp.useB y (aY a) λb hb=>?_
  grind [Ph]
 simp
abbrev RY(S0:Nat->Spc):Spc:=aJ (aE (List yB) (aD a0)) (CO S0) (enc (X:=Bool)) λx y=>y=false
def qjl(h1:S fL=qaD S0):aq eG ep S (aE (List yB) (aD a0)) (CO S0) (enc (X:=Bool)) λx y=>y=false:=by
 rintro⟨l,d,⟨⟩⟩ hp;simp_all [eG,ep]
abbrev RS:Spc:=aJ (a1 yB) GF (enc (X:=Bool)) λ_ y=>y=false
def qjd:aq xp wG S (a1 yB) GF (enc (X:=Bool)) λ_ y=>y=false:=by
 rintro f ⟨h,_⟩;have h1:¬f.op< 1:=by omega
 have h2:¬3<f.op:=by omega
 simp_all [xp,wG]
abbrev RU:Spc:=aJ (a1 yB) GF (enc (X:=Bool)) λ_ y=>y=false
def qjg(h1:S bJ=um):aq ib gP S (a1 yB) GF (enc (X:=Bool)) λ_ y=>y=false:=by
 rintro f ⟨_,h⟩;simp_all [GK,ib,gP]
def EW(x:Glob×List Attr×List B):Prop:=x.2.1=iS/\(x.1=GlobE\/ ∃n,GG x.2.2 n x.1)
abbrev Vt:Spc:=aJ (a3 Glob (List Attr) (List B)) EW (enc (X:=Int)) λ_ y=>y=0
def qh2{g:B}(h:g∈Attr2):0<=lH iS g:=by
 simp only[Attr2,qCm,qCN,or_false]at h;rcases h with rfl|rfl<;>decide
def gI{l:List B}{x:B}(h:x∈l):tq l x=true:=by
 grind [tq]
set_option maxHeartbeats 4000000 in
theorem qel(h1:S aU=YP)(h2:S bQ=Cr)(h3:S bJ=um)(h4:S eU=qfr S0)(h5:S rH=qat)(h0:S0 eY=YQ):
 aq aG aF S (a3 Glob (List Attr) (List B)) EW (enc (X:=Int)) λ_ y=>y=0:=by
 rintro⟨g,a,lb⟩ ⟨ha,hg⟩;simp only at ha hg;subst ha;have hw:(0:Int)<=lH iS LW:=by decide
 rcases hg with rfl|⟨n,hg⟩;simp[aG,aF,GlobE];cases hg with
 |bound n a h=>simp[aG,aF,h1,gI h,-fB',-eB']
 | val n a v f k1 k2=>
   have hx:=Zf k2;simp[aG,aF,h1,h2,h5,gI k1,hw,hx,-fB',-eB']
 |same n a b g k1 k2 k3=>simp[aG,aF,h1,h2,gI k1,gI k2,hw,qh2 k3,-fB',-eB']
 | dist n a b mn mx k1 k2 k3 k4 k5 k6=>
   have e:¬mx<mn:=by omega
   simp[aG,aF,h1,gI k1,gI k2,e,-fB',-eB']
 |reg n a b t k1 k2 k3=>simp[aG,aF,h1,h3,gI k1,gI k2,GK (.inl k3),-fB',-eB']
 | path n a b l k1 k2 k3 k4=>
   have hP:Oc S0 (l, .clo eY [],()):=Nj h0 (λx hx=>k4 x hx) λ_ _ y hy=>hy
   simp[aG,aF,h1,h4,gI k1,gI k2,hP,-fB',-eB']
 |node n a b t k1 k2 k3=>simp[aG,aF,h1,h3,gI k1,gI k2,GK (.inr (.inl k3)),-fB',-eB']
 | depth n a mn mx k1 k3 k4 k5 k6=>
   have e1:¬mx<mn:=by omega
   have e2:¬mn< 0:=by omega
   simp[aG,aF,h1,gI k1,e1,e2,-fB',-eB']
 |head n op a b ho k1 k2=>rcases ho with rfl|rfl<;>simp[aG,aF,h1,gI k1,gI k2,-fB',-eB']
 |not n k h=>simp[aG,aF,-fB',-eB']
 |two n op a b ho k1 k2=>rcases ho with rfl|rfl<;>simp[aG,aF,-fB',-eB']
abbrev qay(n:Nat):Spc:=aJ (a3 Glob (List Attr) (List B)) (λx=>oU x.1<=n/\EW x) (enc (X:=Int)) λ_ y=>y=0
abbrev Vu:Spc:=aJ (a3 Glob (List Attr) (List B)) EW (enc (X:=Int)) λ_ y=>y=0
def qjh(n:Nat)(h1:S ph=Vt)(h2:S gV=qay n):aq pH nY S (a3 Glob (List Attr) (List B)) (λx=>oU x.1<=n+1/\EW x) (enc (X:=Int)) λ_ y=>y=0:=by
 rintro⟨g,a,lb⟩ ⟨hn,d⟩;simp only at hn;have c:=d;obtain⟨j,b⟩:=c;simp only at j b;subst j;have hk:∀k∈g.kids,oU k<=n/\EW (k,iS,lb):=λk hk=>by
  have:=WH hk;rcases b with rfl|⟨m,h⟩
  ·cases hk
  ·obtain⟨l,_,h2⟩:=qgI h hk;exact⟨by omega,rfl, .inr ⟨l,h2⟩⟩
 simp[pH,nY,h1,d,-fB',-eB'];intro p;refine ah (X:=Unit) [1,2,19] [] g.kids.length (λ_ _=>True) (λ_=>[]) (λ_=>[]) () trivial ?_ ?_;simp_all;simp
structure TM (a:List Attr) (q:Qry):Prop where
 glob:q.glob=GlobE\/GG (be q.pat []) 2 q.glob
 filts:∀f∈q.filts,GF f
 strat:0<=q.strat/\q.strat< 4
 pat:fJ aK q.pat=true
 size:kg q.pat<=256
 l3:(be q.pat []).length<=3
 num:ff q.pat<=1000000
 att:a=iS
 lv:∀x∈am q.pat,qka a (be q.pat []) x.cond=true/\∃n,KB n x.cond
structure qpm (q:Qry):Prop where
 filts:∀f∈q.filts,GF f
 strat:0<=q.strat/\q.strat< 4
 pat:fJ aK q.pat=true
 size:kg q.pat<=256
 l3:(be q.pat []).length<=3
 num:ff q.pat<=1000000
abbrev qax:Spc:=aJ (a1 Qry) qpm (enc (X:=Int)) λ_ y=>y=0
theorem qjf{N N2:Nat->Spc}(h0:N fj=FT)(d:N eB=Bd)(b:N2 dz=RU)(h1:S rG=RW)(h2:S gw=FY N)(h3:S iH=RQ)(h4:S dy=s_qlabels)(h5:S cX=RY N2):
 aq jD jr S (a1 Qry) qpm (enc (X:=Int)) λ_ y=>y=0:=by
 rintro q a;have f1:FunIs N (.clo fj []) (nD aK):=BM h0 λ_=>trivial
 have p:FunIs N (.clo eB []) nL:=BM d λ_=>trivial
 have r:CO N2 (q.filts, .clo dz [],()):=Nj b (λx s=>a.filts x s) λ_ _ y h=>h
 have hp:=a.pat;unfold fJ at hp;simp only[qCi]at hp;obtain⟨⟨⟨t,u⟩,w⟩,A⟩:=hp;have j:=a.size;have c:¬256<kg q.pat:=by omega
 have C:=a.l3;have E:¬q.strat< 0:=by have:=a.strat;omega
 have F:¬3<q.strat:=by have:=a.strat;omega
 have k:qd8 q.pat []:=by show 0+ff q.pat<=1000000;have:=a.num;omega
 simp[jD,jr,h1,t,u,h2,E,F,h3,a.pat,j,c,h5,r,-fB',-eB'];refine⟨⟨_,f1⟩,λy h=>⟨λ_=>⟨⟨_,p⟩,λz hz=>⟨by rw[hz _ p,A],λ_=>?_⟩⟩,by rw[h _ f1,w]⟩⟩;simp[h4,-fB',-eB'];refine .inl ⟨k,λl hl _=>?_⟩;have hl:l=be q.pat []:=hl;subst hl;omega
theorem qi4{N:Nat->Spc}(h0:N pg=RS)(h1:S kO=qax)(h2:S dy=s_qlabels)(h3:S fu=s_leavesQ)(h4:S eC=YR)(h5:S cX=RY N)(h6:S wW=VA)(w:S gV=Vu):
 aq pI nZ S (a2 Qry (List Attr)) (λx=>TM x.2 x.1) (enc (X:=Int)) λ_ y=>y=0:=by
 rintro⟨q,a⟩ b;have b:TM a q:=b;have A:qpm q:=⟨b.filts,b.strat,b.pat,b.size,b.l3,b.num⟩
 have j:qd8 q.pat []:=by show 0+ff q.pat<=1000000;have:=b.num;omega
 have C:(am q.pat).length<=ff q.pat:=uM q.pat;have p:qlE q.pat []:=⟨by have:=b.num;simp;omega,λy c=>(b.lv y c).2⟩
 have E:CO N (q.filts, .clo pg [],()):=Nj h0 (λx d=>b.filts x d) λ_ _ y c=>c
 have F:q.glob=GlobE\/ ∃lb,GG lb 2 q.glob:=b.glob.imp id λh=>⟨_,h⟩
 have I:EW (q.glob,a,be q.pat []):=⟨b.att,b.glob.imp id λh=>⟨_,h⟩⟩
 have r:a.length<=1000:=by rw[b.att];decide
 simp[pI,nZ,h1,A,h2,-fB',-eB'];refine .inl ⟨j,λl hl=>?_⟩;have hl:l=be q.pat []:=hl;subst hl;simp[h3,-fB',-eB'];refine .inl ⟨p,?_⟩;intro J;refine ah (X:=Unit) [1,2,6,20] [] (eK q.pat).length (λ_ _=>True) (λ_=>[]) (λ_=>[]) () trivial ?_ ?_
 ·rintro k ⟨⟩ hk -;obtain⟨x,d⟩:∃x,(eK q.pat)[k]? =some x:=⟨_,qCe hk⟩
  obtain⟨_,s⟩:=qCd.1 d;have t:=qCg d;obtain⟨y,c,rfl⟩:=qCo.1 t;have u:ZS ((EO y).cond,a,be q.pat []):=⟨(b.lv y c).1,r⟩
  simp[hk,d,s,h4,u,-fB',-eB'];exact u
 ·rintro⟨⟩ -;simp[h5,h6,w,E,F,I,-fB',-eB']
end
section
open Go.Proofs
def I5:CC:=gq Tryz.f18 [] {} _
def H7:List ak:=[.cell 4 true 13]
def qcT:FO BX [] I5 H7 30:=fo
def Af:CC:=gq Tryz.f50 [] {} _
def yZ:List ak:=[.cell 4 true 7]
def Su:FO se [] Af yZ 45:=fo
def vD:CC:=gq Tryz.f17 [2] { bx:=[1,43],cu:=[1] } _
def uE:List ak:=[.tmp 4]
def MV:FO qN [2] vD uE 46:=fo
def kY:CC:=gq Tryz.f19 [2006006,2112011,1111111] { cu:=[2,5] } _
def kA:List ak:=[.cell 6 true 11]
def By:FO eZ [2006006,2112011,1111111] kY kA 159:=fo
def re:CC:=gq Tryz.f20 [] {} _
def qu:List ak:=[.cell 2 true 3]
def Io:FO sO [] re qu 13:=fo
def te:CC:=gq Tryz.f6 [1049049,2050007] { bx:=[18],fz:=[(18,1)],cu:=[2,7,9] } _
def sG:List ak:=[.cell 4 true 26]
def Kz:FO uZ [1049049,2050007] te sG 52:=fo
open Cod (enc dec)
variable {S S0:Nat->Spc}
def qiy(n:Nat)(x:Cond×List B):Prop:=0<n/\CS (n -1) x.1
def ZT(n:Nat)(x:Pat×List B):Prop:=0<n/\PD (n -1) x.1
def qmB(x:Pat)(l:List B):Prop:=l.length+ff x<=1000000
def Ob(n:Nat)(x:List Int×Int×List B):Prop:=x.2.1.toNat<n/\ -10<=x.2.1/\x.2.1<=100/\1<=x.2.2.length/\x.2.2.length<=1000000
def jd{q:Glob->Prop}{H:ab}{op mn mx:Int}{a b n g v:B}{f:Bool}{d e:D}(c:List B)(ks:List Glob)(j:FrzTo H d (enc c))(he:FrzTo H e (enc ks))(h:q ⟨op,a,b,n,g,v,f,mn,mx,c,ks⟩):
 Fin enc q (.agg [.v (.int .i64 op), .v (.string a), .v (.string b), .v (.string n), .v (.string g), .v (.string v), .v (.bool f), .v (.int .i64 mn), .v (.int .i64 mx),d,e]) H:=by
 refine bF (⟨op,a,b,n,g,v,f,mn,mx,c,ks⟩:Glob) ?_ h;rw[Ny];refine .agg rfl λk x y l p=>?_
 rcases k with _|_|_|_|_|_|_|_|_|_|_|k;simp_all;simp_all;simp_all;simp_all;simp_all;simp_all;simp_all;simp_all;simp_all;simp_all;simp_all;simp_all
end
end Go.Gv
