/- W191 -/
import Derived.Test.YtfpmgnnippjblaaGreatDoorGb22
set_option linter.all false
set_option maxRecDepth 100000
set_option maxHeartbeats 0
open Bool renaming forall_bool → fB', exists_bool → eB'
namespace Go.Gv
section
open Go.Proofs
open Cod (enc dec)
variable {S S0:Nat->Spc}
abbrev qiu:Spc:=ay (a1 Glob) (λg=>g=GlobE) (enc (X:=Bool)) λx y=>y=true
def Ug:aq jF jD S (a1 Glob) (λg=>g=GlobE) (enc (X:=Bool)) λx y=>y=true:=by
 rintro x rfl;simp[jF,jD,GlobE,E0,-fB']
abbrev qea:Spc:=ay (a1 Glob) (λg=>g=GlobE) (enc (X:=Bool)) λx y=>y=true
def Q6(h1:S pH=qiu):aq iw hU S (a1 Glob) (λg=>g=GlobE) (enc (X:=Bool)) λx y=>y=true:=by
 rintro x rfl;simp[iw,hU,h1,-fB']
abbrev qiN:Spc:=ay (aE (List Filt) (aD a0)) (λx=>x.1=[]) (enc (X:=Int)) λx y=>y= -1
def wn:aq ck bY S (aE (List Filt) (aD a0)) (λx=>x.1=[]) (enc (X:=Int)) λx y=>y= -1:=by
 rintro⟨l,d,⟨⟩⟩ h;have h:l=[]:=h;subst h;simp[ck,bY,-fB'];refine ah (X:=Unit) [] [] 0 (λ_ _=>True) (λ_=>[]) (λ_=>[]) () trivial (λk x hk=>absurd hk (by omega)) (λ_ _=>?_);simp
abbrev qco:Spc:=ay (aE (List Filt) (aD a0)) (λx=>x.1=[]) (enc (X:=Bool)) λx y=>y=false
def sW(h1:S cH=qiN):aq bK bJ S (aE (List Filt) (aD a0)) (λx=>x.1=[]) (enc (X:=Bool)) λx y=>y=false:=by
 rintro⟨l,d,⟨⟩⟩ h;have h:l=[]:=h;subst h;simp[bK,bJ,h1,-fB']
abbrev qiG:Spc:=ay (a3 Glob (List Attr) (List B)) (λx=>x.1=GlobE) (enc (X:=Int)) λ_ y=>y=0
abbrev qd5:Spc:=ay (a3 Glob (List Attr) (List B)) (λx=>x.1=GlobE) (enc (X:=Int)) λ_ y=>y=0
structure qDA (q:Qry):Prop where
 filts:q.filts=[]
 strat:q.strat=0
 pat:eP ax q.pat=true
 size:fu q.pat<=256
 l3:(bp q.pat []).length<=3
 num:cX q.pat<=1000000
abbrev qiF:Spc:=ay (a1 Qry) qDA (enc (X:=Int)) λ_ y=>y=0
theorem qp0{N:Nat->Spc}(h0:N dA=DO)(c:N cZ=yL)(h1:S mZ=Np)(h2:S fp=Cl N)(h3:S iW=zM)(h4:S da=s_qlabels)(h5:S aP=qco):
 aq dR dN S (a1 Qry) qDA (enc (X:=Int)) λ_ y=>y=0:=by
 rintro q a;have f1:FunIs N (.clo dA []) (mS ax):=vo h0 λ_=>trivial
 have j:FunIs N (.clo cZ []) lK:=vo c λ_=>trivial
 have hp:=a.pat;unfold eP at hp;simp only[qFS]at hp;obtain⟨⟨⟨k,p⟩,r⟩,s⟩:=hp;have d:=a.size;have b:¬256<fu q.pat:=by omega
 have t:=a.l3;have h:qlW q.pat []:=by show 0+cX q.pat<=1000000;have:=a.num;omega
 simp[dR,dN,h1,k,p,h2,a.filts,a.strat,h3,a.pat,d,b,h5,-fB',-eB'];refine⟨⟨_,f1⟩,λy u=>⟨λ_=>⟨⟨_,j⟩,λz hz=>⟨by rw[hz _ j,s],λ_=>?_⟩⟩,by rw[u _ f1,r]⟩⟩;simp[h4,-fB',-eB'];refine .inl ⟨h,λl hl _=>?_⟩;have hl:l=bp q.pat []:=hl;subst hl;omega
def qmx:aq aC aB S (a3 Glob (List Attr) (List B)) (λx=>x.1=GlobE) (enc (X:=Int)) λ_ y=>y=0:=by
 rintro⟨g,a,lb⟩ h;have h:g=GlobE:=h;subst h;simp[aC,aB,GlobE,-fB',-eB']
def qp1(h1:S gy=qd5):aq gC gg S (a3 Glob (List Attr) (List B)) (λx=>x.1=GlobE) (enc (X:=Int)) λ_ y=>y=0:=by
 rintro⟨g,a,lb⟩ h;have h:g=GlobE:=h;subst h;simp[gC,gg,h1,-fB',-eB'];simp[GlobE,-fB',-eB'];refine ah (X:=Unit) [] [] 0 (λ_ _=>True) (λ_=>[]) (λ_=>[]) () trivial (λk x hk=>absurd hk (by omega)) (λ_ _=>?_);simp
theorem qpY(h1:S eI=qiF)(h2:S da=s_qlabels)(h3:S dE=s_leavesQ)(h4:S eJ=US)(h5:S aP=qco)(h6:S mY=qea)(t:S eb=qiG):
 aq gD gh S (a2 Qry (List Attr)) (λx=>qz1 x.2 x.1) (enc (X:=Int)) λ_ y=>y=0:=by
 rintro⟨q,a⟩ b;have b:qz1 a q:=b;have u:qDA q:=⟨b.filts,b.strat,b.pat,b.size,b.l3,b.num⟩
 have c:qlW q.pat []:=by show 0+cX q.pat<=1000000;have:=b.num;omega
 have w:(am q.pat).length<=cX q.pat:=iR q.pat;have d:qha q.pat []:=⟨by have:=b.num;simp;omega,λy h=>(b.lv y h).2⟩
 simp[gD,gh,h1,u,h2,-fB',-eB'];refine .inl ⟨c,λl hl=>?_⟩;have hl:l=bp q.pat []:=hl;subst hl;simp[h3,-fB',-eB'];refine .inl ⟨d,?_⟩;intro A;refine ah (X:=Unit) [1,2,6,20] [] (bA q.pat).length (λ_ _=>True) (λ_=>[]) (λ_=>[]) () trivial ?_ ?_
 ·rintro k ⟨⟩ hk -;obtain⟨x,j⟩:∃x,(bA q.pat)[k]? =some x:=⟨_,qFQ hk⟩
  obtain⟨_,p⟩:=qFN.1 j;have r:=qFP j;obtain⟨y,h,rfl⟩:=qFV.1 r;have s:Xc ((mC y).cond,a,bp q.pat []):=⟨(b.lv y h).1,b.att⟩
  simp[hk,j,p,h4,s,-fB',-eB'];exact s
 ·rintro⟨⟩ -;simp[h5,h6,t,b.glob,b.filts,-fB',-eB']
end
section

open Go.Proofs
open Cod (enc dec)
variable {S S0:Nat->Spc}



end
section
open Go.Proofs
open Cod (enc dec)
variable {S S0:Nat->Spc}

end
section
open Cod (enc dec)
variable {dq:Prop}
section
variable {X Y:Type}[Cod Y]
end
open Go.Proofs
variable {S:Nat->Spc}
end
section
open Go.Proofs Cod
variable {dq:Prop}
def cw{P:Program}{f:Nat}{A:Nat->PT}{j:PT}(h:∀n,Tri dq P f (A n))(hs:∀d ds H K,j d ds H K->∃n,A n d ds H K):Tri dq P f j:=
 λO tp w vs ds H d K a b c e g k=>(hs d ds H K k).elim λn hn=>h n O tp w vs ds H d K a b c e g hn
def sq{P:Program}{f:Nat}{A:PT}(hs:∀d ds H K,¬A d ds H K):Tri dq P f A:=λO tp w vs ds H d K a b c e g h=>absurd h (hs d ds H K)
def dB{X Y:Type}{A:fN X}{pre:Nat->X->Prop}{a:X->Prop}{er:Y->D}{post:X->Y->Prop}(b:∀x,a x->∃n,pre n x):∀d ds H K,(ay A a er post).pt d ds H K->∃n,(ay A (pre n) er post).pt d ds H K:=by
 intro d ds H K h;rw[me]at h;cases e:A.dec ds with
 |none=>rw[e]at h;exact h.elim
 | some x=>
   rw[e]at h;obtain⟨h1,h2⟩:=h;obtain⟨n,hn⟩:=b x h1;exact⟨n,by rw[me,e];exact⟨hn,h2⟩⟩
def bF{P:Program}{f:Nat}{X Y:Type}{A:fN X}{pre:X->Prop}{er:Y->D}{post:X->Y->Prop}(a:∀x,¬pre x):Tri dq P f (ay A pre er post).pt:=sq λd ds H K h=>by
 rw[me]at h;cases e:A.dec ds with
 |none=>rw[e]at h;exact h.elim
 |some x=>rw[e]at h;exact a x h.1
def Uy{P:Program}{f:Nat}{Y Z:Type}{A:fN Z}{er:Y->D} :Tri dq P f (ql3 A er λ_ _=>none).pt:=sq λd ds H K h=>by
 obtain⟨id,b',x,z,a,h1,h2,h3,h4,h5,⟨r,h6⟩,b⟩:=h;cases h6
def qm2{P:Program}{f:Nat} :Tri dq P f (qsN λ_ _ _=>none).pt:=sq λd ds H K h=>by
 obtain⟨a,b',x,c,k,r,b,h1,h2,h3,h4,h5⟩:=h;cases h4
def qCK{p:Cond}(h:bi p<=0):False:=by rw[Bg]at h;omega
def Js:TQ dq eU Nn:=
 ac (ag ae) F4 (Hm)
def Lo:TQ dq ri s_cpFold1:=qfE (S:=J5 [(eU,Nn)]) (ag (aa Js ae)) rfl
def Lp:TQ dq rj qiv:=
 ac (ag ae) It (JZ)
def GK:TQ dq nI qiE:=
 ac (ag (aa Lp ae)) Er (Fq rfl)
def Lj:TQ dq dt qiw:=
 ac (ag (aa GK ae)) Id (JK rfl)
def nb:TQ dq cY qix:=
 ac (ag (aa Lj ae)) mu (QL rfl)
def sQ:TQ dq eG qit:=
 ac (ag (aa nb ae)) qQ (QK rfl)
def Jl:TQ dq pK Zg:=
 ac (ag ae) FT (Uo)
def Nb:TQ dq tA qd8:=
 ac (ag (aa Jl ae)) Kx (qbL rfl)
def zo:TQ dq eQ qm6:=
 ac (ag (aa Nb (aa sQ ae))) xz (yy rfl rfl)
def zw:TQ dq eQ qe8:=N7 zo rfl (λ_=>qko (λ_ h=>by cases h))
def Qh:TQ dq vr Y1:=
 Fy (ag (aa zw ae)) MG (λ_=>qFR rfl) (NE rfl)
def qaT:TQ dq C0 qih:=
 ac (ag ae) Vd (Xr)
def cN:TQ dq bD wA:=
 gc (ag (aa HB ae)) CD (λ_=>qFR rfl) (TN rfl)
def EB:TQ dq my qdL:=
 gc (ag (aa HB ae)) CB (λ_=>qFR rfl) (TM rfl)
def nf:TQ dq ep UJ:=
 gc (ag (aa cN (aa EB ae))) wt (λ_=>qFR rfl) (G8 rfl rfl)
def BR:TQ dq jP qii:=
 gc (ag (aa cN (aa Cg (aa nf ae)))) Ar (λ_=>qFR rfl) (NF rfl rfl rfl)
def DA:TQ dq kX qij:=
 gc (ag (aa cN (aa BR (aa Qh ae)))) BK (λ_=>qFR rfl) (QP rfl rfl rfl)
def EC:TQ dq mz qdM:=
 gc (ag (aa cN (aa qaT (aa DA (aa Cg (aa nf ae)))))) CE (λ_=>qFR rfl) (TO rfl rfl rfl rfl rfl)
def BQ:TQ dq jO qig:=
 gc (ag (aa cN (aa EC ae))) Aq (λ_=>qFR rfl) (ND rfl rfl)
def BS:TQ dq jQ qik:=
 gc (ag (aa cN (aa BQ ae))) As (λ_=>qFR rfl) (NG rfl rfl)
def Dz:TQ dq kW qif:=
 gc (ag (aa cN (aa BS ae))) BJ (λ_=>qFR rfl) (QM rfl rfl)
def Dy:∀n,TQ dq rT (qsN (zK n))
 | 0=>qm2
 |n+1=>qbZ (ag (aa (Dy n) ae)) OU (by decide) (QN n rfl)
def Li:TQ dq qY YR:=
 ac (ag ae) Ic (JJ)
def Je:TQ dq pA Sn:=
 ac (ag (aa Li ae)) FN (G6 rfl)
def ud:∀n,TQ dq iV (FE n)
 | 0=>bF λx h=>by cases h
 |n+1=>aY (ag (aa Je (aa (ud n) ae))) El (λ_=>qFR rfl) (Fj n rfl rfl)
def wi:∀n,TQ dq kp (qcj n)
 | 0=>bF λx h=>by obtain⟨m,h⟩:=h;cases h
 |n+1=>aY (ag (aa (wi n) ae)) FP (λ_=>qFR rfl) (G7 n rfl)
def zq:TQ dq lL YW:=
 ac (ag (aa (Dy 50) (aa (ud 50) (aa (wi 50) ae)))) If (JM rfl rfl rfl)
def EV:TQ dq rV Kf:=
 ac (ag (aa qqa (aa Dz (aa zq ae)))) OW (QQ rfl rfl rfl)
def EX:TQ dq rZ qdZ:=
 ac (ag (aa EV ae)) Pi (Rc rfl)
def Lk:TQ dq qZ qm7:=
 ac (ag ae) Ie (JL)
def uf:TQ dq gT UK:=
 uE (ag ae) CM (λ_=>qFR rfl) (qpZ)
def jZ:TQ dq dQ Nm:=
 uE (ag (aa uf ae)) Au (λ_=>qFR rfl) (qhz rfl)
def Qg:∀n,TQ dq du (Oq n)/\TQ dq jR (qil n)/\TQ dq eT (qci n)
 | 0=>⟨Uy,Uy,Uy⟩
 |n+1=>⟨uE (ag (aa (Qg n).1 (aa (Qg n).2.1 (aa jZ ae)))) BN (λ_=>qFR rfl) (qmz n rfl rfl rfl),uE (ag (aa (Qg n).1 (aa (Qg n).2.2 (aa jZ (aa uf ae))))) At (λ_=>qFR rfl) (qhu n rfl rfl rfl rfl),uE (ag (aa (Qg n).1 (aa (Qg n).2.2 (aa jZ ae)))) xE (λ_=>qFR rfl) (qbG n rfl rfl rfl)⟩
def qaZ:TQ dq Dg (qpf 50):=
 ac (ag (aa (Qg 50).1 ae)) VD (qAi 50 rfl)
def ED:TQ dq mA qim:=
 ac (ag ae) CN (qmA)
def Lh:TQ dq dr qpe:=
 ac (ag (aa Lo ae)) Ib (qbt rfl)
def Na:TQ dq dJ qpg:=
 ac (ag ae) Kn (Mc)
def EU:TQ dq rU qiq:=
 ac (ag (aa zq (aa Sc (aa qaZ (aa ED (aa Lk (aa Na (aa Lh ae)))))))) OV (QO rfl rfl rfl rfl rfl rfl rfl)
def RU:TQ dq xL (qeb false):=
 ac (ag (aa EU ae)) OX (QR rfl)
def Jf:TQ dq pB (qeb true):=
 ac (ag (aa EU ae)) FQ (G9 rfl)
def RY:TQ dq xT qdY:=
 ac (ag (aa EV (aa RU (aa Jf ae)))) Ph (Rb rfl rfl rfl)
def BB:TQ dq cp qiH:=
 ac (ag ae) Ik (JS)
def Nc:TQ dq fa Sv:=
 ac (ag (aa BB ae)) Ij (JR rfl)
def GE:TQ dq bM qdN:=
 ac (ag (aa BB (aa Nc ae))) CK (Eh rfl rfl)
def ue:TQ dq cK Kb:=
 ac (ag (aa Sc ae)) CJ (Eg rfl)
def Nd:TQ dq tD Y4:=
 ac (ag (aa ue ae)) KD (Ms rfl)
def GH:TQ dq nG qiA:=
 ac (ag ae) En (Fl)
def RX:TQ dq xS qiz:=
 ac (ag (aa Nd (aa GH ae))) Pg (Ra rfl rfl)
def sR:∀n,TQ dq dG (Za n)
 | 0=>bF λx h=>qCK h.1
 |n+1=>aY (ag (aa (sR n) ae)) CO (λ_=>qFR rfl) (B7 n rfl)
def ug:TQ dq dG OC:=cw (λn=>sR n) (dB (λx h=>h))
def Jn:TQ dq pP Sy:=
 ac (ag ae) FW (Fo)
def zt:TQ dq bX UT:=
 ac (ag ae) xG (yB)
def tW:TQ dq eX (qcn Attr (J5 [(bX,UT)])):=
 ac (ag (aa zt ae)) sx (NV)
def dS:TQ dq bT DP:=
 ac (ag (aa tW ae)) Av (BG (S0:=(J5 [(bX,UT)])) rfl rfl)
def wS:TQ dq ku OF:=
 ac (ag (aa dS ae)) F1 (Hj rfl)
def Jr:TQ dq pT Zf:=
 ac (ag ae) F3 (Hl)
def jY:TQ dq dP UP:=
 ac (ag ae) Ao (NT)
def nc:TQ dq bb qcl:=
 ac (ag (aa jY ae)) lU (Hp rfl)
def Jo:TQ dq pQ Y9:=
 ac (ag (aa wS (aa dS (aa GE ae)))) FX (Hg rfl rfl rfl)
def Jq:TQ dq pS Ze:=
 ac (ag (aa Jn (aa Jo (aa EX (aa dS (aa qbY (aa ue (aa nc ae)))))))) F2 (Hk rfl rfl rfl rfl rfl rfl rfl)
def Bf:TQ dq cB qd7:=
 ac (ag (aa Jq ae)) za (zB rfl)
def wQ:∀n,TQ dq il (Y7 n)
 | 0=>bF λx h=>by obtain⟨a,lb,_,h,_⟩:=h;cases h
 |n+1=>aY (ag (aa Bf (aa (wQ n) ae))) Ir (λ_=>qFR rfl) (He n rfl rfl)
def Lm:TQ dq il Y6:=cw (λn=>wQ n) (dB (λx h=>h))
def lA:TQ dq eJ US:=
 ac (ag (aa ug (aa Lm ae))) BP (B8 rfl rfl)
def EA:TQ dq mw qdX:=
 ac (ag ae) CA (Up)
def Be:TQ dq iU qd2:=
 ac (ag (aa EA ae)) yX (Mv rfl)
def DE:TQ dq cg H6:=
 ac (ag (aa Be ae)) BO (B6 rfl)
def wv:TQ dq fR (qcn Region (J5 [(cg,H6)])):=
 ac (ag (aa DE ae)) vj (XZ)
def tX:TQ dq eZ (qfO Region (J5 [(cg,H6)])):=
 ac (ag (aa wv ae)) sA (Ya rfl)
def GJ:TQ dq nH qiD:=
 ac (ag (aa tX ae)) Eo (Fp (S0:=(J5 [(cg,H6)])) rfl rfl)
def wk:∀n,TQ dq kq (OE n)
 | 0=>bF λx h=>by obtain⟨_,y,h⟩:=h;cases h
 | n+1=>
   have a:TQ dq aL (qck n):=ac (ag (aa (wk n) ae)) CQ (qfy n rfl);have b:TQ dq cL (qiy n):=ac (ag (aa a ae)) CP (qfx n rfl);have c:TQ dq eR (qcn Cond (J5 [(aL,qck n),(cL,qiy n)])):=ac (ag (aa a (aa b ae))) mR (R8);have d:TQ dq cb (qfO Cond (J5 [(aL,qck n),(cL,qiy n)])):=ac (ag (aa c ae)) km (R9 rfl)
   ac (ag (aa a (aa d (aa wS (aa Jr (aa RY (aa dS (aa RX (aa jY (aa GJ ae)))))))))) F0 (qmu (S0:=(J5 [(aL,qck n),(cL,qiy n)])) n rfl rfl rfl rfl rfl rfl rfl rfl rfl rfl rfl)
def BD:TQ dq nn sZ:=
 ac (ag ae) KF (Mu)
def wT:TQ dq kw ot:=
 ac (ag (aa BD ae)) F5 (Ho rfl)
def Jt:TQ dq uo zN:=
 ac (ag ae) RH (Un)
def qcy{p:Pat}(h:dK p<=0):False:=by rw[qen]at h;omega
def Bn:TQ dq cp yO:=
 ac (ag ae) KA (Mq)
def MB:TQ dq fa HX:=
 ac (ag (aa Bn ae)) Kz (Mp rfl)
def iC:TQ dq bM oq:=
 ac (ag (aa Bn (aa MB ae))) Em (Fk rfl rfl)
def Ut:TQ dq AO qie:=
 ac (ag ae) Rz (Ue)
def Uu:TQ dq lN UN:=
 ac (ag (aa Ut ae)) RB (Uh rfl)
def Rf:TQ dq dA DO:=
 ac (ag (aa iC ae)) O5 (Q0 rfl)
def NZ:TQ dq cZ yL:=
 ac (ag ae) MM (NM)
def qhc:Nat->Spc:=J5 [(lN,UN),(dA,DO),(cZ,yL)]
def qES(n:Nat):Nat->Spc:=J5 [(gw,qin n)]
def qlb{S:Nat->Spc}(h:∀f,TQ dq f (S f)):TQ dq aN (UU S):=
 ac (ag (aa (ac (S:=S) h ui uB) ae)) qS (se rfl)
def Bu:∀n,TQ dq jw (So n)
 | 0=>bF λx h=>qcy h.1
 | n+1=>
   have h1:TQ dq gw (qin n):=ac (ag (aa (Bu n) ae)) FS (Hb n rfl)
   ac (ag (aa (qlb (S:=qES n) (ag (aa h1 ae))) ae)) Ks (Mi (S0:=qES n) n rfl rfl)
def MA:TQ dq jw Ot:=
 cw (λn=>Bu n) (dB (λx h=>⟨dK x.1,qFU _,h⟩))
def qDz(n:Nat):Nat->Spc:=J5 [(jy,qiC qhc n)]
def qDy(n:Nat):Nat->Spc:=J5 [(aN,UU (qDz n)),(lN,UN),(dA,DO),(cZ,yL)]
def qnA(n:Nat)(d:D)(f:Pat->Bool)(h:FunIs qhc d f):FunIs (qDy n) d f:=by
 obtain⟨g,c,k,a,b,e⟩:=h;refine⟨g,c,k,a,?_,e⟩;by_cases j:g=aN
 ·subst j;have:qhc aN=Spc.none:=rfl;rw[this]at b;cases b
 ·rw[<-b];unfold qDy qhc;rw[J5,if_neg j]
def EN:∀n,TQ dq fp (qd0 qhc n)
 | 0=>bF λx h=>by obtain⟨f,h1,h2⟩:=h;exact qcy h2
 | n+1=>
   have h1:TQ dq jy (qiC qhc n):=ac (ag (aa (EN n) ae)) Ku (Ml (S0:=qhc) n rfl)
   ac (S:=qDy n) (ag (aa (qlb (S:=qDz n) (ag (aa h1 ae))) (aa Uu (aa Rf (aa NZ ae))))) O6 (Q1 (S0:=qDz n) (N:=qhc) n (qnA n) rfl rfl)
def rM:TQ dq fp (Cl qhc):=
 cw (λn=>EN n) (dB (λx h=>by obtain⟨f,h⟩:=h;exact⟨dK x.1,f,h,qFU _⟩))
def xa:TQ dq mZ Np:=
 ac (ag (aa MA (aa rM ae))) Pa (Q7 (N:=qhc) rfl rfl rfl)
def wZ:TQ dq mV de:=
 ac (ag (aa xa (aa rM ae))) O4 (QY (N:=qhc) rfl rfl rfl rfl)
def Ia:∀n,TQ dq iW (UL n)
 | 0=>bF λx h=>qcy h.1
 |n+1=>aY (ag (aa (Ia n) ae)) RA (λ_=>qFR rfl) (Uf n rfl)
def zH:TQ dq iW zM:=
 cw (λn=>Ia n) (dB (λx h=>⟨dK x,qFU _,h⟩))
def Cz:∀n,TQ dq kZ (Y8 n)
 | 0=>bF λx h=>h
 |n+1=>aY (ag (aa (Cz n) ae)) MN (λ_=>qFR rfl) (NP n rfl)
def N0:TQ dq kZ Sz:=
 cw (λn=>Cz n) (dB (λx h=>h))
def EG:TQ dq rY UQ:=
 ac (ag (aa N0 ae)) O7 (Q2 rfl)
def Cx:∀n,TQ dq dE (Te n)
 | 0=>sq λd ds H K ⟨id,v,l,a,x,h1,h2,h3,h4,h5⟩=>qcy h4.1
 |n+1=>zI (ag (aa (Cx n) (aa EG ae))) Bv (by decide) (NN n rfl rfl)
def yF:Tri dq Tryz.prog dE i_leavesQA.pt:=cw (λn=>Cx n) λd ds H K ⟨id,v,l,a,x,h1,h2,h3,h4,h5⟩=>⟨dK x,id,v,l,a,x,h1,h2,h3,⟨qFU _,h4⟩,h5⟩
def uC:Tri dq Tryz.prog dE s_leavesQ.pt:=N6 (DM (ag (aa yF (aa EG ae))) Bv (λ_=>qFR rfl) (Mj rfl rfl)) yF
def qhM:Tri dq Tryz.prog bb s_has2.pt:=
 have h:Tri dq Tryz.prog bb s_hasE.pt:=ac (ag (aa jY ae)) lU (Fi rfl)
 N6 h (N7 h rfl λ_=>qrr _)
def Cy:∀n,TQ dq da (Z2 n)
 | 0=>sq λd ds H K ⟨id,v,l,a,x,h1,h2,h3,h4,h5⟩=>qcy h4.1
 |n+1=>zI (ag (aa qhM (aa (Cy n) ae))) Bw (by decide) (NO n rfl rfl)
def yG:Tri dq Tryz.prog da i_labelsA.pt:=cw (λn=>Cy n) λd ds H K ⟨id,v,l,a,x,h1,h2,h3,h4,h5⟩=>⟨dK x,id,v,l,a,x,h1,h2,h3,⟨qFU _,h4⟩,h5⟩
def ol:Tri dq Tryz.prog da s_qlabels.pt:=N6 (DM (ag (aa qhM (aa yG ae))) Bw (λ_=>qFR rfl) (Mk rfl rfl)) yG
def WI:TQ dq pH qiu:=
 ac (ag ae) EQ (Ug)
def RV:TQ dq mY qea:=
 ac (ag (aa WI ae)) CH (Q6 rfl)
def ww:TQ dq cH qiN:=
 ac (ag ae) kS (wn)
def jB:TQ dq aP qco:=
 ac (ag (aa ww ae)) iz (sW rfl)
def Ce:TQ dq eI qiF:=
 ac (ag (aa xa (aa rM (aa zH (aa ol (aa jB ae)))))) qr (qp0 (N:=qhc) rfl rfl rfl rfl rfl rfl rfl)
def Jk:TQ dq gy qd5:=
 ac (ag ae) vm (qmx)
def Ll:TQ dq eb qiG:=
 ac (ag (aa Jk ae)) wD (qp1 rfl)
def J2:TQ dq fq qqs:=
 ac (ag (aa Ce (aa ol (aa uC (aa lA (aa jB (aa RV (aa Ll ae)))))))) wE (qpY rfl rfl rfl rfl rfl rfl rfl)
end
section
open Go.Proofs
def wb:CC:=gq Tryz.f64 [2006006] { cu:=[1] } _
def uY:List ai:=[.cell 6 true 7]
def Pd:FO xQ [2006006] wb uY 28:=fo
def tR:CC:=gq Tryz.f118 [2006006,2006006,2083008,2082008] { cu:=[2,4,6,18,21,24] } _
def tq:List ai:=[.cell 6 true 7]
def MR:FO lc [2006006,2006006,2083008,2082008] tR tq 110:=fo
def qg:CC:=gq Tryz.f27 [2006006] { cu:=[2,4,7] } _
def oR:List ai:=[.cell 6 true 13]
open Cod (enc dec)
variable {S S0:Nat->Spc}
abbrev yM:Spc:=ay (a1 Int) bW (enc (X:=B)) (λ_ y=>y∈Types)
def qfu(h1:S wO=s_m_Mod):aq zn yQ S (a1 Int) bW (enc (X:=B)) (λ_ y=>y∈Types):=by
 rintro n -;simp[zn,yQ,h1];have h3:=Pm n 3 (by omega);refine⟨h3.1,h3.2,?_⟩;have:KJ n 3=0\/KJ n 3=1\/KJ n 3=2:=by omega
 rcases this with h|h|h<;>simp[h,Types,qzK,qoM,qzJ]
def TC(n:Nat)(x:List Int×Int×List B):Prop:=x.2.1.toNat<n/\ -10<=x.2.1/\x.2.1<=100/\x.2.2.length<=1000
def gm{q:Cond->Prop}{H:ab}{op:Int}{n a v l:B}{f:Bool}{d:D}(ks:List Cond)(c:FrzTo H d (enc ks))(b:q ⟨op,n,a,v,l,f,ks⟩):Fin enc q (.agg [.v (.int .i64 op), .v (.string n), .v (.string a), .v (.string v), .v (.string l), .v (.bool f),d]) H:=by
 refine aM (⟨op,n,a,v,l,f,ks⟩:Cond) ?_ b;rw[qkJ];refine .agg rfl λk x y h j=>?_
 rcases k with _|_|_|_|_|_|_|k;simp_all;simp_all;simp_all;simp_all;simp_all;simp_all;simp_all;simp_all
def qtO(a b c d e f g h:B):D.list 1 [.v (.string a), .v (.string b), .v (.string c), .v (.string d), .v (.string e), .v (.string f), .v (.string g), .v (.string h)]= .list 1 (YF [a,b,c,d,e,f,g,h]):=i' rfl
def qo7(a b c d:B):D.list 1 [.v (.string a), .v (.string b), .v (.string c), .v (.string d)]= .list 1 (YF [a,b,c,d]):=i' rfl
theorem D1{q:Pat->Prop}{H:ab}{op o:Int}{n a v l lb rg:B}{f:Bool}{c d:D}{mn mx:Int}(b:List Cond)(ks:List Pat)(hc:FrzTo H c (enc b))(j:FrzTo H d (enc ks))(h:q ⟨op,⟨o,n,a,v,l,f,b⟩,lb,rg,mn,mx,ks⟩):
 Fin enc q (.agg [.v (.int .i64 op), .v (.int .i64 o), .v (.string n), .v (.string a), .v (.string v), .v (.string l), .v (.bool f),c, .v (.string lb), .v (.string rg), .v (.int .i64 mn), .v (.int .i64 mx),d]) H:=by
 refine aM (⟨op,⟨o,n,a,v,l,f,b⟩,lb,rg,mn,mx,ks⟩:Pat) ?_ h;rw[qeP];refine .agg rfl λk x y p r=>?_
 rcases k with _|_|_|_|_|_|_|_|_|_|_|_|_|k;simp_all;simp_all;simp_all;simp_all;simp_all;simp_all;simp_all;simp_all;simp_all;simp_all;simp_all;simp_all;simp_all;simp_all
def qfe(n:Nat)(x:List Int×Int×List B):Prop:=x.2.1.toNat<n/\ -10<=x.2.1/\x.2.1<=100/\x.2.2.length<=1000
def qwp(x:List Int×Int×List B)(p:Pat):Prop:=WP x.2.2 x.2.1.toNat p/\PD x.2.1.toNat p
def qdo(x:List Int×Int×List B)(y:Cond):Prop:=GI x.2.2 x.2.1.toNat y
abbrev Oy(n:Nat):Spc:=ay (aT (a2 Int (List B))) (TC n) (enc (X:=Cond)) qdo
def qFE{i:Nat}{a:B}(h:[(⟨#[119,111,114,100]⟩:B),⟨#[119,111,114,100]⟩,⟨#[116,97,103]⟩][i]? =some a):a∈Attr2:=by
 grind [Attr2,uF,LA]
def qDf{i:Nat}{a:B}(h:[(⟨#[119,111,114,100]⟩:B),⟨#[116,97,103]⟩][i]? =some a):a∈Attr2:=aO h
def qDe{i:Nat}{a:B}(h:[(⟨#[112]⟩:B),⟨#[113]⟩][i]? =some a):a∈FeatL:=aO h
def qDd{i:Nat}{a:B}(h:[(⟨#[49]⟩:B),⟨#[50]⟩][i]? =some a):a∈NumL:=aO h
def qEM{i:Nat}{a:B}(h:[(⟨#[97]⟩:B),⟨#[98]⟩,⟨#[97,46,42]⟩,⟨#[91,97,98,93]⟩][i]? =some a):a∈ValsT:=aO h
def qFD{i:Nat}{a:B}(h:[(⟨#[97]⟩:B),⟨#[98]⟩,⟨#[97,46,42]⟩,⟨#[91,97,98,93]⟩,⟨#[88]⟩,⟨#[]⟩,⟨#[99,63]⟩,⟨#[97,124,98]⟩][i]? =some a):a∈ValsI:=by
 have:=aO h;simp only[ValsI,qF5,qGi,or_false]at this ⊢;grind
theorem qbH(n:Nat)(h1:S cq=s_m_Next)(h2:S sO=yM)(h3:S lc=Oy n):aq tR tq S (aT (a2 Int (List B))) (TC (n+1)) (enc (X:=Cond)) qdo:=by
 rintro⟨L,deep,lb⟩ ⟨hn,E,F,q⟩;simp only at hn E F q;simp[tR,tq,h1];intro b6 k0 W Y;refine bh (X:=Int) [0,1,2,6] [6] (λk=>0<=k/\k< 12/\(deep< 1->k< 8)) (λk=>[(7,enc k)]) (λ_=>[]) ?_ ?_
 ·simp;grind
 rintro k ⟨q0,q1,q2⟩;refine bh (X:=Unit) [0,1,2,6,7] [6] (λ_=>10<=k) (λ_=>[]) (λ_=>[]) ?_ ?_
 ·simp;refine bh (X:=Bool) [0,1,2,6,7,15] [6] (λb=>b=decide (k< 4)) (λb=>[(16,enc b)]) (λ_=>[]) ?_ ?_;simp;omega;rintro b hb;simp[h1,Sh,YE,qtO,qo7,mO,rN,-fB'];refine⟨λ_ y c d=>⟨c,d,λa r y c d=>⟨c,d,λI s y c d=>gm [] (.nil _) (.atom _ _ (.val a I _ (qFE r) (qFD s)))⟩⟩,λp=>?_⟩;rw[p]at hb;have hb:4<=k:=by simpa using hb.symm
  refine⟨λ_ y c d=>⟨c,d,λa r=>gm [] (.nil _) (.atom _ _ (.feat a (qDe r)))⟩,λk4=>⟨λ_ _=>⟨λhl y c d=>⟨c,d,λa r _=>⟨by omega,λy C=>⟨by omega,by omega,λI s y c d=>⟨c,d,λJ A=>gm [] (.nil _) (.atom _ _ (.same a I J (qDf r) (aO s) (qDf A)))⟩⟩⟩⟩,λ_=>gm [] (.nil _) (.atom _ _ (.val LA _ false (by simp[Attr2]) (by simp[ValsI])))⟩,λk5=>?_⟩⟩;refine bh (X:=Bool) [0,1,2,6,7,15] [6] (λb=>b=decide (k=6\/k=7)) (λb=>[(67,enc b)]) (λ_=>[]) ?_ ?_
  ·simp
   repeat' first|apply And.intro|intro _
   all_goals first|omega|(rw[qGo];simp;omega)
  rintro b u;simp[h1,h2,-fB'];refine⟨λ_ y c d=>⟨trivial,λt U Z=>?_⟩,λp=>?_⟩
  ·refine bh (X:=B×B) [6,8] [6] (λx=>(x.1=E0/\x.2=E0)\/(x.1=qo6/\x.2∈NumL)) (λ_=>[]) (λx=>[(8, .box Z [.v (.int .i64 5), .v (.string t), .v (.string x.1), .v (.string x.2), .v (.string ⟨#[]⟩), .v (.bool false), .v (.slice none 0 0)])]) ?_ ?_
   ·simp[h1,Sh,mO,rN];refineλy c d=>⟨λ_ z K M=>⟨K,M,λa r=>⟨qo6,a, .inr ⟨rfl,qDd r⟩, .inl ⟨rfl,rfl⟩⟩⟩,λ_=>⟨E0,E0, .inl ⟨rfl,rfl⟩, .inl ⟨rfl,rfl⟩⟩⟩
   ·rintro⟨a,v⟩ N;simp;refine gm [] (.nil _) (.atom _ _ ?_);rcases N with⟨rfl,rfl⟩|⟨rfl,hv⟩
    ·exact .reg t U
    ·exact .regk t v U hv
  rw[p]at u;have u:¬(k=6\/k=7):=by simpa using u.symm
  refine bh (X:=Bool) [0,1,2,6,7,15] [6] (λb=>b=decide (k=8\/k=9)) (λb=>[(85,enc b)]) (λ_=>[]) ?_ ?_
  ·simp
   repeat' first|apply And.intro|intro _
   all_goals first|omega|(rw[qGo];simp;omega)
  rintro b l;simp[h3,-fB'];have j:1<=deep->TC n (L,deep -1,lb):=λh=>⟨by show(deep -1).toNat<n;omega,by show -10<=deep -1;omega,by show deep -1<=100;omega,q⟩
  refine⟨λO=>?_,λp=>?_⟩
  ·rw[O]at l;have l:k=8\/k=9:=by simpa using l.symm
   have w:deep.toNat=(deep -1).toNat+1:=by omega
   refine⟨by simp only[InR];omega,j (by omega),λy C=>gm [y] (by simp) (by show GI lb deep.toNat _;rw[w];exact .not _ _ C)⟩
  rw[p]at l;have l:¬(k=8\/k=9):=by simpa using l.symm
  omega
 ·rintro -hk;have j:TC n (L,deep -1,lb):=⟨by show(deep -1).toNat<n;omega,by show -10<=deep -1;omega,by show deep -1<=100;omega,q⟩
  have w:deep.toNat=(deep -1).toNat+1:=by omega
  simp[h3];refine⟨by simp only[InR];omega,by simp only[InR];omega,by simp only[InR];omega,j,λy C=>⟨by simp only[InR];omega,j,λy' Q=>gm [y,y'] (by simp) (by show GI lb deep.toNat _;rw[w];exact .two _ _ _ _ (by omega) C Q)⟩⟩
def qpI(x:List Int×Int×List B)(y:Cond):Prop:=GC x.2.2 x.2.1.toNat y
abbrev Ss:Spc:=ay (aT (a2 Int (List B))) (λx=> -10<=x.2.1/\x.2.1<=100/\x.2.2.length<=1000) (enc (X:=Cond)) qpI
abbrev LH:Spc:=ay (aT (a2 Int (List B))) (λx=>∃n,TC n x) (enc (X:=Cond)) qdo
theorem qfv(h1:S cq=s_m_Next)(h3:S lc=LH):aq wb uY S (aT (a2 Int (List B))) (λx=> -10<=x.2.1/\x.2.1<=100/\x.2.2.length<=1000) (enc (X:=Cond)) qpI:=by
 rintro⟨L,deep,lb⟩ ⟨b,c,d⟩;simp only at b c d;simp[wb,uY,h1];intro q;refine bh (X:=Unit) [0,1,2,6] [6] (λ_=>True) (λ_=>[]) (λ_=>[]) ?_ ?_
 ·simp[h1,qo7,mO,rN,-fB'];exactλy _ _=>⟨λ_=>gm [] (.nil _) .any,λ_=>⟨λ_ z j k=>⟨j,k,λa l u _ _=>gm [] (.nil _) (.top a _ (qEM l))⟩,λ_ _ z j k=>⟨j,k,λa l u _ _=>gm [] (.nil _) (.top a _ (qEM l))⟩⟩⟩
 ·rintro - -;have h:∃n,TC n (L,deep,lb):=⟨deep.toNat+1,Nat.lt_succ_self _,b,c,d⟩
  simp[h3,h];exactλy p=>gm y.kids (.same _) (by show GC lb deep.toNat _;rw[I5 y];exact .inner _ p)
def qq9{p:Pat}{C:Pat->Prop}(h1:¬p.op=1)(h2:p.kids=[]):∀y∈am p,C y:=by
 simp_all [aW]
def qq7{p:Pat}{C:Pat->Prop}(h1:p.op=1)(h:C p):∀y∈am p,C y:=by
 simp_all [aW]
def qq8{p a:Pat}{C:Pat->Prop}(h1:¬p.op=1)(h2:p.kids=[a])(b:∀y∈am a,C y):∀y∈am p,C y:=by
 simp_all [aW]
def qjJ{p a b:Pat}{C:Pat->Prop}(h1:¬p.op=1)(h2:p.kids=[a,b])(c:∀y∈am a,C y)(hb:∀y∈am b,C y):∀y∈am p,C y:=by
 rw[aW,if_neg h1,h2];grind
def Qx(x:List Int×Int×List B)(p:Pat):Prop:=qwp x p/\∀y∈am p,GC x.2.2 1 y.cond
abbrev HW(n:Nat):Spc:=ay (aT (a2 Int (List B))) (qfe n) (enc (X:=Pat)) Qx
theorem Ul(n:Nat)(h1:S cq=s_m_Next)(h2:S sO=yM)(h3:S xQ=Ss)(h4:S ig=HW n):aq qg oR S (aT (a2 Int (List B))) (qfe (n+1)) (enc (X:=Pat)) Qx:=by
 rintro⟨L,deep,lb⟩ ⟨hn,u,w,q⟩;simp only at hn u w q;simp[qg,oR,h1];intro U W J K;refine bh (X:=Int) [0,1,2,6] [6] (λk=>0<=k/\k< 14/\(deep< 1->k< 7)) (λk=>[(7,enc k)]) (λ_=>[]) ?_ ?_
 ·simp;grind
 rintro k ⟨Y,Z,q2⟩;refine bh (X:=Unit) [0,1,2,6] [6] (λ_=>12<=k) (λ_=>[]) (λ_=>[]) ?_ ?_
 ·have b:1<=deep->qfe n (L,deep -1,lb):=λh=>⟨by grind,by grind,by grind,q⟩
  have j:1<=deep->deep.toNat=(deep -1).toNat+1:=λh=>by omega
  simp[h1,h2,h3,h4,-fB'];refine⟨λhk=>⟨q,λc hc M=>?_⟩,λhk=>⟨λA=>⟨by grind [InR],by grind [InR],λy _ _=>⟨trivial,λt N=>D1 [] [] (.nil _) (.nil _) ⟨⟨qz6 (.inr ⟨by grind,rfl,rfl,N,rfl,rfl,rfl⟩),qjf qe0 rfl⟩,qq9 (by grind) rfl⟩⟩⟩,λA=>⟨λr=>⟨by grind [InR],b (by omega),λy p=>⟨by grind [InR],b (by omega),λs l=>?_⟩⟩,λr F=>⟨by grind [InR],b (by omega),λy p=>⟨by grind [InR],b (by omega),λs l=>?_⟩⟩⟩⟩⟩
  ·refine bh (X:=B) [6,8] [6] (λx=>x=⟨#[]⟩\/x∈lb) (λ_=>[]) (λx=>[(8, .box M [.v (.int .i64 1), .v (.int .i64 c.op), .v (.string c.name), .v (.string c.arg), .v (.string c.val), .v (.string c.lab), .v (.bool c.fold),enc c.kids, .v (.string x), .v (.string ⟨#[]⟩), .v (.int .i64 0), .v (.int .i64 0), .v (.slice none 0 0)])]) ?_ ?_
   ·simp[h1];exactλ_ h0 y _ _ _ _=>⟨by omega,λz hz=>⟨by omega,by omega,λa O=> .inr ⟨a,aO O, .inl rfl⟩⟩⟩
   ·rintro x Q;simp;exact D1 c.kids [] (.same _) (.nil _) ⟨⟨qz6 (.inl ⟨rfl,Q,rfl,rfl,rfl,rfl⟩),qjf ⟨_,qos (d:=c) rfl (qvg hc)⟩ rfl⟩,qq7 rfl (by show GC lb 1 _;rw[I5 c];exact hc)⟩
  ·refine D1 [] [y,s] (.nil _) (by simp) ?_;refine⟨⟨?_,qje (j (by omega)) qe0 rfl p.1.2 l.1.2⟩,qjJ (by show ¬(4:Int)=1;decide) rfl p.2 l.2⟩;show WP lb deep.toNat _;rw[j (by omega)];exact .inr (.inl ⟨.inl rfl,rfl,rfl,rfl,rfl,rfl,y,s,rfl,p.1.1,l.1.1⟩)
  ·refine D1 [] [y,s] (.nil _) (by simp) ?_;refine⟨⟨?_,qje (j (by omega)) qe0 rfl p.1.2 l.1.2⟩,qjJ (by show ¬(5:Int)=1;decide) rfl p.2 l.2⟩;show WP lb deep.toNat _;rw[j (by omega)];exact .inr (.inl ⟨.inr rfl,rfl,rfl,rfl,rfl,rfl,y,s,rfl,p.1.1,l.1.1⟩)
 ·rintro -hk;have b:qfe n (L,deep -1,lb):=⟨by show(deep -1).toNat<n;omega,by show -10<=deep -1;omega,by show deep -1<=100;omega,q⟩
  have j:deep.toNat=(deep -1).toNat+1:=by omega
  have tz:∀(mn mx:Int) (y:Pat) (H:ab),(mn,mx) ∈qbf->Qx (L,deep -1,lb) y->Fin enc (Qx (L,deep,lb)) (.agg [.v (.int .i64 6), .v (.int .i64 0), .v (.string ⟨#[]⟩), .v (.string ⟨#[]⟩), .v (.string ⟨#[]⟩), .v (.string ⟨#[]⟩), .v (.bool false), .v (.slice none 0 0), .v (.string ⟨#[]⟩), .v (.string ⟨#[]⟩), .v (.int .i64 mn), .v (.int .i64 mx), .list 13 [enc y]]) H:=by
   intro mn mx y H hm p;refine D1 [] [y] (.nil _) (by simp) ?_;refine⟨⟨?_,qqM j qe0 rfl p.1.2⟩,qq8 (by show ¬(6:Int)=1;decide) rfl p.2⟩;show WP lb deep.toNat _;rw[j];exact .inr (.inr ⟨rfl,rfl,rfl,rfl,hm,y,rfl,p.1.1⟩)
  simp only[qeP]at tz;simp[h1,h4];intro y C E;refine⟨C,E,λd I=>?_⟩;have:y=0\/y=1\/y=2\/y=3\/y=4\/y=5\/y=6:=by omega
  rcases this with rfl|rfl|rfl|rfl|rfl|rfl|rfl
  all_goals (simp at I;subst I;simp[h4])
  all_goals exact⟨by simp only[InR];omega,b,λy p=>tz _ _ y _ (by simp[qbf]) p⟩
end
section
open Go.Proofs
def Gy{f:Pat->Bool}(p:Pat)(h:cj f p=true):EE (λq=>f q=true) p:=by
 induction p using fJ with|_ p a=>?_
 rw[cT,qFS,qFT]at h;exact qnq h.1 λk hk=>a k hk (h.2 k hk)
def qge(p:Pat):EE rL p->∀q∈tw p,q.op=1->q∈am p:=by
 induction p using fJ with|_ p b=>?_
 intro a q hq h1;have hp:=Kl a;rw[aW];cases p with
 | mk op cond lab reg mn mx ks=>
   rw[tw]at hq;rcases qF5.1 hq with rfl|hq
   ·rw[if_pos h1];simp
   ·obtain⟨k,hk,hq⟩:=wF hq;split
    ·rename_i e;rcases hp with h|h|h|h
     ·have:=h.2.2.2.2;simp only at this;rw[this]at hk;cases hk
     ·have:=h.1;simp only at this e;omega
     ·have:=h.1;simp only at this e;omega
     ·have:=h.1;simp only at this e;omega
    ·exact qHE.2 ⟨k,hk,b k hk (OT a hk) q hq h1⟩
def qmM:Prop:=ax qzK=true/\ax qoM=true/\ax qzJ=true/\ax qr9=true/\ax qti=true
def yD{b:B}(h:(decide (1<=b.size) && decide (b.size<=32) && (b.data.toList.all λc=>Ne c.toNat))=true):ax b=true:=by
 simp only[qFS,decide_eq_true_eq,qFT]at h;have hm:∀(k:Nat) (c:UInt8),b.data[k]? =some c->Ne c.toNat=true:=λk c hc=>h.2 c (by rw[<-qGf]at hc;exact qFP hc)
 rw[Fu];exact⟨h.1.1,h.1.2,hm 0,λk c hc=>by unfold RR;rw[hm k c hc];rfl⟩
def qp6:qmM:=⟨yD (by decide),yD (by decide),yD (by decide),yD (by decide),yD (by decide)⟩
def VM{lb:List B} :∀{n:Nat} {c:Cond},GI lb n c->MW (n+1) c
 |n,_, .atom _ c h=>⟨by rw[wG h];decide,λk hk=>by rw[wG h]at hk;cases hk⟩
 | _,_, .not n k h=>⟨qFR rfl,λz hz=>by rw[qG3]at hz;subst hz;exact VM h⟩
 | _,_, .two n op a b _ h1 h2=>⟨qFR rfl,λz hz=>by
    simp only[qF5,qGi,or_false]at hz;rcases hz with rfl|rfl
    ·exact VM h1
    ·exact VM h2⟩
def qq2{lb:List B}{n:Nat}{c:Cond}(h:GC lb n c):∃m,MW m c:=by
 cases h with
 |any=>exact⟨1,by decide,λk hk=>by cases hk⟩
 |top v f h=>exact⟨1,qFR rfl,λk hk=>by cases hk⟩
 |inner c h=>exact⟨_,VM h⟩
structure qbn (c:Corpus):Prop where
 ok:OkCorp c
 few:c.toks.length<=60


open Cod (enc dec)
variable {S S0:Nat->Spc}
end
section
open Go.Proofs
def Il:FO ig [2006006] qg oR 103:=fo
open Go.Proofs Cod
variable {dq:Prop}
def Jm:TQ dq sO yM:=
 ac (ag (aa UE ae)) SM (qfu rfl)
def BC:∀n,TQ dq lc (Oy n)
 | 0=>bF λx h=>by have:=h.1;omega
 |n+1=>aY (ag (aa dz (aa Jm (aa (BC n) ae)))) MR (λ_=>qFR rfl) (qbH n rfl rfl rfl)
def Qi:TQ dq lc LH:=cw (λn=>BC n) (dB (λx h=>h))
def RW:TQ dq xQ Ss:=
 ac (ag (aa dz (aa Qi ae))) Pd (qfv rfl rfl)
def zr:∀n,TQ dq ig (HW n)
 | 0=>bF λx h=>by have:=h.1;omega
 |n+1=>aY (ag (aa dz (aa Jm (aa RW (aa (zr n) ae))))) Il (λ_=>qFR rfl) (Ul n rfl rfl rfl rfl)
end
section
open Go.Proofs


open Cod (enc dec)
variable {S S0:Nat->Spc}
end
section
open Go.Proofs Cod
variable {dq:Prop}
def EM:∀n,TQ dq mU (Nk n)
 | 0=>bF λx h=>qcy h.1
 |n+1=>aY (ag (aa (EM n) ae)) O3 (λ_=>qFR rfl) (QX n rfl)
def Re:TQ dq mU HO:=
 cw (λn=>EM n) (dB (λx h=>⟨dK x,qFU _,h⟩))
def EH:TQ dq mX DQ:=
 ac (ag (aa wZ (aa Re ae))) O9 (Q5 rfl rfl)
end
section
variable {S S0:Nat->Spc}
mutual
def fL:Glob->Nat| .mk _ _ _ _ _ _ _ _ _ _ ks=>lX ks+1
def lX:List Glob->Nat|[]=>0|k::ks=>max (fL k) (lX ks)
end
def DY:∀{ks:List Glob} {k:Glob},k∈ks->fL k<=lX ks
 | x::ks,k,h=>by
   rw[lX];rcases qF5.1 h with rfl|h
   ·omega
   ·have:=DY h;omega
def IL{p k:Glob}(h:k∈p.kids):fL k<fL p:=by
 have:=DY h;cases p;rw[fL];simp only at this;omega
mutual
def xI:Glob->Nat| .mk _ _ _ _ _ _ _ _ _ _ ks=>lV ks+1
def lV:List Glob->Nat|[]=>0|k::ks=>xI k+lV ks
end
def VK(x:Glob):xI x=lV x.kids+1:=by cases x;rw[xI]
def DZ(x:Glob):fL x=lX x.kids+1:=by cases x;rw[fL]
def KH:∀(a b:List Glob),lV (a++b)=lV a+lV b
 | [],b=>by rw[qGK,lV];omega
 |k::a,b=>by rw[qGN,lV,lV,KH a b];omega
def Tg:∀(a b:List Glob),lX (a++b)=max (lX a) (lX b)
 | [],b=>by rw[qGK,lX];omega
 |k::a,b=>by rw[qGN,lX,lX,Tg a b];omega
def SQ{ks:List Glob}{k:Nat}{x:Glob}(h:ks[k]? =some x):lV (ks.take (k+1))=lV (ks.take k) +xI x/\lX (ks.take (k+1))=max (lX (ks.take k)) (fL x)/\lV (ks.take (k+1))<=lV ks:=by
 have e:=au h;refine⟨by rw[e,KH,lV,lV];omega,by rw[e,Tg,lX,lX];omega,?_⟩
 conv=>rhs;rw[<-qGj (k+1) ks,KH]
 omega
def qkf{lb:List B}{n:Nat}{g:Glob}(h:GG lb n g):xI g< 2^ (n+1)/\fL g<=n+1:=by
 induction h with
 |not n k h j=>rw[xI,fL,Nat.pow_succ];simp only[lV,lX];omega
 |two n op a b ho h1 h2 c d=>rw[xI,fL,Nat.pow_succ];simp only[lV,lX];omega
 |bound n|val n|same n|dist n|reg n|head n|path n|node n|depth n=>have:=Nat.one_le_two_pow (n:=n);rw[xI,fL,Nat.pow_succ];simp only[lV,lX];omega
def We{lb:List B}{n:Nat}{g k:Glob}(h:GG lb n g)(hk:k∈g.kids):∃m,m<=n/\GG lb m k:=by
 cases h with
 | not n c h=>
   simp at hk;subst hk;exact⟨n,by omega,h⟩
 | two n op a b ho h1 h2=>
   simp at hk;rcases hk with rfl|rfl
   ·exact⟨n,by omega,h1⟩
   ·exact⟨n,by omega,h2⟩
 | _=>cases hk
end
section
open Go.Proofs
def rv:CC:=gq Tryz.f134 [3] {} _
def qD:List ai:=[.tmp 6, .tmp 7]
def Kt:FO jx [3] rv qD 40:=fo
def bQ:CC:=gq Tryz.f136 [1,2029005,2028005,2027005,2026005,2037005,2036005,2045005,2044005,2068005,2067005,2066005] {} _
def bO:List ai:=[.tmp 2]
def RD:FO eu [1,2029005,2028005,2027005,2026005,2037005,2036005,2045005,2044005,2068005,2067005,2066005] bQ bO 155:=fo
def vW:CC:=gq Tryz.f135 [3,2] {} _
def uU:List ai:=[.tmp 4]
def O8:FO mW [3,2] vW uU 15:=fo
def rA:CC:=gq Tryz.f199 [2] {} _
def qF:List ai:=[.tmp 3]
def Kv:FO ga [2] rA qF 8:=fo
def dy:CC:=gq Tryz.f198 [] {} _
def dv:List ai:=[.tmp 4]
def od:FO dD [] dy dv 9:=fo
def ee:CC:=gq Tryz.f257 [] {} _
def dW:List ai:=[.tmp 4]
def qR:FO eH [] ee dW 19:=fo
def ll:CC:=gq Tryz.f201 [] {} _
def kJ:List ai:=[.tmp 2]
def CG:FO fb [] ll kJ 10:=fo
def eL:CC:=gq Tryz.f200 [] {} _
def eD:List ai:=[.tmp 4]
def sy:FO eY [] eL eD 9:=fo
def fE:CC:=gq Tryz.f258 [] {} _
def fw:List ai:=[.tmp 4]
def vi:FO fQ [] fE fw 19:=fo
open Cod (enc dec)
variable {S S0:Nat->Spc}
abbrev qdw(x:Glob):Prop:=∃lb m,GG lb m x
abbrev qd9:Spc:=ay (a1 Glob) qdw (enc (X:=Bool)) λx y=>y=true
set_option maxHeartbeats 1000000 in
theorem Q4:aq bQ bO S (a1 Glob) qdw (enc (X:=Bool)) λx y=>y=true:=by
 rintro x ⟨lb,m,h⟩;cases h with
 |bound n a h=>simp[bQ,bO,E0,-fB',-eB']
 |val n a v f h1 h2=>simp[bQ,bO,E0,-fB',-eB']
 |same n a b g h1 h2 h3=>simp[bQ,bO,E0,-fB',-eB']
 |dist n a b mn mx h1 h2 h3 h4 h5 h6=>simp[bQ,bO,E0,-fB',-eB']
 |reg n a b t h1 h2 h3=>simp[bQ,bO,E0,-fB',-eB']
 |path n a b l h1 h2 h3 h4=>simp[bQ,bO,E0,-fB',-eB']
 |node n a b t h1 h2 h3=>simp[bQ,bO,E0,-fB',-eB']
 |depth n a mn mx h1 h3 h4 h5 h6=>simp[bQ,bO,E0,-fB',-eB']
 |head n op a b ho h1 h2=>rcases ho with rfl|rfl<;>simp[bQ,bO,E0,-fB',-eB']
 |not n k h=>simp[bQ,bO,E0,-fB',-eB']
 |two n op a b ho h1 h2=>rcases ho with rfl|rfl<;>simp[bQ,bO,E0,-fB',-eB']
def qwu(n:Nat)(x:Glob×Int×Int):Prop:=fL x.1<=n/\0<=x.2.1/\x.2.1+xI x.1<=60/\0<=x.2.2/\x.2.2+fL x.1<=1000/\fL x.1<=60
abbrev Y2(n:Nat):Spc:=ay (a3 Glob Int Int) (qwu n) (io (Y:=Int) (Z:=Int)) λx y=>y=(x.2.1+xI x.1,x.2.2+fL x.1 -1)
abbrev Y3:Spc:=ay (a3 Glob Int Int) (λx=>∃n,qwu n x) (io (Y:=Int) (Z:=Int)) λx y=>y=(x.2.1+xI x.1,x.2.2+fL x.1 -1)
theorem JQ(n:Nat)(h1:S jx=Y2 n):aq rv qD S (a3 Glob Int Int) (qwu (n+1)) (io (Y:=Int) (Z:=Int)) λx y=>y=(x.2.1+xI x.1,x.2.2+fL x.1 -1):=by
 rintro⟨x,nodes,deep⟩ ⟨hn,h0,h2,h3,h4,h5⟩;simp only at hn h0 h2 h3 h4 h5;have j:=DZ x;have l:=VK x;simp[rv,qD];refine⟨by grind [Spc,InR],λp=>?_⟩;refine ah (X:=Int×Int) [2,17] [] x.kids.length (λk z=>z.1=nodes+1+ (lV (x.kids.take k):Int)/\z.2=deep+ (lX (x.kids.take k):Int)) (λz=>[(1,enc z.1),(8,enc z.2)]) (λ_=>[]) (nodes+1,deep) (by simp[lV,lX]) ?_ ?_
 ·rintro k ⟨m,d⟩ hk ⟨q,h⟩;simp only at q h;obtain⟨y,b⟩:=aU hk;obtain⟨_,c⟩:=qFN.1 b;have hm:=SQ b;have r:=DY (aO b);have hp:qwu n (y,m,deep+1):=⟨by show fL y<=n;omega,by show 0<=m;omega,by show m+xI y<=60;omega,by show 0<=deep+1;omega,by show deep+1+fL y<=1000;omega,by show fL y<=60;omega⟩
  have a:¬60<m:=by have:=VK y;omega
  simp[h1,hk,b,c,hp,a];exact⟨by simp only[InR];omega,by omega,by rw[hm.2.1,h];omega⟩
 simp;omega
def qkd(x:Glob):D.agg [D.v (Value.int IntKind.i64 x.op),D.v (Value.string x.a),D.v (Value.string x.b),D.v (Value.string x.name),D.v (Value.string x.arg),D.v (Value.string x.val),D.v (Value.bool x.fold),D.v (Value.int IntKind.i64 x.mn),D.v (Value.int IntKind.i64 x.mx),D.list 1 (List.map enc x.args),D.list 11 (List.map enc x.kids)]=enc x:=by simp
def QC(S0:Nat->Spc)(x:List Glob×D×Unit):Prop:=FunOnP S0 x.2.1 x.1 λ_=>false
abbrev qiM(S0:Nat->Spc):Spc:=ay (aE (List Glob) (aD a0)) (QC S0) (enc (X:=Int)) λx y=>y= -1
def sd:aq ee dW S (aE (List Glob) (aD a0)) (QC S) (enc (X:=Int)) λx y=>y= -1:=by
 rintro⟨l,d,⟨⟩⟩ hp;replace hp:FunOnP S d l λ_=>false:=hp
 simp[ee,dW,-fB',-eB'];intro h;refine ah (X:=Unit) [0,1] [] l.length (λk _=>True) (λ_=>[]) (λ_=>[]) () (by simp) ?_ ?_
 ·rintro k -hk -;obtain⟨y,a⟩:=aU hk;obtain⟨_,c⟩:=qFN.1 a;simp[hk,a,c,-fB',-eB'];rw[qkd y];refine hp.useB y (aO a) λb hb=>?_
  grind [RJ]
 simp
abbrev qiP(S0:Nat->Spc):Spc:=ay (aE (List Glob) (aD a0)) (QC S0) (enc (X:=Bool)) λx y=>y=false
def oj(h1:S eH=qiM S0):aq dy dv S (aE (List Glob) (aD a0)) (QC S0) (enc (X:=Bool)) λx y=>y=false:=by
 rintro⟨l,d,⟨⟩⟩ hp;simp_all [dy,dv]
def qst(n:Nat)(x:Glob):Prop:=fL x<=n/\qdw x
abbrev Zh(n:Nat):Spc:=ay (aE Glob (aD a0)) (λx=>qst n x.1/\x.2.1= .clo eu []) (enc (X:=Bool)) λx y=>y=true
abbrev Zi:Spc:=ay (aE Glob (aD a0)) (λx=>(∃n,qst n x.1)/\x.2.1= .clo eu []) (enc (X:=Bool)) λx y=>y=true
abbrev OG(n:Nat):Spc:=ay (aE Glob (aD a0)) (λx=>qst n x.1/\x.2.1= .cptr [.clo eu []] 0) (enc (X:=Bool)) λx y=>y=false
def Mm(n:Nat)(h1:S mW=Zh n):aq rA qF S (aE Glob (aD a0)) (λx=>qst n x.1/\x.2.1= .cptr [.clo eu []] 0) (enc (X:=Bool)) λx y=>y=false:=by
 rintro⟨x,d,⟨⟩⟩ ⟨a,b⟩;simp_all [rA,qF]
def Q3(n:Nat)(h0:S0 ga=OG n)(h1:S dD=qiP S0)(h2:S eu=qd9):aq vW uU S (aE Glob (aD a0)) (λx=>qst (n+1) x.1/\x.2.1= .clo eu []) (enc (X:=Bool)) λx y=>y=true:=by
 rintro⟨x,d,⟨⟩⟩ ⟨⟨hn,b⟩,c⟩;simp only at hn b c;subst c;have hk:∀k∈x.kids,qst n k:=λk hk=>by
  have:=IL hk;obtain⟨lb,m,h⟩:=b;obtain⟨j,_,h2⟩:=We h hk;exact⟨by omega,lb,j,h2⟩
 have hO:FunOnP S0 (.clo ga [.cptr [.clo eu []] 0]) x.kids λ_=>false:=
  KQ h0 (λk a=>⟨hk k a,rfl⟩) (λ_ _ y l=>l)
 have p:QC S0 (x.kids, .clo ga [.cptr [.clo eu []] 0],()):=hO;simp_all [vW,uU]
abbrev qdU:Spc:=ay (a1 Glob) (λg=>g=GlobE\/qdw g) (enc (X:=Bool)) λx y=>y=decide (x.op=0)
set_option maxHeartbeats 1000000 in
def QZ:aq jF jD S (a1 Glob) (λg=>g=GlobE\/qdw g) (enc (X:=Bool)) λx y=>y=decide (x.op=0):=by
 rintro x (rfl|⟨lb,m,h⟩);simp[jF,jD,GlobE,E0]
 ·have:x.op≠0:=by cases h<;>simp<;>omega
  simp[jF,jD,this,-fB',-eB']
abbrev Zj:Spc:=ay (a1 Glob) (λg=>g=GlobE\/ ∃lb,GG lb 2 g) (enc (X:=Bool)) λx y=>y=true
def NQ(h1:S pH=qdU)(h2:S jx=Y3)(h3:S mW=Zi):aq iw hU S (a1 Glob) (λg=>g=GlobE\/ ∃lb,GG lb 2 g) (enc (X:=Bool)) λx y=>y=true:=by
 rintro x (rfl|⟨lb,h⟩)
 ·have a:GlobE=GlobE\/qdw GlobE:= .inl rfl;have d:GlobE.op=0:=rfl;simp[iw,hU,h1,a,d,-fB',-eB'];exact .inl rfl
 ·have c:=qkf h;have a:x=GlobE\/qdw x:= .inr ⟨lb,2,h⟩;have b:x.op≠0:=by cases h<;>simp<;>omega
  have j:∃n,qwu n (x,0,1):=⟨fL x,qFU _,qGT _,by grind,by simp,by grind,by grind⟩
  have k:∃n,qst n x:=⟨fL x,qFU _,lb,2,h⟩
  have l:(xI x:Int)<=60:=by omega
  have p:(1:Int) +fL x -1<=20:=by omega
  simp[iw,hU,h1,h2,h3,a,b,j,k,l,p,-fB',-eB']
def CY{x:B} :(x∈Types\/x∈qbm\/(x∈WW/\x≠ ⟨#[]⟩))->ax x=true:=by
 have a:∀b:B,(decide (1<=b.size) && decide (b.size<=32) && (b.data.toList.all λc=>Ne c.toNat))=true->ax b=true:=λb h=>yD h
 rintro(h|h|⟨h,hn⟩)
 ·simp only[Types,qF5,qGi,or_false]at h;rcases h with rfl|rfl|rfl<;>exact a _ (by decide)
 ·simp only[qbm,qF5,qGi,or_false]at h;rcases h with rfl|rfl|rfl<;>exact a _ (by decide)
 ·simp only[WW,qF5,qGi,or_false]at h;rcases h with rfl|rfl|rfl
  ·exact a _ (by decide)
  ·exact a _ (by decide)
  grind
def qcM{v:B}(h:v∈QD):∃r,ms v=some r:=by
 have e:∀v∈QD,(ms v).isSome=true:=by decide
 grind [Option.isSome_iff_exists]
abbrev qcm:Spc:=ay (a1 B) (λs=>s∈WW) (enc (X:=Bool)) λ_ y=>y=false
def qp2(h1:S bM=oq):aq ll kJ S (a1 B) (λs=>s∈WW) (enc (X:=Bool)) λ_ y=>y=false:=by
 rintro s hs;have hs:s∈WW:=hs;have a:s≠ ⟨#[]⟩->ax s=true:=λh=>CY (.inr (.inr ⟨hs,h⟩))
 simp_all [ll,kJ]
def PH{X:Type}[Cod X]{S:Nat->Spc}{g:Nat}{l:List X}{pre:X->Prop}{q:X->Bool}{post:X->Bool->Prop}(h:S g=ay (a1 X) pre enc post)(hp:∀x∈l,pre x)(c:∀x∈l,∀y,post x y->y=q x):FunOnP S (.clo g []) l q:=by
 refine⟨g, [],_,rfl,h,λx a=>⟨⟨x,by simp,hp x a⟩,λr b=>?_⟩⟩;obtain⟨y,rfl,d⟩:=b x (by simp) (hp x a);grind
def QB(S0:Nat->Spc)(x:List B×D×Unit):Prop:=FunOnP S0 x.2.1 x.1 λ_=>false
abbrev qiL(S0:Nat->Spc):Spc:=ay (aE (List B) (aD a0)) (QB S0) (enc (X:=Int)) λx y=>y= -1
def qp3:aq fE fw S (aE (List B) (aD a0)) (QB S) (enc (X:=Int)) λx y=>y= -1:=by
 rintro⟨l,d,⟨⟩⟩ hp;replace hp:FunOnP S d l λ_=>false:=hp
 simp[fE,fw,-fB',-eB'];intro h;refine ah (X:=Unit) [0,1] [] l.length (λk _=>True) (λ_=>[]) (λ_=>[]) () (by simp) ?_ ?_
 ·rintro k -hk -;obtain⟨y,a⟩:=aU hk;obtain⟨_,c⟩:=qFN.1 a;simp[hk,a,c,-fB',-eB'];refine hp.useB y (aO a) λb hb=>?_
  obtain rfl:b=false:=hb _ hp;simp
 simp
abbrev qiO(S0:Nat->Spc):Spc:=ay (aE (List B) (aD a0)) (QB S0) (enc (X:=Bool)) λx y=>y=false
def qp4(h1:S fQ=qiL S0):aq eL eD S (aE (List B) (aD a0)) (QB S0) (enc (X:=Bool)) λx y=>y=false:=by
 rintro⟨l,d,⟨⟩⟩ hp;simp_all [eL,eD]
def D9(S0:Nat->Spc)(x:List Filt×D×Unit):Prop:=FunOnP S0 x.2.1 x.1 λ_=>false
abbrev qec(S0:Nat->Spc):Spc:=ay (aE (List Filt) (aD a0)) (D9 S0) (enc (X:=Int)) λx y=>y= -1
def qku(x:Filt):D.agg [D.v (Value.int IntKind.i64 x.op),D.v (Value.bool x.neg),D.v (Value.string x.reg)]=enc x:=by simp
def qmB:aq ck bY S (aE (List Filt) (aD a0)) (D9 S) (enc (X:=Int)) λx y=>y= -1:=by
 rintro⟨l,d,⟨⟩⟩ hp;replace hp:FunOnP S d l λ_=>false:=hp
 simp[ck,bY,-fB',-eB'];intro h;refine ah (X:=Unit) [0,1] [] l.length (λk _=>True) (λ_=>[]) (λ_=>[]) () (by simp) ?_ ?_
 ·rintro k -hk -;obtain⟨y,a⟩:=aU hk;obtain⟨_,c⟩:=qFN.1 a;simp[hk,a,c,-fB',-eB'];rw[qku y];refine hp.useB y (aO a) λb hb=>?_
  grind [RJ]
 simp
abbrev UV(S0:Nat->Spc):Spc:=ay (aE (List Filt) (aD a0)) (D9 S0) (enc (X:=Bool)) λx y=>y=false
def qmC(h1:S cH=qec S0):aq bK bJ S (aE (List Filt) (aD a0)) (D9 S0) (enc (X:=Bool)) λx y=>y=false:=by
 rintro⟨l,d,⟨⟩⟩ hp;simp_all [bK,bJ]
abbrev UO:Spc:=ay (a1 Filt) GF (enc (X:=Bool)) λ_ y=>y=false
def qmt:aq yj xt S (a1 Filt) GF (enc (X:=Bool)) λ_ y=>y=false:=by
 rintro f ⟨h,_⟩;have h1:¬f.op< 1:=by omega
 have h2:¬3<f.op:=by omega
 simp_all [yj,xt]
abbrev UR:Spc:=ay (a1 Filt) GF (enc (X:=Bool)) λ_ y=>y=false
def qmw(h1:S bM=oq):aq iv gZ S (a1 Filt) GF (enc (X:=Bool)) λ_ y=>y=false:=by
 rintro f ⟨_,h⟩;simp_all [CY,iv,gZ]
def yq(x:Glob×List Attr×List B):Prop:=x.2.1=att3/\(x.1=GlobE\/ ∃n,GG x.2.2 n x.1)
abbrev Zc:Spc:=ay (a3 Glob (List Attr) (List B)) yq (enc (X:=Int)) λ_ y=>y=0
def qa6{g:B}(h:g∈Attr2):0<=dT att3 g:=by
 simp only[Attr2,qF5,qGi,or_false]at h;rcases h with rfl|rfl<;>decide
def dC{l:List B}{x:B}(h:x∈l):pw l x=true:=by
 grind [pw]
set_option maxHeartbeats 4000000 in
theorem qhA(h1:S bb=qcl)(h2:S bT=DP)(h3:S bM=oq)(h4:S eY=qiO S0)(h5:S rZ=qdZ)(h0:S0 fb=qcm):
 aq aC aB S (a3 Glob (List Attr) (List B)) yq (enc (X:=Int)) λ_ y=>y=0:=by
 rintro⟨g,a,lb⟩ ⟨ha,hg⟩;simp only at ha hg;subst ha;have hw:(0:Int)<=dT att3 uF:=by decide
 rcases hg with rfl|⟨n,hg⟩;simp[aC,aB,GlobE];cases hg with
 |bound n a h=>simp[aC,aB,h1,dC h,-fB',-eB']
 | val n a v f k1 k2=>
   have hx:=qcM k2;simp[aC,aB,h1,h2,h5,dC k1,hw,hx,-fB',-eB']
 |same n a b g k1 k2 k3=>simp[aC,aB,h1,h2,dC k1,dC k2,hw,qa6 k3,-fB',-eB']
 | dist n a b mn mx k1 k2 k3 k4 k5 k6=>
   have e:¬mx<mn:=by omega
   simp[aC,aB,h1,dC k1,dC k2,e,-fB',-eB']
 |reg n a b t k1 k2 k3=>simp[aC,aB,h1,h3,dC k1,dC k2,CY (.inl k3),-fB',-eB']
 | path n a b l k1 k2 k3 k4=>
   have hP:QB S0 (l, .clo fb [],()):=PH h0 (λx hx=>k4 x hx) λ_ _ y hy=>hy
   simp[aC,aB,h1,h4,dC k1,dC k2,hP,-fB',-eB']
 |node n a b t k1 k2 k3=>simp[aC,aB,h1,h3,dC k1,dC k2,CY (.inr (.inl k3)),-fB',-eB']
 | depth n a mn mx k1 k3 k4 k5 k6=>
   have e1:¬mx<mn:=by omega
   have e2:¬mn< 0:=by omega
   simp[aC,aB,h1,dC k1,e1,e2,-fB',-eB']
 |head n op a b ho k1 k2=>rcases ho with rfl|rfl<;>simp[aC,aB,h1,dC k1,dC k2,-fB',-eB']
 |not n k h=>simp[aC,aB,-fB',-eB']
 |two n op a b ho k1 k2=>rcases ho with rfl|rfl<;>simp[aC,aB,-fB',-eB']
abbrev qd6(n:Nat):Spc:=ay (a3 Glob (List Attr) (List B)) (λx=>fL x.1<=n/\yq x) (enc (X:=Int)) λ_ y=>y=0
abbrev Zd:Spc:=ay (a3 Glob (List Attr) (List B)) yq (enc (X:=Int)) λ_ y=>y=0
def qmy(n:Nat)(h1:S gy=Zc)(h2:S eb=qd6 n):aq gC gg S (a3 Glob (List Attr) (List B)) (λx=>fL x.1<=n+1/\yq x) (enc (X:=Int)) λ_ y=>y=0:=by
 rintro⟨g,a,lb⟩ ⟨hn,d⟩;simp only at hn;have c:=d;obtain⟨j,b⟩:=c;simp only at j b;subst j;have hk:∀k∈g.kids,fL k<=n/\yq (k,att3,lb):=λk hk=>by
  have:=IL hk;rcases b with rfl|⟨m,h⟩
  ·cases hk
  ·obtain⟨l,_,h2⟩:=We h hk;exact⟨by omega,rfl, .inr ⟨l,h2⟩⟩
 simp[gC,gg,h1,d,-fB',-eB'];intro p;refine ah (X:=Unit) [1,2,19] [] g.kids.length (λ_ _=>True) (λ_=>[]) (λ_=>[]) () trivial ?_ ?_;simp_all;simp
structure qbd (a:List Attr) (q:Qry):Prop where
 glob:q.glob=GlobE\/GG (bp q.pat []) 2 q.glob
 filts:∀f∈q.filts,GF f
 strat:0<=q.strat/\q.strat< 4
 pat:eP ax q.pat=true
 size:fu q.pat<=256
 l3:(bp q.pat []).length<=3
 num:cX q.pat<=1000000
 att:a=att3
 lv:∀x∈am q.pat,ql4 a (bp q.pat []) x.cond=true/\∃n,MW n x.cond
structure qsy (q:Qry):Prop where
 filts:∀f∈q.filts,GF f
 strat:0<=q.strat/\q.strat< 4
 pat:eP ax q.pat=true
 size:fu q.pat<=256
 l3:(bp q.pat []).length<=3
 num:cX q.pat<=1000000
abbrev qd4:Spc:=ay (a1 Qry) qsy (enc (X:=Int)) λ_ y=>y=0
theorem qmv{N N2:Nat->Spc}(h0:N dA=DO)(d:N cZ=yL)(b:N2 dF=UR)(h1:S mZ=Np)(h2:S fp=Cl N)(h3:S iW=zM)(h4:S da=s_qlabels)(h5:S aP=UV N2):
 aq dR dN S (a1 Qry) qsy (enc (X:=Int)) λ_ y=>y=0:=by
 rintro q a;have f1:FunIs N (.clo dA []) (mS ax):=vo h0 λ_=>trivial
 have p:FunIs N (.clo cZ []) lK:=vo d λ_=>trivial
 have r:D9 N2 (q.filts, .clo dF [],()):=PH b (λx s=>a.filts x s) λ_ _ y h=>h
 have hp:=a.pat;unfold eP at hp;simp only[qFS]at hp;obtain⟨⟨⟨t,u⟩,w⟩,A⟩:=hp;have j:=a.size;have c:¬256<fu q.pat:=by omega
 have C:=a.l3;have E:¬q.strat< 0:=by have:=a.strat;omega
 have F:¬3<q.strat:=by have:=a.strat;omega
 have k:qlW q.pat []:=by show 0+cX q.pat<=1000000;have:=a.num;omega
 simp[dR,dN,h1,t,u,h2,E,F,h3,a.pat,j,c,h5,r,-fB',-eB'];refine⟨⟨_,f1⟩,λy h=>⟨λ_=>⟨⟨_,p⟩,λz hz=>⟨by rw[hz _ p,A],λ_=>?_⟩⟩,by rw[h _ f1,w]⟩⟩;simp[h4,-fB',-eB'];refine .inl ⟨k,λl hl _=>?_⟩;have hl:l=bp q.pat []:=hl;subst hl;omega
theorem qmp{N:Nat->Spc}(h0:N pI=UO)(h1:S eI=qd4)(h2:S da=s_qlabels)(h3:S dE=s_leavesQ)(h4:S eJ=US)(h5:S aP=UV N)(h6:S mY=Zj)(w:S eb=Zd):
 aq gD gh S (a2 Qry (List Attr)) (λx=>qbd x.2 x.1) (enc (X:=Int)) λ_ y=>y=0:=by
 rintro⟨q,a⟩ b;have b:qbd a q:=b;have A:qsy q:=⟨b.filts,b.strat,b.pat,b.size,b.l3,b.num⟩
 have j:qlW q.pat []:=by show 0+cX q.pat<=1000000;have:=b.num;omega
 have C:(am q.pat).length<=cX q.pat:=iR q.pat;have p:qha q.pat []:=⟨by have:=b.num;simp;omega,λy c=>(b.lv y c).2⟩
 have E:D9 N (q.filts, .clo pI [],()):=PH h0 (λx d=>b.filts x d) λ_ _ y c=>c
 have F:q.glob=GlobE\/ ∃lb,GG lb 2 q.glob:=b.glob.imp id λh=>⟨_,h⟩
 have I:yq (q.glob,a,bp q.pat []):=⟨b.att,b.glob.imp id λh=>⟨_,h⟩⟩
 have r:a.length<=1000:=by rw[b.att];decide
 simp[gD,gh,h1,A,h2,-fB',-eB'];refine .inl ⟨j,λl hl=>?_⟩;have hl:l=bp q.pat []:=hl;subst hl;simp[h3,-fB',-eB'];refine .inl ⟨p,?_⟩;intro J;refine ah (X:=Unit) [1,2,6,20] [] (bA q.pat).length (λ_ _=>True) (λ_=>[]) (λ_=>[]) () trivial ?_ ?_
 ·rintro k ⟨⟩ hk -;obtain⟨x,d⟩:∃x,(bA q.pat)[k]? =some x:=⟨_,qFQ hk⟩
  obtain⟨_,s⟩:=qFN.1 d;have t:=qFP d;obtain⟨y,c,rfl⟩:=qFV.1 t;have u:Xc ((mC y).cond,a,bp q.pat []):=⟨(b.lv y c).1,r⟩
  simp[hk,d,s,h4,u,-fB',-eB'];exact u
 ·rintro⟨⟩ -;simp[h5,h6,w,E,F,I,-fB',-eB']
end
section
open Go.Proofs
def Lf:CC:=gq Tryz.f29 [] {} _
def Kj:List ai:=[.cell 4 true 13]
def qf6:FO Df [] Lf Kj 30:=fo
def Bc:CC:=gq Tryz.f65 [] {} _
def Aj:List ai:=[.cell 4 true 7]
def VC:FO sM [] Bc Aj 45:=fo
def wc:CC:=gq Tryz.f28 [2] { bx:=[1,43],cu:=[1] } _
def uZ:List ai:=[.tmp 4]
def Pe:FO rf [2] wc uZ 46:=fo
def lq:CC:=gq Tryz.f30 [2006006,2112011,1111111] { cu:=[2,5] } _
def kM:List ai:=[.cell 6 true 11]
def CL:FO fe [2006006,2112011,1111111] lq kM 159:=fo
def rF:CC:=gq Tryz.f31 [] {} _
def qK:List ai:=[.cell 2 true 3]
def KB:FO tB [] rF qK 13:=fo
def tT:CC:=gq Tryz.f8 [1049049,2050007] { bx:=[18],fz:=[(18,1)],cu:=[2,7,9] } _
def tt:List ai:=[.cell 4 true 26]
def MT:FO vC [1049049,2050007] tT tt 52:=fo
open Cod (enc dec)
variable {S S0:Nat->Spc}
def qlQ(n:Nat)(x:Cond×List B):Prop:=0<n/\CS (n -1) x.1
def qds(n:Nat)(x:Pat×List B):Prop:=0<n/\PD (n -1) x.1
def qpN(x:Pat)(l:List B):Prop:=l.length+cX x<=1000000
def QA(n:Nat)(x:List Int×Int×List B):Prop:=x.2.1.toNat<n/\ -10<=x.2.1/\x.2.1<=100/\1<=x.2.2.length/\x.2.2.length<=1000000
def js{q:Glob->Prop}{H:ab}{op mn mx:Int}{a b n g v:B}{f:Bool}{d e:D}(c:List B)(ks:List Glob)(j:FrzTo H d (enc c))(he:FrzTo H e (enc ks))(h:q ⟨op,a,b,n,g,v,f,mn,mx,c,ks⟩):
 Fin enc q (.agg [.v (.int .i64 op), .v (.string a), .v (.string b), .v (.string n), .v (.string g), .v (.string v), .v (.bool f), .v (.int .i64 mn), .v (.int .i64 mx),d,e]) H:=by
 refine aM (⟨op,a,b,n,g,v,f,mn,mx,c,ks⟩:Glob) ?_ h;rw[qas];refine .agg rfl λk x y l p=>?_
 rcases k with _|_|_|_|_|_|_|_|_|_|_|k;simp_all;simp_all;simp_all;simp_all;simp_all;simp_all;simp_all;simp_all;simp_all;simp_all;simp_all;simp_all
end
end Go.Gv
