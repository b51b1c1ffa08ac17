/- W191 -/
import Derived.Test.YtfpmgnnippjblaaGreatDoorGc22
set_option linter.all false
set_option maxRecDepth 100000
set_option maxHeartbeats 0
open Bool renaming forall_bool → fB', exists_bool → eB'
namespace Go.Gv
section
open Go.Proofs
open Cod (enc dec)
variable {S S0:Nat->Spc}
abbrev qiQ:Spc:=ax (a1 Glob) (λg=>g=GlobE) (enc (X:=Bool)) λx y=>y=true
def Uy:aq jH jF S (a1 Glob) (λg=>g=GlobE) (enc (X:=Bool)) λx y=>y=true:=by
 rintro x rfl;simp[jH,jF,GlobE,E0,-fB']
abbrev qer:Spc:=ax (a1 Glob) (λg=>g=GlobE) (enc (X:=Bool)) λx y=>y=true
def Rm(h1:S pI=qiQ):aq ix ia S (a1 Glob) (λg=>g=GlobE) (enc (X:=Bool)) λx y=>y=true:=by
 rintro x rfl;simp[ix,ia,h1,-fB']
abbrev qi8:Spc:=ax (aE (List Filt) (aD a0)) (λx=>x.1=[]) (enc (X:=Int)) λx y=>y= -1
def wA:aq cn ca S (aE (List Filt) (aD a0)) (λx=>x.1=[]) (enc (X:=Int)) λx y=>y= -1:=by
 rintro⟨l,d,⟨⟩⟩ h;have h:l=[]:=h;subst h;simp[cn,ca,-fB'];refine ah (X:=Unit) [] [] 0 (λ_ _=>True) (λ_=>[]) (λ_=>[]) () trivial (λk x hk=>absurd hk (by omega)) (λ_ _=>?_);simp
abbrev qcz:Spc:=ax (aE (List Filt) (aD a0)) (λx=>x.1=[]) (enc (X:=Bool)) λx y=>y=false
def sY(h1:S cH=qi8):aq bK bJ S (aE (List Filt) (aD a0)) (λx=>x.1=[]) (enc (X:=Bool)) λx y=>y=false:=by
 rintro⟨l,d,⟨⟩⟩ h;have h:l=[]:=h;subst h;simp[bK,bJ,h1,-fB']
abbrev qi2:Spc:=ax (a3 Glob (List Attr) (List B)) (λx=>x.1=GlobE) (enc (X:=Int)) λ_ y=>y=0
abbrev qem:Spc:=ax (a3 Glob (List Attr) (List B)) (λx=>x.1=GlobE) (enc (X:=Int)) λ_ y=>y=0
structure qDT (q:Qry):Prop where
 filts:q.filts=[]
 strat:q.strat=0
 pat:eX ay q.pat=true
 size:fO q.pat<=256
 l3:(bp q.pat []).length<=3
 num:cK q.pat<=1000000
abbrev qi1:Spc:=ax (a1 Qry) qDT (enc (X:=Int)) λ_ y=>y=0
theorem qqj{N:Nat->Spc}(h0:N dA=D2)(c:N da=yY)(h1:S na=NC)(h2:S fp=CD N)(h3:S iX=zY)(h4:S db=s_qlabels)(h5:S aQ=qcz):
 aq dS dO S (a1 Qry) qDT (enc (X:=Int)) λ_ y=>y=0:=by
 rintro q a;have f1:FunIs N (.clo dA []) (mT ay):=vA h0 λ_=>trivial
 have j:FunIs N (.clo da []) lJ:=vA c λ_=>trivial
 have hp:=a.pat;unfold eX at hp;simp only[qF9]at hp;obtain⟨⟨⟨k,p⟩,r⟩,s⟩:=hp;have d:=a.size;have b:¬256<fO q.pat:=by omega
 have t:=a.l3;have h:qme q.pat []:=by show 0+cK q.pat<=1000000;have:=a.num;omega
 simp[dS,dO,h1,k,p,h2,a.filts,a.strat,h3,a.pat,d,b,h5,-fB',-eB'];refine⟨⟨_,f1⟩,λy u=>⟨λ_=>⟨⟨_,j⟩,λz hz=>⟨by rw[hz _ j,s],λ_=>?_⟩⟩,by rw[u _ f1,r]⟩⟩;simp[h4,-fB',-eB'];refine .inl ⟨h,λl hl _=>?_⟩;have hl:l=bp q.pat []:=hl;subst hl;omega
def qmP:aq aC aB S (a3 Glob (List Attr) (List B)) (λx=>x.1=GlobE) (enc (X:=Int)) λ_ y=>y=0:=by
 rintro⟨g,a,lb⟩ h;have h:g=GlobE:=h;subst h;simp[aC,aB,GlobE,-fB',-eB']
def qqk(h1:S gz=qem):aq gD gh S (a3 Glob (List Attr) (List B)) (λx=>x.1=GlobE) (enc (X:=Int)) λ_ y=>y=0:=by
 rintro⟨g,a,lb⟩ h;have h:g=GlobE:=h;subst h;simp[gD,gh,h1,-fB',-eB'];simp[GlobE,-fB',-eB'];refine ah (X:=Unit) [] [] 0 (λ_ _=>True) (λ_=>[]) (λ_=>[]) () trivial (λk x hk=>absurd hk (by omega)) (λ_ _=>?_);simp
theorem qqh(h1:S eI=qi1)(h2:S db=s_qlabels)(h3:S dE=s_leavesQ)(h4:S eJ=Vd)(h5:S aQ=qcz)(h6:S mZ=qer)(t:S ed=qi2):
 aq gE gi S (a2 Qry (List Attr)) (λx=>qAk x.2 x.1) (enc (X:=Int)) λ_ y=>y=0:=by
 rintro⟨q,a⟩ b;have b:qAk a q:=b;have u:qDT q:=⟨b.filts,b.strat,b.pat,b.size,b.l3,b.num⟩
 have c:qme q.pat []:=by show 0+cK q.pat<=1000000;have:=b.num;omega
 have w:(am q.pat).length<=cK q.pat:=iS q.pat;have d:qhv q.pat []:=⟨by have:=b.num;simp;omega,λy h=>(b.lv y h).2⟩
 simp[gE,gi,h1,u,h2,-fB',-eB'];refine .inl ⟨c,λl hl=>?_⟩;have hl:l=bp q.pat []:=hl;subst hl;simp[h3,-fB',-eB'];refine .inl ⟨d,?_⟩;intro A;refine ah (X:=Unit) [1,2,6,20] [] (bA q.pat).length (λ_ _=>True) (λ_=>[]) (λ_=>[]) () trivial ?_ ?_
 ·rintro k ⟨⟩ hk -;obtain⟨x,j⟩:∃x,(bA q.pat)[k]? =some x:=⟨_,qF6 hk⟩
  obtain⟨_,p⟩:=qF4.1 j;have r:=qF7 j;obtain⟨y,h,rfl⟩:=qGd.1 r;have s:Xv ((mC y).cond,a,bp q.pat []):=⟨(b.lv y h).1,b.att⟩
  simp[hk,j,p,h4,s,-fB',-eB'];exact s
 ·rintro⟨⟩ -;simp[h5,h6,t,b.glob,b.filts,-fB',-eB']
end
section

open Go.Proofs
open Cod (enc dec)
variable {S S0:Nat->Spc}



end
section
open Go.Proofs
open Cod (enc dec)
variable {S S0:Nat->Spc}

end
section
open Cod (enc dec)
variable {dq:Prop}
section
variable {X Y:Type}[Cod Y]
end
open Go.Proofs
variable {S:Nat->Spc}
end
section
open Go.Proofs Cod
variable {dq:Prop}
def cw{P:Program}{f:Nat}{A:Nat->PT}{j:PT}(h:∀n,Tri dq P f (A n))(hs:∀d ds H K,j d ds H K->∃n,A n d ds H K):Tri dq P f j:=
 λO tp w vs ds H d K a b c e g k=>(hs d ds H K k).elim λn hn=>h n O tp w vs ds H d K a b c e g hn
def sr{P:Program}{f:Nat}{A:PT}(hs:∀d ds H K,¬A d ds H K):Tri dq P f A:=λO tp w vs ds H d K a b c e g h=>absurd h (hs d ds H K)
def dB{X Y:Type}{A:fN X}{pre:Nat->X->Prop}{a:X->Prop}{er:Y->D}{post:X->Y->Prop}(b:∀x,a x->∃n,pre n x):∀d ds H K,(ax A a er post).pt d ds H K->∃n,(ax A (pre n) er post).pt d ds H K:=by
 intro d ds H K h;rw[lZ]at h;cases e:A.dec ds with
 |none=>rw[e]at h;exact h.elim
 | some x=>
   rw[e]at h;obtain⟨h1,h2⟩:=h;obtain⟨n,hn⟩:=b x h1;exact⟨n,by rw[lZ,e];exact⟨hn,h2⟩⟩
def bF{P:Program}{f:Nat}{X Y:Type}{A:fN X}{pre:X->Prop}{er:Y->D}{post:X->Y->Prop}(a:∀x,¬pre x):Tri dq P f (ax A pre er post).pt:=sr λd ds H K h=>by
 rw[lZ]at h;cases e:A.dec ds with
 |none=>rw[e]at h;exact h.elim
 |some x=>rw[e]at h;exact a x h.1
def US{P:Program}{f:Nat}{Y Z:Type}{A:fN Z}{er:Y->D} :Tri dq P f (qml A er λ_ _=>none).pt:=sr λd ds H K h=>by
 obtain⟨id,b',x,z,a,h1,h2,h3,h4,h5,⟨r,h6⟩,b⟩:=h;cases h6
def qnk{P:Program}{f:Nat} :Tri dq P f (qs5 λ_ _ _=>none).pt:=sr λd ds H K h=>by
 obtain⟨a,b',x,c,k,r,b,h1,h2,h3,h4,h5⟩:=h;cases h4
def qC3{p:Cond}(h:bi p<=0):False:=by rw[Bw]at h;omega
def JE:TQ dq eT NB:=
 ac (ag ae) Gj (HA)
def LA:TQ dq ri s_cpFold1:=qfY (S:=Kj [(eT,NB)]) (ag (aa JE ae)) rfl
def LB:TQ dq rj qiR:=
 ac (ag ae) IF (Ka)
def GZ:TQ dq nI qi0:=
 ac (ag (aa LB ae)) EF (FG rfl)
def Lv:TQ dq du qiS:=
 ac (ag (aa GZ ae)) Ip (JV rfl)
def nc:TQ dq cZ qiT:=
 ac (ag (aa Lv ae)) mu (Q1 rfl)
def sS:TQ dq eG qiP:=
 ac (ag (aa nc ae)) qQ (Q0 rfl)
def Jw:TQ dq pM Zx:=
 ac (ag ae) F8 (UG)
def Np:TQ dq tE qep:=
 ac (ag (aa Jw ae)) KM (qbY rfl)
def zF:TQ dq eP qno:=
 ac (ag (aa Np (aa sS ae))) xQ (yM rfl rfl)
def zK:TQ dq eP qfr:=On zF rfl (λ_=>qkH (λ_ h=>by cases h))
def Qy:TQ dq vC Zh:=
 FN (ag (aa zK ae)) MR (λ_=>qF8 rfl) (NR rfl)
def qa8:TQ dq Di qiD:=
 ac (ag ae) Vx (XL)
def cO:TQ dq bD wL:=
 gd (ag (aa HO ae)) CW (λ_=>qF8 rfl) (Ue rfl)
def EO:TQ dq my qd2:=
 gd (ag (aa HO ae)) CV (λ_=>qF8 rfl) (Ud rfl)
def nh:TQ dq eu U3:=
 gd (ag (aa cO (aa EO ae))) wE (λ_=>qF8 rfl) (Hm rfl rfl)
def B8:TQ dq jQ qiE:=
 gd (ag (aa cO (aa Cx (aa nh ae)))) AE (λ_=>qF8 rfl) (NS rfl rfl rfl)
def DO:TQ dq kY qiF:=
 gd (ag (aa cO (aa B8 (aa Qy ae)))) BZ (λ_=>qF8 rfl) (Q5 rfl rfl rfl)
def EP:TQ dq mz qd3:=
 gd (ag (aa cO (aa qa8 (aa DO (aa Cx (aa nh ae)))))) CX (λ_=>qF8 rfl) (Uf rfl rfl rfl rfl rfl)
def B7:TQ dq jP qiC:=
 gd (ag (aa cO (aa EP ae))) AD (λ_=>qF8 rfl) (NQ rfl rfl)
def B9:TQ dq jR qiG:=
 gd (ag (aa cO (aa B7 ae))) AF (λ_=>qF8 rfl) (NT rfl rfl)
def DN:TQ dq kX qiB:=
 gd (ag (aa cO (aa B9 ae))) BY (λ_=>qF8 rfl) (Q2 rfl rfl)
def DM:∀n,TQ dq rT (qs5 (zX n))
 | 0=>qnk
 |n+1=>qb9 (ag (aa (DM n) ae)) Pb (by decide) (Q3 n rfl)
def Lu:TQ dq qY Y7:=
 ac (ag ae) Io (JU)
def Jp:TQ dq pA SF:=
 ac (ag (aa Lu ae)) F3 (Hk rfl)
def uj:∀n,TQ dq iW (FU n)
 | 0=>bF λx h=>by cases h
 |n+1=>aY (ag (aa Jp (aa (uj n) ae))) Ez (λ_=>qF8 rfl) (FA n rfl rfl)
def wv:∀n,TQ dq kq (qct n)
 | 0=>bF λx h=>by obtain⟨m,h⟩:=h;cases h
 |n+1=>aY (ag (aa (wv n) ae)) F4 (λ_=>qF8 rfl) (Hl n rfl)
def zG:TQ dq lK Zc:=
 ac (ag (aa (DM 50) (aa (uj 50) (aa (wv 50) ae)))) Ir (JX rfl rfl rfl)
def Fd:TQ dq rV Kr:=
 ac (ag (aa qqt (aa DN (aa zG ae)))) Pd (Q6 rfl rfl rfl)
def Ff:TQ dq sa qeg:=
 ac (ag (aa Fd ae)) Py (Ru rfl)
def Lw:TQ dq qZ qnp:=
 ac (ag ae) Iq (JW)
def um:TQ dq gU U4:=
 uM (ag ae) C6 (λ_=>qF8 rfl) (qqi)
def kb:TQ dq dR NA:=
 uM (ag (aa um ae)) AH (λ_=>qF8 rfl) (qhT rfl)
def Qx:∀n,TQ dq dv (OH n)/\TQ dq jS (qiH n)/\TQ dq eS (qcs n)
 | 0=>⟨US,US,US⟩
 |n+1=>⟨uM (ag (aa (Qx n).1 (aa (Qx n).2.1 (aa kb ae)))) B3 (λ_=>qF8 rfl) (qmR n rfl rfl rfl),uM (ag (aa (Qx n).1 (aa (Qx n).2.2 (aa kb (aa um ae))))) AG (λ_=>qF8 rfl) (qhO n rfl rfl rfl rfl),uM (ag (aa (Qx n).1 (aa (Qx n).2.2 (aa kb ae)))) xS (λ_=>qF8 rfl) (qbT n rfl rfl rfl)⟩
def qbe:TQ dq Du (qpy 50):=
 ac (ag (aa (Qx 50).1 ae)) VY (qAB 50 rfl)
def EQ:TQ dq mA qiI:=
 ac (ag ae) C7 (qmS)
def Lt:TQ dq dt qpx:=
 ac (ag (aa LA ae)) In (qbH rfl)
def Nn:TQ dq dK qpz:=
 ac (ag ae) KA (Mn)
def Fc:TQ dq rU qiM:=
 ac (ag (aa zG (aa Sv (aa qbe (aa EQ (aa Lw (aa Nn (aa Lt ae)))))))) Pc (Q4 rfl rfl rfl rfl rfl rfl rfl)
def Sd:TQ dq xZ (qes false):=
 ac (ag (aa Fc ae)) Pe (Q7 rfl)
def Jq:TQ dq pB (qes true):=
 ac (ag (aa Fc ae)) F5 (Ho rfl)
def Si:TQ dq yg qef:=
 ac (ag (aa Fd (aa Sd (aa Jq ae)))) Px (Rt rfl rfl rfl)
def BQ:TQ dq ct qi3:=
 ac (ag ae) Iw (J3)
def Nq:TQ dq fb SN:=
 ac (ag (aa BQ ae)) Iv (J2 rfl)
def GW:TQ dq bN qd4:=
 ac (ag (aa BQ (aa Nq ae))) C1 (Ev rfl rfl)
def ul:TQ dq cL Kp:=
 ac (ag (aa Sv ae)) C0 (Eu rfl)
def Nr:TQ dq tH Zk:=
 ac (ag (aa ul ae)) KR (MD rfl)
def GX:TQ dq nG qiW:=
 ac (ag ae) EC (FC)
def Sh:TQ dq yf qiV:=
 ac (ag (aa Nr (aa GX ae))) Pw (Rs rfl rfl)
def sT:∀n,TQ dq dG (Zq n)
 | 0=>bF λx h=>qC3 h.1
 |n+1=>aY (ag (aa (sT n) ae)) C8 (λ_=>qF8 rfl) (Cp n rfl)
def un:TQ dq dG OQ:=cw (λn=>sT n) (dB (λx h=>h))
def Jz:TQ dq pQ SQ:=
 ac (ag ae) Gb (FE)
def zI:TQ dq bZ Ve:=
 ac (ag ae) xU (yO)
def uc:TQ dq eY (qcy Attr (Kj [(bZ,Ve)])):=
 ac (ag (aa zI ae)) sy (Oa)
def dT:TQ dq bV D3:=
 ac (ag (aa uc ae)) AI (BV (S0:=(Kj [(bZ,Ve)])) rfl rfl)
def xe:TQ dq kw OT:=
 ac (ag (aa dT ae)) Gg (Hx rfl)
def JD:TQ dq pU Zw:=
 ac (ag ae) Gi (Hz)
def jZ:TQ dq dQ Va:=
 ac (ag ae) AB (N8)
def nf:TQ dq bb qcv:=
 ac (ag (aa jZ ae)) lT (HC rfl)
def JA:TQ dq pR Zp:=
 ac (ag (aa xe (aa dT (aa GW ae)))) Gc (Hu rfl rfl rfl)
def JC:TQ dq pT Zv:=
 ac (ag (aa Jz (aa JA (aa Ff (aa dT (aa qb8 (aa ul (aa nf ae)))))))) Gh (Hy rfl rfl rfl rfl rfl rfl rfl)
def Bv:TQ dq cB qeo:=
 ac (ag (aa JC ae)) zw (zP rfl)
def xb:∀n,TQ dq ip (Zn n)
 | 0=>bF λx h=>by obtain⟨a,lb,_,h,_⟩:=h;cases h
 |n+1=>aY (ag (aa Bv (aa (xb n) ae))) ID (λ_=>qF8 rfl) (Ht n rfl rfl)
def Ly:TQ dq ip Zm:=cw (λn=>xb n) (dB (λx h=>h))
def lB:TQ dq eJ Vd:=
 ac (ag (aa un (aa Ly ae))) B5 (Cq rfl rfl)
def EN:TQ dq mw qee:=
 ac (ag ae) CU (UI)
def Bu:TQ dq iV qej:=
 ac (ag (aa EN ae)) zr (MG rfl)
def DR:TQ dq ck Ii:=
 ac (ag (aa Bu ae)) B4 (Co rfl)
def wG:TQ dq fS (qcy Region (Kj [(ck,Ii)])):=
 ac (ag (aa DR ae)) vw (Yq)
def ud:TQ dq fa (qf8 Region (Kj [(ck,Ii)])):=
 ac (ag (aa wG ae)) sB (Yr rfl)
def GY:TQ dq nH qiZ:=
 ac (ag (aa ud ae)) ED (FF (S0:=(Kj [(ck,Ii)])) rfl rfl)
def wx:∀n,TQ dq ku (OS n)
 | 0=>bF λx h=>by obtain⟨_,y,h⟩:=h;cases h
 | n+1=>
   have a:TQ dq aN (qcu n):=ac (ag (aa (wx n) ae)) Da (qfS n rfl);have b:TQ dq cM (qiU n):=ac (ag (aa a ae)) C9 (qfR n rfl);have c:TQ dq eQ (qcy Cond (Kj [(aN,qcu n),(cM,qiU n)])):=ac (ag (aa a (aa b ae))) mS (Sq);have d:TQ dq cj (qf8 Cond (Kj [(aN,qcu n),(cM,qiU n)])):=ac (ag (aa c ae)) ko (Sr rfl)
   ac (ag (aa a (aa d (aa xe (aa JD (aa Si (aa dT (aa Sh (aa jZ (aa GY ae)))))))))) Gf (qmM (S0:=(Kj [(aN,qcu n),(cM,qiU n)])) n rfl rfl rfl rfl rfl rfl rfl rfl rfl rfl rfl)
def BS:TQ dq np tb:=
 ac (ag ae) KT (MF)
def xf:TQ dq kA ou:=
 ac (ag (aa BS ae)) Gk (HB rfl)
def JF:TQ dq uy Aa:=
 ac (ag ae) RX (UF)
def qcJ{p:Pat}(h:dL p<=0):False:=by rw[qeE]at h;omega
def BD:TQ dq ct zd:=
 ac (ag ae) KO (MB)
def MM:TQ dq fb Ie:=
 ac (ag (aa BD ae)) KN (MA rfl)
def iD:TQ dq bN ot:=
 ac (ag (aa BD (aa MM ae))) EA (FB rfl rfl)
def UN:TQ dq A2 qiA:=
 ac (ag ae) RQ (Uw)
def UO:TQ dq lM U7:=
 ac (ag (aa UN ae)) RS (Uz rfl)
def Ry:TQ dq dA D2:=
 ac (ag (aa iD ae)) Pl (Rg rfl)
def Of:TQ dq da yY:=
 ac (ag ae) MY (N0)
def qhw:Nat->Spc:=Kj [(lM,U7),(dA,D2),(da,yY)]
def qE9(n:Nat):Nat->Spc:=Kj [(gy,qiJ n)]
def qlu{S:Nat->Spc}(h:∀f,TQ dq f (S f)):TQ dq aO (Vf S):=
 ac (ag (aa (ac (S:=S) h ur uJ) ae)) qS (sf rfl)
def BI:∀n,TQ dq jx (SG n)
 | 0=>bF λx h=>qcJ h.1
 | n+1=>
   have h1:TQ dq gy (qiJ n):=ac (ag (aa (BI n) ae)) F7 (Hq n rfl)
   ac (ag (aa (qlu (S:=qE9 n) (ag (aa h1 ae))) ae)) KF (Mt (S0:=qE9 n) n rfl rfl)
def ML:TQ dq jx OI:=
 cw (λn=>BI n) (dB (λx h=>⟨dL x.1,qGb _,h⟩))
def qDS(n:Nat):Nat->Spc:=Kj [(jz,qiY qhw n)]
def qDR(n:Nat):Nat->Spc:=Kj [(aO,Vf (qDS n)),(lM,U7),(dA,D2),(da,yY)]
def qnS(n:Nat)(d:D)(f:Pat->Bool)(h:FunIs qhw d f):FunIs (qDR n) d f:=by
 obtain⟨g,c,k,a,b,e⟩:=h;refine⟨g,c,k,a,?_,e⟩;by_cases j:g=aO
 ·subst j;have:qhw aO=Spc.none:=rfl;rw[this]at b;cases b
 ·rw[<-b];unfold qDR qhw;rw[Kj,if_neg j]
def E5:∀n,TQ dq fp (qeh qhw n)
 | 0=>bF λx h=>by obtain⟨f,h1,h2⟩:=h;exact qcJ h2
 | n+1=>
   have h1:TQ dq jz (qiY qhw n):=ac (ag (aa (E5 n) ae)) KH (Mw (S0:=qhw) n rfl)
   ac (S:=qDR n) (ag (aa (qlu (S:=qDS n) (ag (aa h1 ae))) (aa UO (aa Ry (aa Of ae))))) Pm (Rh (S0:=qDS n) (N:=qhw) n (qnS n) rfl rfl)
def rM:TQ dq fp (CD qhw):=
 cw (λn=>E5 n) (dB (λx h=>by obtain⟨f,h⟩:=h;exact⟨dL x.1,f,h,qGb _⟩))
def xp:TQ dq na NC:=
 ac (ag (aa ML (aa rM ae))) Pq (Ro (N:=qhw) rfl rfl rfl)
def xo:TQ dq mW df:=
 ac (ag (aa xp (aa rM ae))) Pk (Re (N:=qhw) rfl rfl rfl rfl)
def Im:∀n,TQ dq iX (U5 n)
 | 0=>bF λx h=>qcJ h.1
 |n+1=>aY (ag (aa (Im n) ae)) RR (λ_=>qF8 rfl) (Ux n rfl)
def zU:TQ dq iX zY:=
 cw (λn=>Im n) (dB (λx h=>⟨dL x,qGb _,h⟩))
def CT:∀n,TQ dq lc (Zo n)
 | 0=>bF λx h=>h
 |n+1=>aY (ag (aa (CT n) ae)) MZ (λ_=>qF8 rfl) (N4 n rfl)
def Og:TQ dq lc SR:=
 cw (λn=>CT n) (dB (λx h=>h))
def ET:TQ dq rY Vb:=
 ac (ag (aa Og ae)) Pn (Ri rfl)
def CQ:∀n,TQ dq dE (Tw n)
 | 0=>sr λd ds H K ⟨id,v,l,a,x,h1,h2,h3,h4,h5⟩=>qcJ h4.1
 |n+1=>zV (ag (aa (CQ n) (aa ET ae))) BJ (by decide) (N1 n rfl rfl)
def yS:Tri dq Tryz.prog dE i_leavesQA.pt:=cw (λn=>CQ n) λd ds H K ⟨id,v,l,a,x,h1,h2,h3,h4,h5⟩=>⟨dL x,id,v,l,a,x,h1,h2,h3,⟨qGb _,h4⟩,h5⟩
def uK:Tri dq Tryz.prog dE s_leavesQ.pt:=Om (DZ (ag (aa yS (aa ET ae))) BJ (λ_=>qF8 rfl) (Mu rfl rfl)) yS
def qh7:Tri dq Tryz.prog bb s_has2.pt:=
 have h:Tri dq Tryz.prog bb s_hasE.pt:=ac (ag (aa jZ ae)) lT (Fz rfl)
 Om h (On h rfl λ_=>qrK _)
def CR:∀n,TQ dq db (qah n)
 | 0=>sr λd ds H K ⟨id,v,l,a,x,h1,h2,h3,h4,h5⟩=>qcJ h4.1
 |n+1=>zV (ag (aa qh7 (aa (CR n) ae))) BK (by decide) (N3 n rfl rfl)
def yT:Tri dq Tryz.prog db i_labelsA.pt:=cw (λn=>CR n) λd ds H K ⟨id,v,l,a,x,h1,h2,h3,h4,h5⟩=>⟨dL x,id,v,l,a,x,h1,h2,h3,⟨qGb _,h4⟩,h5⟩
def om:Tri dq Tryz.prog db s_qlabels.pt:=Om (DZ (ag (aa qh7 (aa yT ae))) BK (λ_=>qF8 rfl) (Mv rfl rfl)) yT
def Xe:TQ dq pI qiQ:=
 ac (ag ae) E8 (Uy)
def Se:TQ dq mZ qer:=
 ac (ag (aa Xe ae)) CZ (Rm rfl)
def wH:TQ dq cH qi8:=
 ac (ag ae) kT (wA)
def jD:TQ dq aQ qcz:=
 ac (ag (aa wH ae)) iB (sY rfl)
def Cv:TQ dq eI qi1:=
 ac (ag (aa xp (aa rM (aa zU (aa om (aa jD ae)))))) qr (qqj (N:=qhw) rfl rfl rfl rfl rfl rfl rfl)
def Jv:TQ dq gz qem:=
 ac (ag ae) vy (qmP)
def Lx:TQ dq ed qi2:=
 ac (ag (aa Jv ae)) wO (qqk rfl)
def Kf:TQ dq ft qqL:=
 ac (ag (aa Cv (aa om (aa uK (aa lB (aa jD (aa Se (aa Lx ae)))))))) wP (qqh rfl rfl rfl rfl rfl rfl rfl)
end
section
open Go.Proofs
def wo:CC:=gq Tryz.f64 [2006006] { cu:=[1] } _
def vn:List ai:=[.cell 6 true 7]
def Pt:FO yd [2006006] wo vn 28:=fo
def tW:CC:=gq Tryz.f118 [2006006,2006006,2083008,2082008] { cu:=[2,4,6,18,21,24] } _
def tu:List ai:=[.cell 6 true 7]
def M3:FO ld [2006006,2006006,2083008,2082008] tW tu 110:=fo
def qh:CC:=gq Tryz.f27 [2006006] { cu:=[2,4,7] } _
def oU:List ai:=[.cell 6 true 13]
open Cod (enc dec)
variable {S S0:Nat->Spc}
abbrev yZ:Spc:=ax (a1 Int) bY (enc (X:=B)) (λ_ y=>y∈Types)
def qfO(h1:S wZ=s_m_Mod):aq zD zh S (a1 Int) bY (enc (X:=B)) (λ_ y=>y∈Types):=by
 rintro n -;simp[zD,zh,h1];have h3:=PE n 3 (by omega);refine⟨h3.1,h3.2,?_⟩;have:KX n 3=0\/KX n 3=1\/KX n 3=2:=by omega
 rcases this with h|h|h<;>simp[h,Types,qz3,qo4,qz2]
def TU(n:Nat)(x:List Int×Int×List B):Prop:=x.2.1.toNat<n/\ -10<=x.2.1/\x.2.1<=100/\x.2.2.length<=1000
def gp{q:Cond->Prop}{H:ab}{op:Int}{n a v l:B}{f:Bool}{d:D}(ks:List Cond)(c:FrzTo H d (enc ks))(b:q ⟨op,n,a,v,l,f,ks⟩):Fin enc q (.agg [.v (.int .i64 op), .v (.string n), .v (.string a), .v (.string v), .v (.string l), .v (.bool f),d]) H:=by
 refine aL (⟨op,n,a,v,l,f,ks⟩:Cond) ?_ b;rw[qk2];refine .agg rfl λk x y h j=>?_
 rcases k with _|_|_|_|_|_|_|k;simp_all;simp_all;simp_all;simp_all;simp_all;simp_all;simp_all;simp_all
def qt6(a b c d e f g h:B):D.list 1 [.v (.string a), .v (.string b), .v (.string c), .v (.string d), .v (.string e), .v (.string f), .v (.string g), .v (.string h)]= .list 1 (YV [a,b,c,d,e,f,g,h]):=i' rfl
def qpq(a b c d:B):D.list 1 [.v (.string a), .v (.string b), .v (.string c), .v (.string d)]= .list 1 (YV [a,b,c,d]):=i' rfl
theorem Ee{q:Pat->Prop}{H:ab}{op o:Int}{n a v l lb rg:B}{f:Bool}{c d:D}{mn mx:Int}(b:List Cond)(ks:List Pat)(hc:FrzTo H c (enc b))(j:FrzTo H d (enc ks))(h:q ⟨op,⟨o,n,a,v,l,f,b⟩,lb,rg,mn,mx,ks⟩):
 Fin enc q (.agg [.v (.int .i64 op), .v (.int .i64 o), .v (.string n), .v (.string a), .v (.string v), .v (.string l), .v (.bool f),c, .v (.string lb), .v (.string rg), .v (.int .i64 mn), .v (.int .i64 mx),d]) H:=by
 refine aL (⟨op,⟨o,n,a,v,l,f,b⟩,lb,rg,mn,mx,ks⟩:Pat) ?_ h;rw[qe7];refine .agg rfl λk x y p r=>?_
 rcases k with _|_|_|_|_|_|_|_|_|_|_|_|_|k;simp_all;simp_all;simp_all;simp_all;simp_all;simp_all;simp_all;simp_all;simp_all;simp_all;simp_all;simp_all;simp_all;simp_all
def qfx(n:Nat)(x:List Int×Int×List B):Prop:=x.2.1.toNat<n/\ -10<=x.2.1/\x.2.1<=100/\x.2.2.length<=1000
def qwJ(x:List Int×Int×List B)(p:Pat):Prop:=WP x.2.2 x.2.1.toNat p/\PD x.2.1.toNat p
def qdC(x:List Int×Int×List B)(y:Cond):Prop:=GI x.2.2 x.2.1.toNat y
abbrev OM(n:Nat):Spc:=ax (aT (a2 Int (List B))) (TU n) (enc (X:=Cond)) qdC
def qFV{i:Nat}{a:B}(h:[(⟨#[119,111,114,100]⟩:B),⟨#[119,111,114,100]⟩,⟨#[116,97,103]⟩][i]? =some a):a∈Attr2:=by
 grind [Attr2,uN,LL]
def qDy{i:Nat}{a:B}(h:[(⟨#[119,111,114,100]⟩:B),⟨#[116,97,103]⟩][i]? =some a):a∈Attr2:=aP h
def qDx{i:Nat}{a:B}(h:[(⟨#[112]⟩:B),⟨#[113]⟩][i]? =some a):a∈FeatL:=aP h
def qDw{i:Nat}{a:B}(h:[(⟨#[49]⟩:B),⟨#[50]⟩][i]? =some a):a∈NumL:=aP h
def qE3{i:Nat}{a:B}(h:[(⟨#[97]⟩:B),⟨#[98]⟩,⟨#[97,46,42]⟩,⟨#[91,97,98,93]⟩][i]? =some a):a∈ValsT:=aP h
def qFU{i:Nat}{a:B}(h:[(⟨#[97]⟩:B),⟨#[98]⟩,⟨#[97,46,42]⟩,⟨#[91,97,98,93]⟩,⟨#[88]⟩,⟨#[]⟩,⟨#[99,63]⟩,⟨#[97,124,98]⟩][i]? =some a):a∈ValsI:=by
 have:=aP h;simp only[ValsI,qGm,qGz,or_false]at this ⊢;grind
theorem qbU(n:Nat)(h1:S bS=s_m_Next)(h2:S sP=yZ)(h3:S ld=OM n):aq tW tu S (aT (a2 Int (List B))) (TU (n+1)) (enc (X:=Cond)) qdC:=by
 rintro⟨L,deep,lb⟩ ⟨hn,E,F,q⟩;simp only at hn E F q;simp[tW,tu,h1];intro b6 k0 W Y;refine bh (X:=Int) [0,1,2,6] [6] (λk=>0<=k/\k< 12/\(deep< 1->k< 8)) (λk=>[(7,enc k)]) (λ_=>[]) ?_ ?_
 ·simp;grind
 rintro k ⟨q0,q1,q2⟩;refine bh (X:=Unit) [0,1,2,6,7] [6] (λ_=>10<=k) (λ_=>[]) (λ_=>[]) ?_ ?_
 ·simp;refine bh (X:=Bool) [0,1,2,6,7,15] [6] (λb=>b=decide (k< 4)) (λb=>[(16,enc b)]) (λ_=>[]) ?_ ?_;simp;omega;rintro b hb;simp[h1,Sz,YU,qt6,qpq,mP,rN,-fB'];refine⟨λ_ y c d=>⟨c,d,λa r y c d=>⟨c,d,λI s y c d=>gp [] (.nil _) (.atom _ _ (.val a I _ (qFV r) (qFU s)))⟩⟩,λp=>?_⟩;rw[p]at hb;have hb:4<=k:=by simpa using hb.symm
  refine⟨λ_ y c d=>⟨c,d,λa r=>gp [] (.nil _) (.atom _ _ (.feat a (qDx r)))⟩,λk4=>⟨λ_ _=>⟨λhl y c d=>⟨c,d,λa r _=>⟨by omega,λy C=>⟨by omega,by omega,λI s y c d=>⟨c,d,λJ A=>gp [] (.nil _) (.atom _ _ (.same a I J (qDy r) (aP s) (qDy A)))⟩⟩⟩⟩,λ_=>gp [] (.nil _) (.atom _ _ (.val LL _ false (by simp[Attr2]) (by simp[ValsI])))⟩,λk5=>?_⟩⟩;refine bh (X:=Bool) [0,1,2,6,7,15] [6] (λb=>b=decide (k=6\/k=7)) (λb=>[(67,enc b)]) (λ_=>[]) ?_ ?_
  ·simp
   repeat' first|apply And.intro|intro _
   all_goals first|omega|(rw[qGD];simp;omega)
  rintro b u;simp[h1,h2,-fB'];refine⟨λ_ y c d=>⟨trivial,λt U Z=>?_⟩,λp=>?_⟩
  ·refine bh (X:=B×B) [6,8] [6] (λx=>(x.1=E0/\x.2=E0)\/(x.1=qpp/\x.2∈NumL)) (λ_=>[]) (λx=>[(8, .box Z [.v (.int .i64 5), .v (.string t), .v (.string x.1), .v (.string x.2), .v (.string ⟨#[]⟩), .v (.bool false), .v (.slice none 0 0)])]) ?_ ?_
   ·simp[h1,Sz,mP,rN];refineλy c d=>⟨λ_ z K M=>⟨K,M,λa r=>⟨qpp,a, .inr ⟨rfl,qDw r⟩, .inl ⟨rfl,rfl⟩⟩⟩,λ_=>⟨E0,E0, .inl ⟨rfl,rfl⟩, .inl ⟨rfl,rfl⟩⟩⟩
   ·rintro⟨a,v⟩ N;simp;refine gp [] (.nil _) (.atom _ _ ?_);rcases N with⟨rfl,rfl⟩|⟨rfl,hv⟩
    ·exact .reg t U
    ·exact .regk t v U hv
  rw[p]at u;have u:¬(k=6\/k=7):=by simpa using u.symm
  refine bh (X:=Bool) [0,1,2,6,7,15] [6] (λb=>b=decide (k=8\/k=9)) (λb=>[(85,enc b)]) (λ_=>[]) ?_ ?_
  ·simp
   repeat' first|apply And.intro|intro _
   all_goals first|omega|(rw[qGD];simp;omega)
  rintro b l;simp[h3,-fB'];have j:1<=deep->TU n (L,deep -1,lb):=λh=>⟨by show(deep -1).toNat<n;omega,by show -10<=deep -1;omega,by show deep -1<=100;omega,q⟩
  refine⟨λO=>?_,λp=>?_⟩
  ·rw[O]at l;have l:k=8\/k=9:=by simpa using l.symm
   have w:deep.toNat=(deep -1).toNat+1:=by omega
   refine⟨by simp only[InR];omega,j (by omega),λy C=>gp [y] (by simp) (by show GI lb deep.toNat _;rw[w];exact .not _ _ C)⟩
  rw[p]at l;have l:¬(k=8\/k=9):=by simpa using l.symm
  omega
 ·rintro -hk;have j:TU n (L,deep -1,lb):=⟨by show(deep -1).toNat<n;omega,by show -10<=deep -1;omega,by show deep -1<=100;omega,q⟩
  have w:deep.toNat=(deep -1).toNat+1:=by omega
  simp[h3];refine⟨by simp only[InR];omega,by simp only[InR];omega,by simp only[InR];omega,j,λy C=>⟨by simp only[InR];omega,j,λy' Q=>gp [y,y'] (by simp) (by show GI lb deep.toNat _;rw[w];exact .two _ _ _ _ (by omega) C Q)⟩⟩
def qp1(x:List Int×Int×List B)(y:Cond):Prop:=GC x.2.2 x.2.1.toNat y
abbrev SK:Spc:=ax (aT (a2 Int (List B))) (λx=> -10<=x.2.1/\x.2.1<=100/\x.2.2.length<=1000) (enc (X:=Cond)) qp1
abbrev LR:Spc:=ax (aT (a2 Int (List B))) (λx=>∃n,TU n x) (enc (X:=Cond)) qdC
theorem qfP(h1:S bS=s_m_Next)(h3:S ld=LR):aq wo vn S (aT (a2 Int (List B))) (λx=> -10<=x.2.1/\x.2.1<=100/\x.2.2.length<=1000) (enc (X:=Cond)) qp1:=by
 rintro⟨L,deep,lb⟩ ⟨b,c,d⟩;simp only at b c d;simp[wo,vn,h1];intro q;refine bh (X:=Unit) [0,1,2,6] [6] (λ_=>True) (λ_=>[]) (λ_=>[]) ?_ ?_
 ·simp[h1,qpq,mP,rN,-fB'];exactλy _ _=>⟨λ_=>gp [] (.nil _) .any,λ_=>⟨λ_ z j k=>⟨j,k,λa l u _ _=>gp [] (.nil _) (.top a _ (qE3 l))⟩,λ_ _ z j k=>⟨j,k,λa l u _ _=>gp [] (.nil _) (.top a _ (qE3 l))⟩⟩⟩
 ·rintro - -;have h:∃n,TU n (L,deep,lb):=⟨deep.toNat+1,Nat.lt_succ_self _,b,c,d⟩
  simp[h3,h];exactλy p=>gp y.kids (.same _) (by show GC lb deep.toNat _;rw[Jk y];exact .inner _ p)
def qrr{p:Pat}{C:Pat->Prop}(h1:¬p.op=1)(h2:p.kids=[]):∀y∈am p,C y:=by
 simp_all [aW]
def qrp{p:Pat}{C:Pat->Prop}(h1:p.op=1)(h:C p):∀y∈am p,C y:=by
 simp_all [aW]
def qrq{p a:Pat}{C:Pat->Prop}(h1:¬p.op=1)(h2:p.kids=[a])(b:∀y∈am a,C y):∀y∈am p,C y:=by
 simp_all [aW]
def qj3{p a b:Pat}{C:Pat->Prop}(h1:¬p.op=1)(h2:p.kids=[a,b])(c:∀y∈am a,C y)(hb:∀y∈am b,C y):∀y∈am p,C y:=by
 rw[aW,if_neg h1,h2];grind
def QO(x:List Int×Int×List B)(p:Pat):Prop:=qwJ x p/\∀y∈am p,GC x.2.2 1 y.cond
abbrev Id(n:Nat):Spc:=ax (aT (a2 Int (List B))) (qfx n) (enc (X:=Pat)) QO
theorem UD(n:Nat)(h1:S bS=s_m_Next)(h2:S sP=yZ)(h3:S yd=SK)(h4:S il=Id n):aq qh oU S (aT (a2 Int (List B))) (qfx (n+1)) (enc (X:=Pat)) QO:=by
 rintro⟨L,deep,lb⟩ ⟨hn,u,w,q⟩;simp only at hn u w q;simp[qh,oU,h1];intro U W J K;refine bh (X:=Int) [0,1,2,6] [6] (λk=>0<=k/\k< 14/\(deep< 1->k< 7)) (λk=>[(7,enc k)]) (λ_=>[]) ?_ ?_
 ·simp;grind
 rintro k ⟨Y,Z,q2⟩;refine bh (X:=Unit) [0,1,2,6] [6] (λ_=>12<=k) (λ_=>[]) (λ_=>[]) ?_ ?_
 ·have b:1<=deep->qfx n (L,deep -1,lb):=λh=>⟨by grind,by grind,by grind,q⟩
  have j:1<=deep->deep.toNat=(deep -1).toNat+1:=λh=>by omega
  simp[h1,h2,h3,h4,-fB'];refine⟨λhk=>⟨q,λc hc M=>?_⟩,λhk=>⟨λA=>⟨by grind [InR],by grind [InR],λy _ _=>⟨trivial,λt N=>Ee [] [] (.nil _) (.nil _) ⟨⟨qAp (.inr ⟨by grind,rfl,rfl,N,rfl,rfl,rfl⟩),qjC qfi rfl⟩,qrr (by grind) rfl⟩⟩⟩,λA=>⟨λr=>⟨by grind [InR],b (by omega),λy p=>⟨by grind [InR],b (by omega),λs l=>?_⟩⟩,λr F=>⟨by grind [InR],b (by omega),λy p=>⟨by grind [InR],b (by omega),λs l=>?_⟩⟩⟩⟩⟩
  ·refine bh (X:=B) [6,8] [6] (λx=>x=⟨#[]⟩\/x∈lb) (λ_=>[]) (λx=>[(8, .box M [.v (.int .i64 1), .v (.int .i64 c.op), .v (.string c.name), .v (.string c.arg), .v (.string c.val), .v (.string c.lab), .v (.bool c.fold),enc c.kids, .v (.string x), .v (.string ⟨#[]⟩), .v (.int .i64 0), .v (.int .i64 0), .v (.slice none 0 0)])]) ?_ ?_
   ·simp[h1];exactλ_ h0 y _ _ _ _=>⟨by omega,λz hz=>⟨by omega,by omega,λa O=> .inr ⟨a,aP O, .inl rfl⟩⟩⟩
   ·rintro x Q;simp;exact Ee c.kids [] (.same _) (.nil _) ⟨⟨qAp (.inl ⟨rfl,Q,rfl,rfl,rfl,rfl⟩),qjC ⟨_,qoJ (d:=c) rfl (qvA hc)⟩ rfl⟩,qrp rfl (by show GC lb 1 _;rw[Jk c];exact hc)⟩
  ·refine Ee [] [y,s] (.nil _) (by simp) ?_;refine⟨⟨?_,qjB (j (by omega)) qfi rfl p.1.2 l.1.2⟩,qj3 (by show ¬(4:Int)=1;decide) rfl p.2 l.2⟩;show WP lb deep.toNat _;rw[j (by omega)];exact .inr (.inl ⟨.inl rfl,rfl,rfl,rfl,rfl,rfl,y,s,rfl,p.1.1,l.1.1⟩)
  ·refine Ee [] [y,s] (.nil _) (by simp) ?_;refine⟨⟨?_,qjB (j (by omega)) qfi rfl p.1.2 l.1.2⟩,qj3 (by show ¬(5:Int)=1;decide) rfl p.2 l.2⟩;show WP lb deep.toNat _;rw[j (by omega)];exact .inr (.inl ⟨.inr rfl,rfl,rfl,rfl,rfl,rfl,y,s,rfl,p.1.1,l.1.1⟩)
 ·rintro -hk;have b:qfx n (L,deep -1,lb):=⟨by show(deep -1).toNat<n;omega,by show -10<=deep -1;omega,by show deep -1<=100;omega,q⟩
  have j:deep.toNat=(deep -1).toNat+1:=by omega
  have tD:∀(mn mx:Int) (y:Pat) (H:ab),(mn,mx) ∈qbu->QO (L,deep -1,lb) y->Fin enc (QO (L,deep,lb)) (.agg [.v (.int .i64 6), .v (.int .i64 0), .v (.string ⟨#[]⟩), .v (.string ⟨#[]⟩), .v (.string ⟨#[]⟩), .v (.string ⟨#[]⟩), .v (.bool false), .v (.slice none 0 0), .v (.string ⟨#[]⟩), .v (.string ⟨#[]⟩), .v (.int .i64 mn), .v (.int .i64 mx), .list 13 [enc y]]) H:=by
   intro mn mx y H hm p;refine Ee [] [y] (.nil _) (by simp) ?_;refine⟨⟨?_,qq4 j qfi rfl p.1.2⟩,qrq (by show ¬(6:Int)=1;decide) rfl p.2⟩;show WP lb deep.toNat _;rw[j];exact .inr (.inr ⟨rfl,rfl,rfl,rfl,hm,y,rfl,p.1.1⟩)
  simp only[qe7]at tD;simp[h1,h4];intro y C E;refine⟨C,E,λd I=>?_⟩;have:y=0\/y=1\/y=2\/y=3\/y=4\/y=5\/y=6:=by omega
  rcases this with rfl|rfl|rfl|rfl|rfl|rfl|rfl
  all_goals (simp at I;subst I;simp[h4])
  all_goals exact⟨by simp only[InR];omega,b,λy p=>tD _ _ y _ (by simp[qbu]) p⟩
end
section
open Go.Proofs
def GS{f:Pat->Bool}(p:Pat)(h:cm f p=true):ER (λq=>f q=true) p:=by
 induction p using fJ with|_ p a=>?_
 rw[cU,qF9,qGa]at h;exact qnI h.1 λk hk=>a k hk (h.2 k hk)
def qgz(p:Pat):ER rL p->∀q∈tC p,q.op=1->q∈am p:=by
 induction p using fJ with|_ p b=>?_
 intro a q hq h1;have hp:=Kx a;rw[aW];cases p with
 | mk op cond lab reg mn mx ks=>
   rw[tC]at hq;rcases qGm.1 hq with rfl|hq
   ·rw[if_pos h1];simp
   ·obtain⟨k,hk,hq⟩:=wQ hq;split
    ·rename_i e;rcases hp with h|h|h|h
     ·have:=h.2.2.2.2;simp only at this;rw[this]at hk;cases hk
     ·have:=h.1;simp only at this e;omega
     ·have:=h.1;simp only at this e;omega
     ·have:=h.1;simp only at this e;omega
    ·exact qHW.2 ⟨k,hk,b k hk (O9 a hk) q hq h1⟩
def qm4:Prop:=ay qz3=true/\ay qo4=true/\ay qz2=true/\ay qsr=true/\ay qtB=true
def yQ{b:B}(h:(decide (1<=b.size) && decide (b.size<=32) && (b.data.toList.all λc=>Ns c.toNat))=true):ay b=true:=by
 simp only[qF9,decide_eq_true_eq,qGa]at h;have hm:∀(k:Nat) (c:UInt8),b.data[k]? =some c->Ns c.toNat=true:=λk c hc=>h.2 c (by rw[<-qGx]at hc;exact qF7 hc)
 rw[FJ];exact⟨h.1.1,h.1.2,hm 0,λk c hc=>by unfold R9;rw[hm k c hc];rfl⟩
def qqp:qm4:=⟨yQ (by decide),yQ (by decide),yQ (by decide),yQ (by decide),yQ (by decide)⟩
def Wh{lb:List B} :∀{n:Nat} {c:Cond},GI lb n c->M9 (n+1) c
 |n,_, .atom _ c h=>⟨by rw[wR h];decide,λk hk=>by rw[wR h]at hk;cases hk⟩
 | _,_, .not n k h=>⟨qF8 rfl,λz hz=>by rw[qHk]at hz;subst hz;exact Wh h⟩
 | _,_, .two n op a b _ h1 h2=>⟨qF8 rfl,λz hz=>by
    simp only[qGm,qGz,or_false]at hz;rcases hz with rfl|rfl
    ·exact Wh h1
    ·exact Wh h2⟩
def qrk{lb:List B}{n:Nat}{c:Cond}(h:GC lb n c):∃m,M9 m c:=by
 cases h with
 |any=>exact⟨1,by decide,λk hk=>by cases hk⟩
 |top v f h=>exact⟨1,qF8 rfl,λk hk=>by cases hk⟩
 |inner c h=>exact⟨_,Wh h⟩
structure qbC (c:Corpus):Prop where
 ok:OkCorp c
 few:c.toks.length<=60


open Cod (enc dec)
variable {S S0:Nat->Spc}
end
section
open Go.Proofs
def Iy:FO il [2006006] qh oU 103:=fo
open Go.Proofs Cod
variable {dq:Prop}
def Jy:TQ dq sP yZ:=
 ac (ag (aa UY ae)) Tf (qfO rfl)
def BR:∀n,TQ dq ld (OM n)
 | 0=>bF λx h=>by have:=h.1;omega
 |n+1=>aY (ag (aa cX (aa Jy (aa (BR n) ae)))) M3 (λ_=>qF8 rfl) (qbU n rfl rfl rfl)
def Qz:TQ dq ld LR:=cw (λn=>BR n) (dB (λx h=>h))
def Sf:TQ dq yd SK:=
 ac (ag (aa cX (aa Qz ae))) Pt (qfP rfl rfl)
def zH:∀n,TQ dq il (Id n)
 | 0=>bF λx h=>by have:=h.1;omega
 |n+1=>aY (ag (aa cX (aa Jy (aa Sf (aa (zH n) ae))))) Iy (λ_=>qF8 rfl) (UD n rfl rfl rfl rfl)
end
section
open Go.Proofs


open Cod (enc dec)
variable {S S0:Nat->Spc}
end
section
open Go.Proofs Cod
variable {dq:Prop}
def E4:∀n,TQ dq mV (Ny n)
 | 0=>bF λx h=>qcJ h.1
 |n+1=>aY (ag (aa (E4 n) ae)) Pj (λ_=>qF8 rfl) (Rd n rfl)
def Rw:TQ dq mV H5:=
 cw (λn=>E4 n) (dB (λx h=>⟨dL x,qGb _,h⟩))
def EU:TQ dq mY D4:=
 ac (ag (aa xo (aa Rw ae))) Pp (Rl rfl rfl)
end
section
variable {S S0:Nat->Spc}
mutual
def fM:Glob->Nat| .mk _ _ _ _ _ _ _ _ _ _ ks=>lW ks+1
def lW:List Glob->Nat|[]=>0|k::ks=>max (fM k) (lW ks)
end
def Ec:∀{ks:List Glob} {k:Glob},k∈ks->fM k<=lW ks
 | x::ks,k,h=>by
   rw[lW];rcases qGm.1 h with rfl|h
   ·omega
   ·have:=Ec h;omega
def IX{p k:Glob}(h:k∈p.kids):fM k<fM p:=by
 have:=Ec h;cases p;rw[fM];simp only at this;omega
mutual
def xV:Glob->Nat| .mk _ _ _ _ _ _ _ _ _ _ ks=>lU ks+1
def lU:List Glob->Nat|[]=>0|k::ks=>xV k+lU ks
end
def Wg(x:Glob):xV x=lU x.kids+1:=by cases x;rw[xV]
def Ed(x:Glob):fM x=lW x.kids+1:=by cases x;rw[fM]
def KV:∀(a b:List Glob),lU (a++b)=lU a+lU b
 | [],b=>by rw[qG1,lU];omega
 |k::a,b=>by rw[qG4,lU,lU,KV a b];omega
def Ty:∀(a b:List Glob),lW (a++b)=max (lW a) (lW b)
 | [],b=>by rw[qG1,lW];omega
 |k::a,b=>by rw[qG4,lW,lW,Ty a b];omega
def Tj{ks:List Glob}{k:Nat}{x:Glob}(h:ks[k]? =some x):lU (ks.take (k+1))=lU (ks.take k) +xV x/\lW (ks.take (k+1))=max (lW (ks.take k)) (fM x)/\lU (ks.take (k+1))<=lU ks:=by
 have e:=au h;refine⟨by rw[e,KV,lU,lU];omega,by rw[e,Ty,lW,lW];omega,?_⟩
 conv=>rhs;rw[<-qGB (k+1) ks,KV]
 omega
def qky{lb:List B}{n:Nat}{g:Glob}(h:GG lb n g):xV g< 2^ (n+1)/\fM g<=n+1:=by
 induction h with
 |not n k h j=>rw[xV,fM,Nat.pow_succ];simp only[lU,lW];omega
 |two n op a b ho h1 h2 c d=>rw[xV,fM,Nat.pow_succ];simp only[lU,lW];omega
 |bound n|val n|same n|dist n|reg n|head n|path n|node n|depth n=>have:=Nat.one_le_two_pow (n:=n);rw[xV,fM,Nat.pow_succ];simp only[lU,lW];omega
def Wz{lb:List B}{n:Nat}{g k:Glob}(h:GG lb n g)(hk:k∈g.kids):∃m,m<=n/\GG lb m k:=by
 cases h with
 | not n c h=>
   simp at hk;subst hk;exact⟨n,by omega,h⟩
 | two n op a b ho h1 h2=>
   simp at hk;rcases hk with rfl|rfl
   ·exact⟨n,by omega,h1⟩
   ·exact⟨n,by omega,h2⟩
 | _=>cases hk
end
section
open Go.Proofs
def rv:CC:=gq Tryz.f134 [3] {} _
def qD:List ai:=[.tmp 6, .tmp 7]
def KG:FO jy [3] rv qD 40:=fo
def bT:CC:=gq Tryz.f136 [1,2029005,2028005,2027005,2026005,2037005,2036005,2045005,2044005,2068005,2067005,2066005] {} _
def bP:List ai:=[.tmp 2]
def RU:FO ez [1,2029005,2028005,2027005,2026005,2037005,2036005,2045005,2044005,2068005,2067005,2066005] bT bP 155:=fo
def wj:CC:=gq Tryz.f135 [3,2] {} _
def vi:List ai:=[.tmp 4]
def Po:FO mX [3,2] wj vi 15:=fo
def rA:CC:=gq Tryz.f199 [2] {} _
def qF:List ai:=[.tmp 3]
def KI:FO gc [2] rA qF 8:=fo
def dz:CC:=gq Tryz.f198 [] {} _
def dw:List ai:=[.tmp 4]
def od:FO dD [] dz dw 9:=fo
def eh:CC:=gq Tryz.f257 [] {} _
def dX:List ai:=[.tmp 4]
def qR:FO eH [] eh dX 19:=fo
def ln:CC:=gq Tryz.f201 [] {} _
def kK:List ai:=[.tmp 2]
def CY:FO fe [] ln kK 10:=fo
def eL:CC:=gq Tryz.f200 [] {} _
def eD:List ai:=[.tmp 4]
def sA:FO eZ [] eL eD 9:=fo
def fE:CC:=gq Tryz.f258 [] {} _
def fw:List ai:=[.tmp 4]
def vv:FO fR [] fE fw 19:=fo
open Cod (enc dec)
variable {S S0:Nat->Spc}
abbrev qdN(x:Glob):Prop:=∃lb m,GG lb m x
abbrev qeq:Spc:=ax (a1 Glob) qdN (enc (X:=Bool)) λx y=>y=true
set_option maxHeartbeats 1000000 in
theorem Rk:aq bT bP S (a1 Glob) qdN (enc (X:=Bool)) λx y=>y=true:=by
 rintro x ⟨lb,m,h⟩;cases h with
 |bound n a h=>simp[bT,bP,E0,-fB',-eB']
 |val n a v f h1 h2=>simp[bT,bP,E0,-fB',-eB']
 |same n a b g h1 h2 h3=>simp[bT,bP,E0,-fB',-eB']
 |dist n a b mn mx h1 h2 h3 h4 h5 h6=>simp[bT,bP,E0,-fB',-eB']
 |reg n a b t h1 h2 h3=>simp[bT,bP,E0,-fB',-eB']
 |path n a b l h1 h2 h3 h4=>simp[bT,bP,E0,-fB',-eB']
 |node n a b t h1 h2 h3=>simp[bT,bP,E0,-fB',-eB']
 |depth n a mn mx h1 h3 h4 h5 h6=>simp[bT,bP,E0,-fB',-eB']
 |head n op a b ho h1 h2=>rcases ho with rfl|rfl<;>simp[bT,bP,E0,-fB',-eB']
 |not n k h=>simp[bT,bP,E0,-fB',-eB']
 |two n op a b ho h1 h2=>rcases ho with rfl|rfl<;>simp[bT,bP,E0,-fB',-eB']
def qwO(n:Nat)(x:Glob×Int×Int):Prop:=fM x.1<=n/\0<=x.2.1/\x.2.1+xV x.1<=60/\0<=x.2.2/\x.2.2+fM x.1<=1000/\fM x.1<=60
abbrev Zi(n:Nat):Spc:=ax (a3 Glob Int Int) (qwO n) (iA (Y:=Int) (Z:=Int)) λx y=>y=(x.2.1+xV x.1,x.2.2+fM x.1 -1)
abbrev Zj:Spc:=ax (a3 Glob Int Int) (λx=>∃n,qwO n x) (iA (Y:=Int) (Z:=Int)) λx y=>y=(x.2.1+xV x.1,x.2.2+fM x.1 -1)
theorem J1(n:Nat)(h1:S jy=Zi n):aq rv qD S (a3 Glob Int Int) (qwO (n+1)) (iA (Y:=Int) (Z:=Int)) λx y=>y=(x.2.1+xV x.1,x.2.2+fM x.1 -1):=by
 rintro⟨x,nodes,deep⟩ ⟨hn,h0,h2,h3,h4,h5⟩;simp only at hn h0 h2 h3 h4 h5;have j:=Ed x;have l:=Wg x;simp[rv,qD];refine⟨by grind [Spc,InR],λp=>?_⟩;refine ah (X:=Int×Int) [2,17] [] x.kids.length (λk z=>z.1=nodes+1+ (lU (x.kids.take k):Int)/\z.2=deep+ (lW (x.kids.take k):Int)) (λz=>[(1,enc z.1),(8,enc z.2)]) (λ_=>[]) (nodes+1,deep) (by simp[lU,lW]) ?_ ?_
 ·rintro k ⟨m,d⟩ hk ⟨q,h⟩;simp only at q h;obtain⟨y,b⟩:=aR hk;obtain⟨_,c⟩:=qF4.1 b;have hm:=Tj b;have r:=Ec (aP b);have hp:qwO n (y,m,deep+1):=⟨by show fM y<=n;omega,by show 0<=m;omega,by show m+xV y<=60;omega,by show 0<=deep+1;omega,by show deep+1+fM y<=1000;omega,by show fM y<=60;omega⟩
  have a:¬60<m:=by have:=Wg y;omega
  simp[h1,hk,b,c,hp,a];exact⟨by simp only[InR];omega,by omega,by rw[hm.2.1,h];omega⟩
 simp;omega
def qkw(x:Glob):D.agg [D.v (Value.int IntKind.i64 x.op),D.v (Value.string x.a),D.v (Value.string x.b),D.v (Value.string x.name),D.v (Value.string x.arg),D.v (Value.string x.val),D.v (Value.bool x.fold),D.v (Value.int IntKind.i64 x.mn),D.v (Value.int IntKind.i64 x.mx),D.list 1 (List.map enc x.args),D.list 11 (List.map enc x.kids)]=enc x:=by simp
def QS(S0:Nat->Spc)(x:List Glob×D×Unit):Prop:=FunOnP S0 x.2.1 x.1 λ_=>false
abbrev qi7(S0:Nat->Spc):Spc:=ax (aE (List Glob) (aD a0)) (QS S0) (enc (X:=Int)) λx y=>y= -1
def se:aq eh dX S (aE (List Glob) (aD a0)) (QS S) (enc (X:=Int)) λx y=>y= -1:=by
 rintro⟨l,d,⟨⟩⟩ hp;replace hp:FunOnP S d l λ_=>false:=hp
 simp[eh,dX,-fB',-eB'];intro h;refine ah (X:=Unit) [0,1] [] l.length (λk _=>True) (λ_=>[]) (λ_=>[]) () (by simp) ?_ ?_
 ·rintro k -hk -;obtain⟨y,a⟩:=aR hk;obtain⟨_,c⟩:=qF4.1 a;simp[hk,a,c,-fB',-eB'];rw[qkw y];refine hp.useB y (aP a) λb hb=>?_
  grind [RZ]
 simp
abbrev qja(S0:Nat->Spc):Spc:=ax (aE (List Glob) (aD a0)) (QS S0) (enc (X:=Bool)) λx y=>y=false
def ol(h1:S eH=qi7 S0):aq dz dw S (aE (List Glob) (aD a0)) (QS S0) (enc (X:=Bool)) λx y=>y=false:=by
 rintro⟨l,d,⟨⟩⟩ hp;simp_all [dz,dw]
def qsL(n:Nat)(x:Glob):Prop:=fM x<=n/\qdN x
abbrev Zy(n:Nat):Spc:=ax (aE Glob (aD a0)) (λx=>qsL n x.1/\x.2.1= .clo ez []) (enc (X:=Bool)) λx y=>y=true
abbrev Zz:Spc:=ax (aE Glob (aD a0)) (λx=>(∃n,qsL n x.1)/\x.2.1= .clo ez []) (enc (X:=Bool)) λx y=>y=true
abbrev OU(n:Nat):Spc:=ax (aE Glob (aD a0)) (λx=>qsL n x.1/\x.2.1= .cptr [.clo ez []] 0) (enc (X:=Bool)) λx y=>y=false
def Mx(n:Nat)(h1:S mX=Zy n):aq rA qF S (aE Glob (aD a0)) (λx=>qsL n x.1/\x.2.1= .cptr [.clo ez []] 0) (enc (X:=Bool)) λx y=>y=false:=by
 rintro⟨x,d,⟨⟩⟩ ⟨a,b⟩;simp_all [rA,qF]
def Rj(n:Nat)(h0:S0 gc=OU n)(h1:S dD=qja S0)(h2:S ez=qeq):aq wj vi S (aE Glob (aD a0)) (λx=>qsL (n+1) x.1/\x.2.1= .clo ez []) (enc (X:=Bool)) λx y=>y=true:=by
 rintro⟨x,d,⟨⟩⟩ ⟨⟨hn,b⟩,c⟩;simp only at hn b c;subst c;have hk:∀k∈x.kids,qsL n k:=λk hk=>by
  have:=IX hk;obtain⟨lb,m,h⟩:=b;obtain⟨j,_,h2⟩:=Wz h hk;exact⟨by omega,lb,j,h2⟩
 have hO:FunOnP S0 (.clo gc [.cptr [.clo ez []] 0]) x.kids λ_=>false:=
  K2 h0 (λk a=>⟨hk k a,rfl⟩) (λ_ _ y l=>l)
 have p:QS S0 (x.kids, .clo gc [.cptr [.clo ez []] 0],()):=hO;simp_all [wj,vi]
abbrev qeb:Spc:=ax (a1 Glob) (λg=>g=GlobE\/qdN g) (enc (X:=Bool)) λx y=>y=decide (x.op=0)
set_option maxHeartbeats 1000000 in
def Rf:aq jH jF S (a1 Glob) (λg=>g=GlobE\/qdN g) (enc (X:=Bool)) λx y=>y=decide (x.op=0):=by
 rintro x (rfl|⟨lb,m,h⟩);simp[jH,jF,GlobE,E0]
 ·have:x.op≠0:=by cases h<;>simp<;>omega
  simp[jH,jF,this,-fB',-eB']
abbrev ZA:Spc:=ax (a1 Glob) (λg=>g=GlobE\/ ∃lb,GG lb 2 g) (enc (X:=Bool)) λx y=>y=true
def N5(h1:S pI=qeb)(h2:S jy=Zj)(h3:S mX=Zz):aq ix ia S (a1 Glob) (λg=>g=GlobE\/ ∃lb,GG lb 2 g) (enc (X:=Bool)) λx y=>y=true:=by
 rintro x (rfl|⟨lb,h⟩)
 ·have a:GlobE=GlobE\/qdN GlobE:= .inl rfl;have d:GlobE.op=0:=rfl;simp[ix,ia,h1,a,d,-fB',-eB'];exact .inl rfl
 ·have c:=qky h;have a:x=GlobE\/qdN x:= .inr ⟨lb,2,h⟩;have b:x.op≠0:=by cases h<;>simp<;>omega
  have j:∃n,qwO n (x,0,1):=⟨fM x,qGb _,qHb _,by grind,by simp,by grind,by grind⟩
  have k:∃n,qsL n x:=⟨fM x,qGb _,lb,2,h⟩
  have l:(xV x:Int)<=60:=by omega
  have p:(1:Int) +fM x -1<=20:=by omega
  simp[ix,ia,h1,h2,h3,a,b,j,k,l,p,-fB',-eB']
def Dg{x:B} :(x∈Types\/x∈qbB\/(x∈Xo/\x≠ ⟨#[]⟩))->ay x=true:=by
 have a:∀b:B,(decide (1<=b.size) && decide (b.size<=32) && (b.data.toList.all λc=>Ns c.toNat))=true->ay b=true:=λb h=>yQ h
 rintro(h|h|⟨h,hn⟩)
 ·simp only[Types,qGm,qGz,or_false]at h;rcases h with rfl|rfl|rfl<;>exact a _ (by decide)
 ·simp only[qbB,qGm,qGz,or_false]at h;rcases h with rfl|rfl|rfl<;>exact a _ (by decide)
 ·simp only[Xo,qGm,qGz,or_false]at h;rcases h with rfl|rfl|rfl
  ·exact a _ (by decide)
  ·exact a _ (by decide)
  grind
def qcZ{v:B}(h:v∈QT):∃r,ms v=some r:=by
 have e:∀v∈QT,(ms v).isSome=true:=by decide
 grind [Option.isSome_iff_exists]
abbrev qcw:Spc:=ax (a1 B) (λs=>s∈Xo) (enc (X:=Bool)) λ_ y=>y=false
def qql(h1:S bN=ot):aq ln kK S (a1 B) (λs=>s∈Xo) (enc (X:=Bool)) λ_ y=>y=false:=by
 rintro s hs;have hs:s∈Xo:=hs;have a:s≠ ⟨#[]⟩->ay s=true:=λh=>Dg (.inr (.inr ⟨hs,h⟩))
 simp_all [ln,kK]
def PZ{X:Type}[Cod X]{S:Nat->Spc}{g:Nat}{l:List X}{pre:X->Prop}{q:X->Bool}{post:X->Bool->Prop}(h:S g=ax (a1 X) pre enc post)(hp:∀x∈l,pre x)(c:∀x∈l,∀y,post x y->y=q x):FunOnP S (.clo g []) l q:=by
 refine⟨g, [],_,rfl,h,λx a=>⟨⟨x,by simp,hp x a⟩,λr b=>?_⟩⟩;obtain⟨y,rfl,d⟩:=b x (by simp) (hp x a);grind
def QR(S0:Nat->Spc)(x:List B×D×Unit):Prop:=FunOnP S0 x.2.1 x.1 λ_=>false
abbrev qi6(S0:Nat->Spc):Spc:=ax (aE (List B) (aD a0)) (QR S0) (enc (X:=Int)) λx y=>y= -1
def qqm:aq fE fw S (aE (List B) (aD a0)) (QR S) (enc (X:=Int)) λx y=>y= -1:=by
 rintro⟨l,d,⟨⟩⟩ hp;replace hp:FunOnP S d l λ_=>false:=hp
 simp[fE,fw,-fB',-eB'];intro h;refine ah (X:=Unit) [0,1] [] l.length (λk _=>True) (λ_=>[]) (λ_=>[]) () (by simp) ?_ ?_
 ·rintro k -hk -;obtain⟨y,a⟩:=aR hk;obtain⟨_,c⟩:=qF4.1 a;simp[hk,a,c,-fB',-eB'];refine hp.useB y (aP a) λb hb=>?_
  obtain rfl:b=false:=hb _ hp;simp
 simp
abbrev qi9(S0:Nat->Spc):Spc:=ax (aE (List B) (aD a0)) (QR S0) (enc (X:=Bool)) λx y=>y=false
def qqn(h1:S fR=qi6 S0):aq eL eD S (aE (List B) (aD a0)) (QR S0) (enc (X:=Bool)) λx y=>y=false:=by
 rintro⟨l,d,⟨⟩⟩ hp;simp_all [eL,eD]
def Em(S0:Nat->Spc)(x:List Filt×D×Unit):Prop:=FunOnP S0 x.2.1 x.1 λ_=>false
abbrev qet(S0:Nat->Spc):Spc:=ax (aE (List Filt) (aD a0)) (Em S0) (enc (X:=Int)) λx y=>y= -1
def qkN(x:Filt):D.agg [D.v (Value.int IntKind.i64 x.op),D.v (Value.bool x.neg),D.v (Value.string x.reg)]=enc x:=by simp
def qmT:aq cn ca S (aE (List Filt) (aD a0)) (Em S) (enc (X:=Int)) λx y=>y= -1:=by
 rintro⟨l,d,⟨⟩⟩ hp;replace hp:FunOnP S d l λ_=>false:=hp
 simp[cn,ca,-fB',-eB'];intro h;refine ah (X:=Unit) [0,1] [] l.length (λk _=>True) (λ_=>[]) (λ_=>[]) () (by simp) ?_ ?_
 ·rintro k -hk -;obtain⟨y,a⟩:=aR hk;obtain⟨_,c⟩:=qF4.1 a;simp[hk,a,c,-fB',-eB'];rw[qkN y];refine hp.useB y (aP a) λb hb=>?_
  grind [RZ]
 simp
abbrev Vg(S0:Nat->Spc):Spc:=ax (aE (List Filt) (aD a0)) (Em S0) (enc (X:=Bool)) λx y=>y=false
def qmU(h1:S cH=qet S0):aq bK bJ S (aE (List Filt) (aD a0)) (Em S0) (enc (X:=Bool)) λx y=>y=false:=by
 rintro⟨l,d,⟨⟩⟩ hp;simp_all [bK,bJ]
abbrev U9:Spc:=ax (a1 Filt) GF (enc (X:=Bool)) λ_ y=>y=false
def qmL:aq yx xL S (a1 Filt) GF (enc (X:=Bool)) λ_ y=>y=false:=by
 rintro f ⟨h,_⟩;have h1:¬f.op< 1:=by omega
 have h2:¬3<f.op:=by omega
 simp_all [yx,xL]
abbrev Vc:Spc:=ax (a1 Filt) GF (enc (X:=Bool)) λ_ y=>y=false
def qmO(h1:S bN=ot):aq iw hZ S (a1 Filt) GF (enc (X:=Bool)) λ_ y=>y=false:=by
 rintro f ⟨_,h⟩;simp_all [Dg,iw,hZ]
def yF(x:Glob×List Attr×List B):Prop:=x.2.1=att3/\(x.1=GlobE\/ ∃n,GG x.2.2 n x.1)
abbrev Zt:Spc:=ax (a3 Glob (List Attr) (List B)) yF (enc (X:=Int)) λ_ y=>y=0
def qbl{g:B}(h:g∈Attr2):0<=dU att3 g:=by
 simp only[Attr2,qGm,qGz,or_false]at h;rcases h with rfl|rfl<;>decide
def dC{l:List B}{x:B}(h:x∈l):pw l x=true:=by
 grind [pw]
set_option maxHeartbeats 4000000 in
theorem qhV(h1:S bb=qcv)(h2:S bV=D3)(h3:S bN=ot)(h4:S eZ=qi9 S0)(h5:S sa=qeg)(h0:S0 fe=qcw):
 aq aC aB S (a3 Glob (List Attr) (List B)) yF (enc (X:=Int)) λ_ y=>y=0:=by
 rintro⟨g,a,lb⟩ ⟨ha,hg⟩;simp only at ha hg;subst ha;have hw:(0:Int)<=dU att3 uN:=by decide
 rcases hg with rfl|⟨n,hg⟩;simp[aC,aB,GlobE];cases hg with
 |bound n a h=>simp[aC,aB,h1,dC h,-fB',-eB']
 | val n a v f k1 k2=>
   have hx:=qcZ k2;simp[aC,aB,h1,h2,h5,dC k1,hw,hx,-fB',-eB']
 |same n a b g k1 k2 k3=>simp[aC,aB,h1,h2,dC k1,dC k2,hw,qbl k3,-fB',-eB']
 | dist n a b mn mx k1 k2 k3 k4 k5 k6=>
   have e:¬mx<mn:=by omega
   simp[aC,aB,h1,dC k1,dC k2,e,-fB',-eB']
 |reg n a b t k1 k2 k3=>simp[aC,aB,h1,h3,dC k1,dC k2,Dg (.inl k3),-fB',-eB']
 | path n a b l k1 k2 k3 k4=>
   have hP:QR S0 (l, .clo fe [],()):=PZ h0 (λx hx=>k4 x hx) λ_ _ y hy=>hy
   simp[aC,aB,h1,h4,dC k1,dC k2,hP,-fB',-eB']
 |node n a b t k1 k2 k3=>simp[aC,aB,h1,h3,dC k1,dC k2,Dg (.inr (.inl k3)),-fB',-eB']
 | depth n a mn mx k1 k3 k4 k5 k6=>
   have e1:¬mx<mn:=by omega
   have e2:¬mn< 0:=by omega
   simp[aC,aB,h1,dC k1,e1,e2,-fB',-eB']
 |head n op a b ho k1 k2=>rcases ho with rfl|rfl<;>simp[aC,aB,h1,dC k1,dC k2,-fB',-eB']
 |not n k h=>simp[aC,aB,-fB',-eB']
 |two n op a b ho k1 k2=>rcases ho with rfl|rfl<;>simp[aC,aB,-fB',-eB']
abbrev qen(n:Nat):Spc:=ax (a3 Glob (List Attr) (List B)) (λx=>fM x.1<=n/\yF x) (enc (X:=Int)) λ_ y=>y=0
abbrev Zu:Spc:=ax (a3 Glob (List Attr) (List B)) yF (enc (X:=Int)) λ_ y=>y=0
def qmQ(n:Nat)(h1:S gz=Zt)(h2:S ed=qen n):aq gD gh S (a3 Glob (List Attr) (List B)) (λx=>fM x.1<=n+1/\yF x) (enc (X:=Int)) λ_ y=>y=0:=by
 rintro⟨g,a,lb⟩ ⟨hn,d⟩;simp only at hn;have c:=d;obtain⟨j,b⟩:=c;simp only at j b;subst j;have hk:∀k∈g.kids,fM k<=n/\yF (k,att3,lb):=λk hk=>by
  have:=IX hk;rcases b with rfl|⟨m,h⟩
  ·cases hk
  ·obtain⟨l,_,h2⟩:=Wz h hk;exact⟨by omega,rfl, .inr ⟨l,h2⟩⟩
 simp[gD,gh,h1,d,-fB',-eB'];intro p;refine ah (X:=Unit) [1,2,19] [] g.kids.length (λ_ _=>True) (λ_=>[]) (λ_=>[]) () trivial ?_ ?_;simp_all;simp
structure qbs (a:List Attr) (q:Qry):Prop where
 glob:q.glob=GlobE\/GG (bp q.pat []) 2 q.glob
 filts:∀f∈q.filts,GF f
 strat:0<=q.strat/\q.strat< 4
 pat:eX ay q.pat=true
 size:fO q.pat<=256
 l3:(bp q.pat []).length<=3
 num:cK q.pat<=1000000
 att:a=att3
 lv:∀x∈am q.pat,qmm a (bp q.pat []) x.cond=true/\∃n,M9 n x.cond
structure qsQ (q:Qry):Prop where
 filts:∀f∈q.filts,GF f
 strat:0<=q.strat/\q.strat< 4
 pat:eX ay q.pat=true
 size:fO q.pat<=256
 l3:(bp q.pat []).length<=3
 num:cK q.pat<=1000000
abbrev qel:Spc:=ax (a1 Qry) qsQ (enc (X:=Int)) λ_ y=>y=0
theorem qmN{N N2:Nat->Spc}(h0:N dA=D2)(d:N da=yY)(b:N2 dF=Vc)(h1:S na=NC)(h2:S fp=CD N)(h3:S iX=zY)(h4:S db=s_qlabels)(h5:S aQ=Vg N2):
 aq dS dO S (a1 Qry) qsQ (enc (X:=Int)) λ_ y=>y=0:=by
 rintro q a;have f1:FunIs N (.clo dA []) (mT ay):=vA h0 λ_=>trivial
 have p:FunIs N (.clo da []) lJ:=vA d λ_=>trivial
 have r:Em N2 (q.filts, .clo dF [],()):=PZ b (λx s=>a.filts x s) λ_ _ y h=>h
 have hp:=a.pat;unfold eX at hp;simp only[qF9]at hp;obtain⟨⟨⟨t,u⟩,w⟩,A⟩:=hp;have j:=a.size;have c:¬256<fO q.pat:=by omega
 have C:=a.l3;have E:¬q.strat< 0:=by have:=a.strat;omega
 have F:¬3<q.strat:=by have:=a.strat;omega
 have k:qme q.pat []:=by show 0+cK q.pat<=1000000;have:=a.num;omega
 simp[dS,dO,h1,t,u,h2,E,F,h3,a.pat,j,c,h5,r,-fB',-eB'];refine⟨⟨_,f1⟩,λy h=>⟨λ_=>⟨⟨_,p⟩,λz hz=>⟨by rw[hz _ p,A],λ_=>?_⟩⟩,by rw[h _ f1,w]⟩⟩;simp[h4,-fB',-eB'];refine .inl ⟨k,λl hl _=>?_⟩;have hl:l=bp q.pat []:=hl;subst hl;omega
theorem qmH{N:Nat->Spc}(h0:N pJ=U9)(h1:S eI=qel)(h2:S db=s_qlabels)(h3:S dE=s_leavesQ)(h4:S eJ=Vd)(h5:S aQ=Vg N)(h6:S mZ=ZA)(w:S ed=Zu):
 aq gE gi S (a2 Qry (List Attr)) (λx=>qbs x.2 x.1) (enc (X:=Int)) λ_ y=>y=0:=by
 rintro⟨q,a⟩ b;have b:qbs a q:=b;have A:qsQ q:=⟨b.filts,b.strat,b.pat,b.size,b.l3,b.num⟩
 have j:qme q.pat []:=by show 0+cK q.pat<=1000000;have:=b.num;omega
 have C:(am q.pat).length<=cK q.pat:=iS q.pat;have p:qhv q.pat []:=⟨by have:=b.num;simp;omega,λy c=>(b.lv y c).2⟩
 have E:Em N (q.filts, .clo pJ [],()):=PZ h0 (λx d=>b.filts x d) λ_ _ y c=>c
 have F:q.glob=GlobE\/ ∃lb,GG lb 2 q.glob:=b.glob.imp id λh=>⟨_,h⟩
 have I:yF (q.glob,a,bp q.pat []):=⟨b.att,b.glob.imp id λh=>⟨_,h⟩⟩
 have r:a.length<=1000:=by rw[b.att];decide
 simp[gE,gi,h1,A,h2,-fB',-eB'];refine .inl ⟨j,λl hl=>?_⟩;have hl:l=bp q.pat []:=hl;subst hl;simp[h3,-fB',-eB'];refine .inl ⟨p,?_⟩;intro J;refine ah (X:=Unit) [1,2,6,20] [] (bA q.pat).length (λ_ _=>True) (λ_=>[]) (λ_=>[]) () trivial ?_ ?_
 ·rintro k ⟨⟩ hk -;obtain⟨x,d⟩:∃x,(bA q.pat)[k]? =some x:=⟨_,qF6 hk⟩
  obtain⟨_,s⟩:=qF4.1 d;have t:=qF7 d;obtain⟨y,c,rfl⟩:=qGd.1 t;have u:Xv ((mC y).cond,a,bp q.pat []):=⟨(b.lv y c).1,r⟩
  simp[hk,d,s,h4,u,-fB',-eB'];exact u
 ·rintro⟨⟩ -;simp[h5,h6,w,E,F,I,-fB',-eB']
end
section
open Go.Proofs
def Lr:CC:=gq Tryz.f29 [] {} _
def Kv:List ai:=[.cell 4 true 13]
def qgr:FO Dt [] Lr Kv 30:=fo
def Bq:CC:=gq Tryz.f65 [] {} _
def Av:List ai:=[.cell 4 true 7]
def VX:FO sO [] Bq Av 45:=fo
def wq:CC:=gq Tryz.f28 [2] { bx:=[1,43],cu:=[1] } _
def vo:List ai:=[.tmp 4]
def Pu:FO rf [2] wq vo 46:=fo
def lr:CC:=gq Tryz.f30 [2006006,2112011,1111111] { cu:=[2,5] } _
def kN:List ai:=[.cell 6 true 11]
def C5:FO ff [2006006,2112011,1111111] lr kN 159:=fo
def rF:CC:=gq Tryz.f31 [] {} _
def qK:List ai:=[.cell 2 true 3]
def KP:FO tF [] rF qK 13:=fo
def tY:CC:=gq Tryz.f8 [1049049,2050007] { bx:=[18],fz:=[(18,1)],cu:=[2,7,9] } _
def tw:List ai:=[.cell 4 true 26]
def M5:FO vM [1049049,2050007] tY tw 52:=fo
open Cod (enc dec)
variable {S S0:Nat->Spc}
def ql8(n:Nat)(x:Cond×List B):Prop:=0<n/\CS (n -1) x.1
def qdI(n:Nat)(x:Pat×List B):Prop:=0<n/\PD (n -1) x.1
def qp6(x:Pat)(l:List B):Prop:=l.length+cK x<=1000000
def QQ(n:Nat)(x:List Int×Int×List B):Prop:=x.2.1.toNat<n/\ -10<=x.2.1/\x.2.1<=100/\1<=x.2.2.length/\x.2.2.length<=1000000
def jt{q:Glob->Prop}{H:ab}{op mn mx:Int}{a b n g v:B}{f:Bool}{d e:D}(c:List B)(ks:List Glob)(j:FrzTo H d (enc c))(he:FrzTo H e (enc ks))(h:q ⟨op,a,b,n,g,v,f,mn,mx,c,ks⟩):
 Fin enc q (.agg [.v (.int .i64 op), .v (.string a), .v (.string b), .v (.string n), .v (.string g), .v (.string v), .v (.bool f), .v (.int .i64 mn), .v (.int .i64 mx),d,e]) H:=by
 refine aL (⟨op,a,b,n,g,v,f,mn,mx,c,ks⟩:Glob) ?_ h;rw[qaH];refine .agg rfl λk x y l p=>?_
 rcases k with _|_|_|_|_|_|_|_|_|_|_|k;simp_all;simp_all;simp_all;simp_all;simp_all;simp_all;simp_all;simp_all;simp_all;simp_all;simp_all;simp_all
end
end Go.Gv
