/- X13 -/
import Derived.Ground.GgzProg
import Derived.Test.YtilfeahoefpgcaaGreatDoorProg
import Derived.ProofKit
import Derived.OpenShut
import Derived.ShutString
import Derived.ChangeOld
import Derived.Test.YtilfeahoefpgcaaGreatDoorGc29
set_option linter.all false
set_option maxRecDepth 100000
set_option maxHeartbeats 0
open Bool renaming forall_bool → fB', exists_bool → eB'
namespace Go.Gv
open Go.Proofs X
variable {dq:Prop}
def qwI:List (Nat×X.Fn):=[(rN,E4),(Zg,TB),(IJ,E1),(IG,EY),(IF,EX),(GH,Dz),(EE,CR),(GJ,DA),(KD,Hk),(ID,EV),(IB,ET),(GP,DG),(EF,CT),(IC,EU),(C9,AS),(GO,DF),(GN,DE),(C8,AR),(GM,DD),(GK,DB),(GS,DI),(GR,DH),(KC,Hj),(C7,AQ),(II,EZ),(IE,EW),(O6,Le),(IA,ES),(KE,Hl),(Nf,JL),(O5,Ld),(Wu,QE)]
def qm9:∀p∈qwI,qlc p:=by
 unfold qwI
 repeat' first|exact quB|refine qoP qy3 ?_
noncomputable def qzw(s:B):Option (D×XH):=YE (ΔL qwI) qvi 10000 rN [.v (.string s)] ⟨.e, [], [],0⟩
open Cod (enc dec)
noncomputable def qv3(s:B)(q:Qry):Bool:=match qzw s with
 |some (r,h)=>fz 60 h.he r (qk8 (Y:=Qry) (Z:=Int) (W:=Int) (q,0,0))
 |none=>false
def DZ(c:UInt8):Pat:=⟨1,⟨2,E0,E0,⟨#[c]⟩,E0,false, []⟩,E0,E0,0,0, []⟩
def qdL:B:=⟨#[34,97,34,32,34,99,34]⟩
def q32:Qry:=⟨⟨4,Cond0,E0,E0,0,0, [DZ 97,DZ 99]⟩,GlobE, [],0⟩
def qmK:qv3 qdL q32=true:=by kernel_rfl
abbrev L2(s:B)(q:Qry):Spc:=aL (a1 B) (λx=>x=s) (qk8 (Y:=Qry) (Z:=Int) (W:=Int)) λ_ y=>y=(q,0,0)
def qdU{s:B}{q:Qry}(h:qv3 s q=true):TQ dq rN (L2 s q):=by
 refine Uv (qoO qm9 (fn:=E4) rfl 10000) ?_;rintro x rfl;refine⟨rfl,?_⟩;unfold qv3 at h;split at h
 ·rename_i r hh he;exact⟨r,hh,(q,0,0),he,h,rfl⟩
 ·cases h
def qbN:TQ dq rN (L2 qdL q32):=qdU qmK
end Go.Gv
namespace Go.Gv
open Go.Proofs
open Cod (enc dec)
variable {S S0:Nat->Spc}
def c32:Corpus:=⟨[⟨⟨#[119,111,114,100]⟩,false⟩], [[⟨#[97]⟩], [⟨#[98]⟩], [⟨#[97]⟩], [⟨#[99]⟩]], [⟨⟨#[116]⟩,0,4, []⟩], [], [], [], []⟩
abbrev PH:Spc:=aL a0 (λ_=>True) (enc (X:=Bool)) λ_ y=>y=true
def TA:List Span:=[⟨0,0⟩,⟨1,1⟩]
def qkK:SrcsOf q32.pat TA:=by
 refine⟨by simp[SS,TA,AP],λs=>?_⟩;show s∈TA↔SrcE ⟨4,Cond0,E0,E0,0,0, [DZ 97,DZ 99]⟩ 0 0 s;have w1:aU (DZ 97)=(1,1):=by decide
 have l1:aq (DZ 97)=[DZ 97]:=rfl;rw[qd1 rfl];show s∈TA↔qX [DZ 97,DZ 99] 0 0 s;rw[qX,qX,qX,qd2 rfl,qd2 rfl,w1,l1];simp[TA]
def qq0:qda c32 q32 TA=[2]:=by kernel_rfl
def qnw:wo (nL c32 q32) [] TA=[⟨1,1⟩]:=by kernel_rfl
def qvm:qdg TA TA:=by
 intro k x hx
 match k with
 | 0=>simp[TA]at hx;subst hx;exact⟨by simp[TA],λ_ h=>by omega⟩
 | 1=>simp[TA]at hx;subst hx;exact⟨by simp[TA],λy _ hy=>by simp[TA]at hy;subst hy;decide⟩
 |k+2=>simp[TA]at hx
def qi2{y:List Int×Int}(h:qbi (c32,q32,TA) y):y=([2],0):=by
 obtain⟨F,hF,h⟩:=h;have e:F=TA:=SrcsOf.eq hF qkK;subst e;rcases h with⟨rfl,_⟩|⟨_,h⟩
 ·exact congrArg (·,0) qq0
 ·exact absurd qvm h
def qe0{y:List Span×Int}(h:ZC (c32,q32) y):y=([⟨1,1⟩],0):=by
 obtain⟨F,hF,rfl⟩:=h;have e:F=TA:=SrcsOf.eq hF qkK;subst e;exact congrArg (·,0) qnw
theorem qbA{V:List Attr->Qry->Prop}(h1:S rN=L2 qdL q32)(h2:S rp=RA V)(h3:S BW=ZX V)(h4:S EG=qeG)(h5:S ED=LZ)(hB:ws V c32 q32):am vB uz S a0 (λ_=>True) (enc (X:=Bool)) λ_ y=>y=true:=by
 rintro⟨⟩ -;have hP:XB V (⟨[⟨⟨#[119,111,114,100]⟩,false⟩], [[⟨#[97]⟩], [⟨#[98]⟩], [⟨#[97]⟩], [⟨#[99]⟩]], [⟨⟨#[116]⟩,0,4, []⟩], [], [], [], []⟩,q32, [⟨0,0⟩,⟨1,1⟩]):=⟨hB,by decide⟩
 have hP2:ws V ⟨[⟨⟨#[119,111,114,100]⟩,false⟩], [[⟨#[97]⟩], [⟨#[98]⟩], [⟨#[97]⟩], [⟨#[99]⟩]], [⟨⟨#[116]⟩,0,4, []⟩], [], [], [], []⟩ q32:=hB;simp[vB,uz,h1,h2,h3,hP,hP2,-fB'];refine⟨rfl,λa e hq=>?_⟩;have hq:(a,e)=([2],0):=qi2 hq;cases hq;intro b f hq2;have hq2:(b,f)=([⟨1,1⟩],0):=qe0 hq2;cases hq2;simp[h4,h5,FJ,-fB']
def V12(a:List Attr)(q:Qry):Prop:=qdf a q\/qux a q
def qkM{x:Cond}(h1:gK x<=60)(h2:dn x<=60)(h:(qhZ c32.attrs [] (jE x) && (List.range 4).all λi=>(vK ⟨c32,(i:Int), [], []⟩ 21 (jE x)).isSome)=true):Hg (c32,x):=by
 simp only[qzT,qzY,qA7]at h;exact⟨⟨(by decide:c32.toks.length<=100000),(by decide:∀r∈c32.toks,r.length<=100000),(by decide:c32.attrs.length<=1000)⟩,h1,h2,h.1,λi hi=>qAQ.1 (h.2 i hi)⟩
def qmD{x:Pat}(hx:x∈aq q32.pat):x=DZ 97\/x=DZ 99:=by
 have h:x∈ [DZ 97,DZ 99]:=hx;simpa using h
def qfo:PAll (λq=>vI q/\lG q=true/\mF aI q=true) q32.pat:=by
 have v0:∀q:Pat,q.op≠2->q.op≠3->q.lab=⟨#[]⟩->mF aI q=true:=λq h2 h3 h=>by
  unfold mF;rw[decide_eq_true_eq];exact⟨λh'=>by omega,λh'=>absurd h h'⟩
 intro q hq;have:q∈ [q32.pat,DZ 97,DZ 99]:=hq;simp only[qz4,qAF,or_false]at this;rcases this with rfl|rfl|rfl
 ·exact⟨.inr (.inr (.inl ⟨.inl rfl,rfl,rfl,rfl,rfl,rfl,by decide⟩)),rfl,v0 _ (by decide) (by decide) rfl⟩
 ·exact⟨.inl ⟨rfl,rfl,rfl,rfl,rfl⟩,rfl,v0 _ (by decide) (by decide) rfl⟩
 ·exact⟨.inl ⟨rfl,rfl,rfl,rfl,rfl⟩,rfl,v0 _ (by decide) (by decide) rfl⟩
def RX{f:Pat->Bool}(p:Pat)(h:PAll (λq=>f q=true) p):cm f p=true:=by
 induction p using fY with|_ p ih=>?_
 rw[cN,PW h,qBy,qzY];exactλk hk=>ih k hk (Vq h hk)
def qkT:fI aI q32.pat=true:=by
 unfold fI;rw[RX q32.pat (CB qfo λq h=>(tS q).2 h.1),RX q32.pat (CB qfo λq h=>h.2.2),RX q32.pat (CB qfo λq h=>h.2.1)];rfl
def qkl:ws V12 c32 q32:=by
 refine⟨.inr ⟨rfl,rfl,rfl,qkT,by decide,by decide,by decide,by decide,λx hx=>?_⟩,qkT,by decide,⟨by decide,by decide⟩,⟨by decide,λx hx=>?_⟩,by decide,λx hx=>?_⟩
 ·rcases qmD hx with rfl|rfl
  ·exact⟨by kernel_rfl,1,by decide,λk hk=>by cases hk⟩
  ·exact⟨by kernel_rfl,1,by decide,λk hk=>by cases hk⟩
 ·rcases qmD hx with rfl|rfl
  ·exact⟨1,by decide,λk hk=>by cases hk⟩
  ·exact⟨1,by decide,λk hk=>by cases hk⟩
 ·rcases qmD hx with rfl|rfl
  ·exact qkM (by decide) (by decide) (by kernel_rfl)
  ·exact qkM (by decide) (by decide) (by kernel_rfl)
def Xm{n:Nat}{c:Corpus}{q:Qry}(hc:qbp c)(hq:GQ n q)(hn:n<=5):ws V12 c q:=
 have h:=(NR hc hq hn).1
 ⟨.inl h.v,h.pat,h.size,h.fx,h.pl,h.few,h.sel⟩
def qmz{c:Corpus}(h:Xu c)(hk:Pi c)(hl:(c.toks.length:Int)<=3*6):qbp c:=⟨qmo h hk,by omega⟩
def qb3{c:Corpus}{q:Qry}{y:List Int×Int}(h:qbi (c,q, []) y):y=(vP c.toks.length,0):=by
 obtain⟨F,hF,h⟩:=h;rcases h with⟨rfl,_⟩|⟨_,h⟩
 ·show(qda c q [],(0:Int))=_;exact congrArg (·,(0:Int)) (qBd.2 λi _=>rfl)
 ·exact absurd (λk x hx=>by simp at hx) h
def qeR(n:Nat):(vP n).length=n:=by simp[vP]
def WY{i:Int} :∀{l:List pU} {s e:Int},Cr s l e->s<=i->i<e->∃t∈l,XI i t=true
 | [],s,e,hc,h0,h1=>by
   have:s=e:=hc;omega
 | t::l,s,e,hc,h0,h1=>by
   obtain⟨a,b,hc⟩:=hc;by_cases h:i<t.e
   ·exact⟨t,by simp,by simp[XI];omega⟩
   ·obtain⟨u,hu,h2⟩:=WY hc (by omega) h1;exact⟨u,by simp[hu],h2⟩
def qaG{X:Type}(p:X->Bool):∀l:List X, -1<=eX l p
 | []=>by simp[eX]
 | a::l=>by
   have:=qaG p l;rw[eX];split
   ·omega
   ·split<;>omega
theorem VY{p q:pU->Bool} :∀{l:List pU},(∃t∈l,p t=true)->eX l p=eX l q->∃t,l.find? p=some t/\p t=true/\q t=true:=by
 intro l
 induction l with
 |nil=>rintro⟨t,ht,_⟩;cases ht
 | cons a l ih=>
   intro h e;have hn:∀(r:pU->Bool) (l:List pU), -1<=eX l r:=λr l=>qaG r l
   by_cases hp:p a=true
   ·refine⟨a,by simp[hp],hp,?_⟩;by_cases hq:q a=true
    ·exact hq
    ·rw[eX,eX,if_pos hp,if_neg hq]at e;have:=hn q l;split at e<;>omega
   ·by_cases hq:q a=true
    ·rw[eX,eX,if_neg hp,if_pos hq]at e;have:=hn p l;split at e<;>omega
    ·obtain⟨t,ht,h1⟩:=h;rcases qz4.1 ht with rfl|ht
     ·exact absurd h1 hp
     rw[eX,eX,if_neg hp,if_neg hq]at e;have h1':=hn p l;have h2':=hn q l;have e2:eX l p=eX l q:=by split at e<;>split at e<;>omega
     obtain⟨u,h3,h4,h5⟩:=ih ⟨t,ht,h1⟩ e2;exact⟨u,by rw[List.find?_cons_of_neg hp];exact h3,h4,h5⟩
abbrev qpk:Spc:=aL (a3 (List Int) (List Int) (List Int)) (λ_=>True) (enc (X:=Bool)) λ_ y=>y=true
theorem qbD(h1:S SN=s_m_New)(h2:S sG=s_m_Corpus)(h3:S uW=L6)(h4:S rp=RA V12)(h5:S uY=Vb)(h6:S wY=PH)(h7:S zB=FP):
 am qT qo S (a3 (List Int) (List Int) (List Int)) (λ_=>True) (enc (X:=Bool)) λ_ y=>y=true:=by
 rintro⟨l,m,n⟩ -;simp[qT,qo,h1,h2,h3,-fB',-eB'];refineλc hw hk hl L q hq b1 b2=>?_
 have hc:=qmz hw hk hl;have hB:ws V12 c q:=Xm hc hq (by show 3<=5;decide);have hcn:=(NR hc hq (by show 3<=5;decide)).2;have hP0:XB V12 (c,q, []):=⟨hB,qAk _⟩
 have hPc:∀L,qhK (L,q):=λ_=>⟨hB.fx,hcn⟩
 have hfew:=hc.few;have htl:(c.toks.length:Int)<=9223372036854775807:=by omega
 have hrl:=qeR c.toks.length;clear h1 h2 h3 hk hl hq;simp[h4,hP0,-fB',-eB'];intro a e hQ;have hQ:=qb3 hQ;cases hQ;simp[h4,h5,hPc,htl,hrl,-fB',-eB'];intro s hs;have hP1:XB V12 (c,q,s):=⟨hB,by show s.length<=100000;omega⟩
 refine⟨hP1,λa e hQ=>?_⟩;obtain⟨F,hF,hQ⟩:=hQ;rcases hQ with⟨h,hok⟩|⟨h,_⟩
 rotate_left
 ·cases h;simp[h6,-fB',-eB']
 have ha:a=qda c q s:=congrArg (·.1) h;obtain rfl:e=0:=congrArg (·.2) h;simp only[true_implies,not_true_eq_false,false_implies,true_and];intro hal;refine ah (X:=Unit) [7,9,11,62] [7] a.length (λ_ _=>True) (λ_=>[]) (λ_=>[]) () trivial ?_ ?_
 ·rintro k -hk -;obtain⟨i,hi⟩:=ed hk;obtain⟨_,hgi⟩:=qzP.1 hi;have him:i∈qda c q s:=ha ▸qzS hi;obtain⟨hir,hia⟩:=qAP.1 him;obtain⟨i0,i1⟩:=MR.1 hir;have hin:=WY hw.1 i0 i1;obtain⟨t,ht,ht1,_⟩:=VY hin rfl;have htx:HN c i=(t,true):=by unfold HN;rw[ht]
  have hte:∀x∈s,i+x.e<t.e:=λx hx=>by
   have h8:=qzY.1 hia x hx;unfold Vp at h8;simp only[qzT,decide_eq_true_eq]at h8;obtain⟨t',ht',_,h9⟩:=VY hin h8.2;rw[ht]at ht';cases ht';simp only[XI,decide_eq_true_eq]at h9;exact h9.2
  clear ht ht1 him hir hia hin ha hQ h;simp[hk,hi,hgi,h7,htx,-fB',-eB'];intro b hsl;refine ah (X:=Unit) [7,9,11,15,16,62,63,64,74] [7,16] s.length (λ_ _=>True) (λ_=>[(17, .v (.bool true))]) (λ_=>[]) () trivial ?_ ?_
  ·rintro j -hj -;obtain⟨x,hx⟩:=ed hj;obtain⟨_,hgx⟩:=qzP.1 hx;have h1:=hte x (qzS hx);have h2:x∈F:=(hok j x hx).1;obtain⟨r1,r2,r3,r4⟩:=Rq q.pat hB.pat 0 0 x ((hF.2 x).1 h2);have r5:cZ q.pat<=1000000:=hB.fx.1;simp[hj,hx,hgx,h1,-fB',-eB'];exact⟨by omega,by omega⟩
  ·rintro - -;simp[-fB',-eB']
 ·rintro - -;simp[hrl,-fB',-eB'];intro _;refine ah (X:=Unit) [94] [] c.toks.length (λ_ _=>True) (λ_=>[]) (λ_=>[]) () trivial ?_ ?_ (hn:=by simp[hrl])
  ·rintro k -hk -;have hr:(vP c.toks.length)[k]? =some (k:Int):=by simp[vP,hk]
   obtain⟨_,hrg⟩:=qzP.1 hr;simp[hk,hr,hrg,hrl,-fB',-eB']
  ·rintro - -;simp[h6,-fB',-eB']
end Go.Gv
namespace Go.Gv
open Go.Proofs
open Cod (enc dec)
variable {S S0:Nat->Spc}
end Go.Gv
namespace Go.Proofs
open Go.Shelf
def Tryz.keysA_ren:Go.Shelf.Ren:=⟨λ|7=>31|10=>73|n=>n,λ|23=>67|26=>3|3=>4|28=>91|0=>0|27=>90|33=>139|4=>4|n=>n,λ|n=>n⟩
theorem Tryz.keysA:Go.Proofs.SlLaysZI.n7 Tryz.prog Tryz.keysA_ren:={
 mixed:=by kernel_rfl
 f7:=⟨Tryz.f31.name,by decide,Tryz.func31.trans (congrArg some (by kernel_rfl))⟩
 f10:=⟨Tryz.f73.name,by decide,Tryz.func73.trans (congrArg some (by kernel_rfl))⟩
 t0:=Tryz.underlying0
 a0:=Tryz.isAgg0
 z0:=Tryz.sizeOf0
 v0:=Tryz.zeroValue0
 t4:=Tryz.underlying4
 a4:=Tryz.isAgg4
 z4:=Tryz.sizeOf4
 v4:=Tryz.zeroValue4
 t23:=Tryz.underlying67
 a23:=Tryz.isAgg67
 z23:=Tryz.sizeOf67
 v23:=Tryz.zeroValue67
 t26:=Tryz.underlying3
 a26:=Tryz.isAgg3
 z26:=Tryz.sizeOf3
 v26:=Tryz.zeroValue3
 t27:=Tryz.underlying90
 a27:=Tryz.isAgg90
 z27:=Tryz.sizeOf90
 v27:=Tryz.zeroValue90
 t28:=Tryz.underlying91
 a28:=Tryz.isAgg91
 z28:=Tryz.sizeOf91
 v28:=Tryz.zeroValue91
 t33:=Tryz.underlying139
 a33:=Tryz.isAgg139
 z33:=Tryz.sizeOf139
 v33:=Tryz.zeroValue139 }
def Tryz.sortedA_ren:Go.Shelf.Ren:=⟨λ|6=>30|8=>71|9=>72|11=>140|13=>142|12=>141|23=>208|24=>209|14=>200|15=>201|16=>202|17=>203|18=>204|19=>205|20=>69|21=>206|22=>207|25=>261|26=>262|27=>263|28=>264|29=>265|30=>139|31=>294|n=>n,λ|26=>3|28=>91|24=>22|0=>0|3=>3|37=>137|48=>255|50=>257|4=>4|40=>249|39=>248|45=>86|5=>5|9=>9|51=>294|55=>298|57=>324|58=>159|33=>139|n=>n,λ|n=>n⟩
def Tryz.sortedA:Go.Proofs.SlLaysZI.n6 Tryz.prog Tryz.sortedA_ren:={
 mixed:=by kernel_rfl
 f6:=⟨Tryz.f30.name,by decide,Tryz.func30.trans (congrArg some (by kernel_rfl))⟩
 f8:=⟨Tryz.f71.name,by decide,Tryz.func71.trans (congrArg some (by kernel_rfl))⟩
 f11:=⟨Tryz.f140.name,by decide,Tryz.func140.trans (congrArg some (by kernel_rfl))⟩
 t0:=Tryz.underlying0
 a0:=Tryz.isAgg0
 z0:=Tryz.sizeOf0
 v0:=Tryz.zeroValue0
 t24:=Tryz.underlying22
 a24:=Tryz.isAgg22
 z24:=Tryz.sizeOf22
 v24:=Tryz.zeroValue22
 t26:=Tryz.underlying3
 a26:=Tryz.isAgg3
 z26:=Tryz.sizeOf3
 v26:=Tryz.zeroValue3
 t28:=Tryz.underlying91
 a28:=Tryz.isAgg91
 z28:=Tryz.sizeOf91
 v28:=Tryz.zeroValue91
 i26:=by kernel_rfl }
end Go.Proofs
namespace Go.Gv
open Go.Proofs Cod
variable {dq:Prop}
def qbM{P:Program}{f:Nat}{X Y:Type}{A:fS X}{p1 p2:X->Prop}{er:Y->D}{post:X->Y->Prop}(h1:Tri dq P f (aL A p1 er post).pt)(h2:Tri dq P f (aL A p2 er post).pt):Tri dq P f (aL A (λx=>p1 x\/p2 x) er post).pt:=λO tp w vs ds H d K a b c e g h=>by
 rw[nO]at h;cases hd:A.dec ds with
 |none=>rw[hd]at h;exact h.elim
 | some x=>
   rw[hd]at h;rcases h.1 with hp|hp
   ·exact h1 O tp w vs ds H d K a b c e g (by rw[nO,hd];exact⟨hp,h.2⟩)
   ·exact h2 O tp w vs ds H d K a b c e g (by rw[nO,hd];exact⟨hp,h.2⟩)
def qdG:TQ dq fm (FS V12):=qbM YK HK
def Fw:TQ dq ki Va:=
 ac (ag (aa tm ae)) Ej (Fg rfl)
def wl:∀n,TQ dq bF (FW n)
 | 0=>bC λx h=>qnq h
 | n+1=>
   have h1:TQ dq eK (YC Cond (Jh [(bF,FW n)])):=ac (ag (aa (wl n) ae)) mE (Pm);have h2:TQ dq bE (qbW Cond (Jh [(bF,FW n)])):=ac (ag (aa h1 ae)) jZ (Pn rfl)
   ac (ag (aa h2 ae)) Gj (HG (S0:=(Jh [(bF,FW n)])) n rfl rfl)
def I2:TQ dq bF U4:=tri_ex (λn=>wl n) (fb (λx h=>h))
def vF:∀n,TQ dq dA (U9 n)
 | 0=>bC λx h=>qnq h.1
 |n+1=>bY (ag (aa I2 (aa (vF n) ae))) Ei (λ_=>qzU rfl) (Ff n rfl rfl)
def G3:TQ dq dA Z7:=tri_ex (λn=>vF n) (fb (λx h=>h))
def ua:TQ dq iT qeE:=
 ac (ag (aa Fw (aa G3 (aa lw (aa (vG 21) ae))))) C5 (qdB rfl rfl rfl rfl)
def Lz:TQ dq uT mW:=
 ac (ag (aa wn (aa G7 ae))) Kn (Ls rfl rfl)
def AD:TQ dq jF Z0:=
 ac (ag ae) za (Lv)
def wu:TQ dq gC Z5:=
 ac (ag (aa AD ae)) vR (Fo rfl)
def J8:TQ dq sD Aj:=
 ac (ag (aa xM (aa Lz (aa wu ae)))) Ic (JW rfl rfl rfl)
def LC:TQ dq uZ qeF:=
 ac (ag (aa AA ae)) Ku (X2 rfl)
def DU:TQ dq nj qem:=
 ac (ag ae) CX (qlt)
def vN:TQ dq fL qeM:=
 ac (ag (aa LC (aa DU ae))) uG (qlB rfl rfl)
def J4:TQ dq sI Al:=
 ac (ag ae) Ik (J1)
def A3:TQ dq pg ue:=
 ac (ag (aa wv (aa tZ ae))) Km (JV rfl rfl)
def Up:TQ dq qB (qaE iS):=qdO Tryz.keysA rfl (ir Tryz.func31 (by kernel_rfl) rfl)
def qlU(m:Nat):AnyZI.SortsIn Tryz.prog Tryz.sortedA_ren Go.Fence.wide m:=
 ⟨λblk off cap ss W hH hblk hsz=>callsIn_wide.2 (AnyG.slices_Sort_int Tryz.sortInt blk off cap ss W hH hblk hsz),λp cap W=>callsIn_wide.2 (AnyG.slices_Sort_int_none Tryz.sortInt p cap W)⟩
def J5(hdq:¬dq):TQ dq te (Rr iS):=Yj (fk:=qB) hdq Tryz.sortedA Tryz.keysA rfl (ir Tryz.func30 (by kernel_rfl) rfl) rfl qlU (enters_of Tryz.func72 (by kernel_rfl) rfl) (enters_of Tryz.func73 (by kernel_rfl) rfl)
def Dh(hdq:¬dq):TQ dq rp (RA V12):=
 ac (ag (aa qdG (aa J8 (aa A3 (aa ua (aa vN (aa J4 (aa Up (aa (J5 hdq) ae))))))))) MF (Oz rfl rfl rfl rfl rfl rfl rfl rfl)
def HM:TQ dq qD U1:=
 ac (ag (aa ua ae)) Gh (HF rfl)
def Fv:TQ dq pj (PJ V12):=
 ac (ag (aa qdG (aa A3 (aa HM ae)))) Ef (Fc rfl rfl rfl)
def Uo:TQ dq BW (ZX V12):=
 ac (ag (aa Fv (aa xM ae))) Sh (TW rfl rfl)
def LB:TQ dq uY Vb:=
 ac (ag (aa Uj (aa cQ ae))) Kt (qdz rfl rfl)
def Yd:TQ dq EG qeG:=
 ac (ag ae) Vz (XT)
def Q7:TQ dq zB FP:=
 ac (ag ae) OM (QL)
def qbI(hdq:¬dq):TQ dq wY PH:=
 ac (ag (aa qbN (aa (Dh hdq) (aa Uo (aa Yd (aa X8 ae)))))) MJ (qbA rfl rfl rfl rfl rfl qkl)
def UF(hdq:¬dq):TQ dq Aq qpk:=
 ac (ag (aa qiF (aa Kb (aa LA (aa (Dh hdq) (aa LB (aa (qbI hdq) (aa Q7 ae)))))))) Ii (qbD rfl rfl rfl rfl rfl rfl rfl)
end Go.Gv
namespace Go.Gv
open Go.ChangeShapes Go.WideShapes Go.ChangeAt Go.RowKit
section
variable {H:Type}{ec:TypeId×Value->H}{P:Program}{w:World}{base:Nat}{spare:Nat->Bool}{held:Bool}{tp I:Nat->Prop}
def OpR(tp I:Nat->Prop)(w:World)(cs:List Value)(d:D):Prop:=cs.length=d.cells.length/\∀(k:Nat) (y:Value) (c:D),cs[k]? =some y->d.cells[k]? =some c->y.oneCell'=true/\R tp I w y c
def OpR.one{y:Value}{d:D}(h:OpR tp I w [y] d)(hd:d.cells=[d]):R tp I w y d:=(h.2 0 y d rfl (by rw[hd];rfl)).2
def YQ{t:TypeId}{fuel:Nat}{cs:List Value}{x:DataW H×List MemPlace}(ht:P.underlying t=some (.int .i64))(h:DataW.trod ec P w base spare held fuel t cs=some x):∃n:Int,OpR tp I w cs (Cod.enc n):=by
 obtain⟨n,rfl,_,_⟩:=DataW.trod_int ht h;refine⟨n,rfl,λk y c h1 h2=>?_⟩;cases k with
 |zero=>cases h1;cases h2;exact⟨rfl, .v _ rfl (λs h=>by cases h)⟩
 |succ k=>simp at h1
theorem Mp{Y:Type}[Cod Y]{t e:TypeId}(ht:P.underlying t=some (.slice e))(hc:P.cellsOf e=Cod.wd Y)(h0:0<Cod.wd Y)
 (hel:∀(n:Nat) (cs:List Value) (x:DataW H×List MemPlace),DataW.trod ec P w base spare held n e cs=some x->∃y:Y,OpR tp I w cs (Cod.enc y)) (hI:∀b,b<w.heap.size->I b)
 {fuel:Nat} {cs:List Value} {x:DataW H×List MemPlace} (h:DataW.trod ec P w base spare held fuel t cs=some x) (h1w:Cod.wd Y=1:=by rfl):∃l:List Y,OpR tp I w cs (Cod.enc l):=by
 have one:∀(v:Value) (l:List Y),v.oneCell'=true->R tp I w v (.list (Cod.wd Y) (l.map Cod.enc))->OpR tp I w [v] (Cod.enc l):=λv l h1 h2=>⟨rfl,λk y c e1 e2=>by
  cases k with
  |zero=>cases e1;cases e2;exact⟨h1,h2⟩
  |succ k=>simp at e1⟩
 rcases DataW.trod_slice ht h with⟨rfl,_⟩|⟨a,len,cap,elems,rest,n,_,rfl,_,_,hl,hm,hlen,hel',_⟩
 ·exact⟨[],one _ [] rfl (.nolist none 0 _)⟩
 ·by_cases hz:len=0
  ·subst hz;exact⟨[],one _ [] rfl (.nolist (some a) cap _)⟩
  ·have each:∀i:_root_.Fin len,∃p:List Value×Y,w.cells? base (a.add (i*P.cellsOf e)) (P.cellsOf e)=some p.1/\OpR tp I w p.1 (Cod.enc p.2):=λi=>by
    have h1:=hel' i i.2;rw[qzR (by omega)]at h1;obtain⟨cs',h2,h3⟩:=qzO.1 h1;obtain⟨y,hy⟩:=hel n cs' _ h3;exact⟨(cs',y),h2,hy⟩
   obtain⟨g,hg⟩:=qBM each;obtain⟨b,off,spot⟩:=a;have cellAt:∀(i:_root_.Fin len) (j:Nat),j<Cod.wd Y->∃v,(g i).1[j]? =some v/\w.cell? ((Addr.add ⟨b,off,spot⟩ (i*Cod.wd Y)).add j)=some v:=λi j hj=>by
    have h1:=World.cells?_some (hg i).1;have h2:=h1.2.2 j (by rw[hc];exact hj);have h3:j<(g i).1.length:=by rw[h1.2.1,hc];exact hj
    refine⟨(g i).1[j],qzR h3,?_⟩;rw[hc]at h2;rw[h2,qzR h3]
   have hs:spot=none:=by
    obtain⟨v,_,h2⟩:=cellAt ⟨0,by omega⟩ 0 h0;have:=World.cell?_spot h2;simpa [Addr.add]using this
   subst hs;have hadd:∀(o n:Nat),Addr.add ⟨b,o,none⟩ n=⟨b,o+n,none⟩:=λo n=>by
    unfold Addr.add;split
    ·rename_i e;subst e;rfl
    ·rfl
   have cellAt':∀(i:_root_.Fin len) (j:Nat),j<Cod.wd Y->∃v,(g i).1[j]? =some v/\w.cell? ⟨b,off+ (i*Cod.wd Y+j),none⟩=some v:=λi j hj=>by
    obtain⟨v,h1,h2⟩:=cellAt i j hj;refine⟨v,h1,?_⟩;rw[hadd,hadd]at h2;rw[<-qBo];exact h2
   have hb:b<w.heap.size:=by
    obtain⟨v,_,h2⟩:=cellAt' ⟨0,by omega⟩ 0 h0;unfold World.cell? at h2;by_cases hlt:b<w.heap.size
    ·exact hlt
    ·simp only[qBi (Nat.le_of_not_lt hlt)]at h2;cases h2
   let es:List Y:=List.ofFn λi=>(g i).2
   have hesl:es.length=len:=by simp[es]
   have hesi:∀i:_root_.Fin len,(es.map Cod.enc)[(i:Nat)]? =some (Cod.enc (g i).2):=λi=>by
    rw[qz1];have:es[(i:Nat)]? =some (g i).2:=by simp[es]
    rw[this];rfl
   have hw:∀d∈es.map Cod.enc,d.kn=true/\d.cells.length=Cod.wd Y:=λd hd=>by
    obtain⟨y,_,rfl⟩:=qzV.1 hd;exact⟨Cod.kn y,Cod.wid y⟩
   have flatAt:∀(k:Nat) (c:D),(bb (es.map Cod.enc))[k]? =some c->∃v,w.cell? ⟨b,off+k,none⟩=some v/\v.oneCell'=true/\R tp I w v c:=λk c hk=>by
    have hkl:=(qzP.1 hk).1;rw[aY (λd hd=>(hw d hd).2),qAl,hesl]at hkl;have hdm:k=(k/Cod.wd Y) *Cod.wd Y+k % Cod.wd Y:=by have:=qBA k (Cod.wd Y);rw[qBj]at this;omega
    have hmod:k % Cod.wd Y<Cod.wd Y:=qBz _ h0;have hq:k/Cod.wd Y<len:=qBU (by rw[qBj];exact hkl);have g1:=gZ (es:=es.map Cod.enc) (λd hd=>(hw d hd).2) (i:=k/Cod.wd Y) hmod;rw[<-hdm,hk,hesi ⟨k/Cod.wd Y,hq⟩]at g1;simp only[qAb]at g1;obtain⟨v,h1,h2⟩:=cellAt' ⟨k/Cod.wd Y,hq⟩ (k % Cod.wd Y) hmod;simp only at h2;rw[<-hdm]at h2;exact⟨v,h2,(hg ⟨k/Cod.wd Y,hq⟩).2.2 _ v c h1 g1.symm⟩
   have hR:R tp I w (.slice (some ⟨b,off,none⟩) len cap) (.list (Cod.wd Y) (es.map Cod.enc)):=by
    have hll:(es.map (Cod.enc (X:=Y))).length=len:=by simp[hesl]
    rw[<-hll];have rd:∀(k:Nat) (c:D),(bb (es.map Cod.enc))[k]? =some c->w.cell? ⟨b,off+k,none⟩=some ((w.cell? ⟨b,off+k,none⟩).getD Go.undef):=λk c hk=>by
     obtain⟨v,h1,_⟩:=flatAt k c hk;rw[h1];rfl
    refine .list b off cap _ (es.map Cod.enc) (λk=>(w.cell? ⟨b,off+k,none⟩).getD Go.undef) (hI b hb) (by rw[hll];exact hl) hm (λh=>absurd h1w h) hw rd (λk c hk=>?_) (λk c hk=>?_)
    ·obtain⟨v,h1,h2,_⟩:=flatAt k c hk;rw[h1];exact h2
    ·obtain⟨v,h1,_,h2⟩:=flatAt k c hk;rw[h1];exact h2
   exact⟨es,one _ es rfl hR⟩
end
variable {dq:Prop}
section
variable {H:Type}{ec:TypeId×Value->H}{P:Program}{w:World}{base:Nat}{spare:Nat->Bool}{held:Bool}{tp I:Nat->Prop}
end
abbrev qpE(w:World):Nat->Prop:=bc (λ_=>False) (λ_=>False) da w
def YU{w:World}{b:Nat}(h:b<w.heap.size):qpE w b:=⟨h,λh=>h,λh=>h,λ⟨i,r,h,_⟩=>by simp[da]at h⟩
end Go.Gv
namespace Go.Gv
open Go.ChangeShapes Go.WideShapes Go.ChangeAt Go.RowKit
section
variable {H:Type}{ec:TypeId×Value->H}{P:Program}{w:World}{base:Nat}{spare:Nat->Bool}{held:Bool}{tp I:Nat->Prop}
end
open Cod (enc dec)
instance:Cod UInt8 where
 wd:=1
 enc n:= .v (.int .u8 n.toNat)
 dec| .v (.int .u8 n)=>if 0<=n/\n<=255 then some (UInt8.ofNat n.toNat)else none|_=>none
 kn _:=rfl
 wid _:=rfl
 dec_enc n:=by
  have:=n.toNat_lt;simp only;rw[if_pos (by omega)];congr 1;rw[qB4,UInt8.ofNat_toNat]
 le d x h:=by
  split at h
  ·split at h
   ·rename_i n hn;cases h;have e:((UInt8.ofNat n.toNat).toNat:Int)=n:=by
     rw[qBC];omega
    show FrzTo da _ (.v (.int .u8 ((UInt8.ofNat n.toNat).toNat:Int)));rw[e];exact .same _
   ·cases h
  ·cases h
variable {dq:Prop}
section
variable {H:Type}{ec:TypeId×Value->H}{P:Program}{w:World}{base:Nat}{spare:Nat->Bool}{held:Bool}{tp I:Nat->Prop}
end
theorem YZ{P:Program}{f:Nat}{X:Type}{A:fS X}{p:X->Prop}{q:X->Bool->Prop}(h:Tri dq P f (aL A p (Cod.enc (X:=Bool)) q).pt)(hq:∀x y,q x y->y=true){w:World}{vs:List Value}{ds:List D}{x:X}(hp:p x)(hlen:vs.length=ds.length)
 (hR:∀(k:Nat) (y:Value) (c:D),vs[k]? =some y->ds[k]? =some c->R (λ_=>False) (qpE w) w y c) (hdec:A.dec ds=some x) (hG:GlW (λ_=>False) (λ_=>False) w):
 Calls P f vs.toArray w λe w'=>e= .returned (.bool true)/\Below w.heap.size w w':=by
 obtain⟨_,hc⟩:=h (λ_=>False) (λ_=>False) w vs ds da 0 (λr H'=>r= .v (.bool true)) (λb h=>h.elim) ⟨λb h=>h.elim,hG.mono (λ_ h=>h) (λb ⟨i,r,h,_⟩=>by simp[da]at h)⟩
  ⟨λi j r s b h=>by simp[da]at h,λi r b h=>by simp[da]at h,λi r h=>by simp[da]at h⟩ hlen hR
  (by rw[nO,hdec];exact⟨hp,λy hy=>by rw[hq x y hy];rfl⟩)
 refine hc.mono ?_;rintro e w' ⟨v,r,H',tp',rfl,hr,_,_,_,hs,_,_,hv⟩;subst hr;have hv':=hv.inv_v;subst hv';exact⟨rfl,hs.os,hs.tape,hs.output,hs.size,λk hk=>hs.same k hk (λ⟨i,r,h,_⟩=>by simp[da]at h) (λh=>h)⟩
end Go.Gv
