/- W80 -/
import Derived.Test.YtfpmgnnippjblaaGreatDoorGa22
set_option linter.all false
set_option maxRecDepth 100000
set_option maxHeartbeats 0
open Bool renaming forall_bool → fB', exists_bool → eB'
namespace Go.Gv
section
open Cod (enc dec)
variable {S S0:Nat->Spc}
def qag(x:List Int×Int×List B)(y:Cond):Prop:=GI x.2.2 x.2.1.toNat y
abbrev Mb(n:Nat):Spc:=aA (aT (a2 Int (List B))) (QT n) (enc (X:=Cond)) qag
def qA2{i:Nat}{a:B}(h:[(⟨#[119,111,114,100]⟩:B),⟨#[119,111,114,100]⟩,⟨#[116,97,103]⟩][i]? =some a):a∈Attr2:=by
 grind [Attr2,th,Jy]
def qyJ{i:Nat}{a:B}(h:[(⟨#[119,111,114,100]⟩:B),⟨#[116,97,103]⟩][i]? =some a):a∈Attr2:=aP h
def qyI{i:Nat}{a:B}(h:[(⟨#[112]⟩:B),⟨#[113]⟩][i]? =some a):a∈FeatL:=aP h
def qyH{i:Nat}{a:B}(h:[(⟨#[49]⟩:B),⟨#[50]⟩][i]? =some a):a∈NumL:=aP h
def qAa{i:Nat}{a:B}(h:[(⟨#[97]⟩:B),⟨#[98]⟩,⟨#[97,46,42]⟩,⟨#[91,97,98,93]⟩][i]? =some a):a∈ValsT:=aP h
def qA1{i:Nat}{a:B}(h:[(⟨#[97]⟩:B),⟨#[98]⟩,⟨#[97,46,42]⟩,⟨#[91,97,98,93]⟩,⟨#[88]⟩,⟨#[]⟩,⟨#[99,63]⟩,⟨#[97,124,98]⟩][i]? =some a):a∈ValsI:=by
 have:=aP h;simp only[ValsI,qBt,qBF,or_false]at this ⊢;grind
theorem YH(n:Nat)(h1:S cb=s_m_Next)(h2:S rr=xb)(h3:S jX=Mb n):aq sv rP S (aT (a2 Int (List B))) (QT (n+1)) (enc (X:=Cond)) qag:=by
 rintro⟨L,deep,lb⟩ ⟨hn,E,F,q⟩;simp only at hn E F q;simp[sv,rP,h1];intro b6 k0 W Y;refine ba (X:=Int) [0,1,2,6] [6] (λk=>0<=k/\k< 12/\(deep< 1->k< 8)) (λk=>[(7,enc k)]) (λ_=>[]) ?_ ?_
 ·simp;grind
 rintro k ⟨q0,q1,q2⟩;refine ba (X:=Unit) [0,1,2,6,7] [6] (λ_=>10<=k) (λ_=>[]) (λ_=>[]) ?_ ?_
 ·simp;refine ba (X:=Bool) [0,1,2,6,7,15] [6] (λb=>b=decide (k< 4)) (λb=>[(16,enc b)]) (λ_=>[]) ?_ ?_;simp;omega;rintro b hb;simp[h1,PM,Vg,qpK,qlk,lI,qu,-fB'];refine⟨λ_ y c d=>⟨c,d,λa r y c d=>⟨c,d,λI s y c d=>fN [] (.nil _) (.atom _ _ (.val a I _ (qA2 r) (qA1 s)))⟩⟩,λp=>?_⟩;rw[p]at hb;have hb:4<=k:=by simpa using hb.symm
  refine⟨λ_ y c d=>⟨c,d,λa r=>fN [] (.nil _) (.atom _ _ (.feat a (qyI r)))⟩,λk4=>⟨λ_ _=>⟨λhl y c d=>⟨c,d,λa r _=>⟨by omega,λy C=>⟨by omega,by omega,λI s y c d=>⟨c,d,λJ A=>fN [] (.nil _) (.atom _ _ (.same a I J (qyJ r) (aP s) (qyJ A)))⟩⟩⟩⟩,λ_=>fN [] (.nil _) (.atom _ _ (.val Jy _ false (by simp[Attr2]) (by simp[ValsI])))⟩,λk5=>?_⟩⟩;refine ba (X:=Bool) [0,1,2,6,7,15] [6] (λb=>b=decide (k=6\/k=7)) (λb=>[(67,enc b)]) (λ_=>[]) ?_ ?_
  ·simp
   repeat' first|apply And.intro|intro _
   all_goals first|omega|(rw[qBK];simp;omega)
  rintro b u;simp[h1,h2,-fB'];refine⟨λ_ y c d=>⟨trivial,λt U Z=>?_⟩,λp=>?_⟩
  ·refine ba (X:=B×B) [6,8] [6] (λx=>(x.1=E0/\x.2=E0)\/(x.1=qlj/\x.2∈NumL)) (λ_=>[]) (λx=>[(8, .box Z [.v (.int .i64 5), .v (.string t), .v (.string x.1), .v (.string x.2), .v (.string ⟨#[]⟩), .v (.bool false), .v (.slice none 0 0)])]) ?_ ?_
   ·simp[h1,PM,lI,qu];refineλy c d=>⟨λ_ z K M=>⟨K,M,λa r=>⟨qlj,a, .inr ⟨rfl,qyH r⟩, .inl ⟨rfl,rfl⟩⟩⟩,λ_=>⟨E0,E0, .inl ⟨rfl,rfl⟩, .inl ⟨rfl,rfl⟩⟩⟩
   ·rintro⟨a,v⟩ N;simp;refine fN [] (.nil _) (.atom _ _ ?_);rcases N with⟨rfl,rfl⟩|⟨rfl,hv⟩
    ·exact .reg t U
    ·exact .regk t v U hv
  rw[p]at u;have u:¬(k=6\/k=7):=by simpa using u.symm
  refine ba (X:=Bool) [0,1,2,6,7,15] [6] (λb=>b=decide (k=8\/k=9)) (λb=>[(85,enc b)]) (λ_=>[]) ?_ ?_
  ·simp
   repeat' first|apply And.intro|intro _
   all_goals first|omega|(rw[qBK];simp;omega)
  rintro b l;simp[h3,-fB'];have j:1<=deep->QT n (L,deep -1,lb):=λh=>⟨by show(deep -1).toNat<n;omega,by show -10<=deep -1;omega,by show deep -1<=100;omega,q⟩
  refine⟨λO=>?_,λp=>?_⟩
  ·rw[O]at l;have l:k=8\/k=9:=by simpa using l.symm
   have w:deep.toNat=(deep -1).toNat+1:=by omega
   refine⟨by simp only[InR];omega,j (by omega),λy C=>fN [y] (by simp) (by show GI lb deep.toNat _;rw[w];exact .not _ _ C)⟩
  rw[p]at l;have l:¬(k=8\/k=9):=by simpa using l.symm
  omega
 ·rintro -hk;have j:QT n (L,deep -1,lb):=⟨by show(deep -1).toNat<n;omega,by show -10<=deep -1;omega,by show deep -1<=100;omega,q⟩
  have w:deep.toNat=(deep -1).toNat+1:=by omega
  simp[h3];refine⟨by simp only[InR];omega,by simp only[InR];omega,by simp only[InR];omega,j,λy C=>⟨by simp only[InR];omega,j,λy' Q=>fN [y,y'] (by simp) (by show GI lb deep.toNat _;rw[w];exact .two _ _ _ _ (by omega) C Q)⟩⟩
def qlW(x:List Int×Int×List B)(y:Cond):Prop:=GC x.2.2 x.2.1.toNat y
abbrev PY:Spc:=aA (aT (a2 Int (List B))) (λx=> -10<=x.2.1/\x.2.1<=100/\x.2.2.length<=1000) (enc (X:=Cond)) qlW
abbrev JE:Spc:=aA (aT (a2 Int (List B))) (λx=>∃n,QT n x) (enc (X:=Cond)) qag
theorem qcp(h1:S cb=s_m_Next)(h3:S jX=JE):aq uB tE S (aT (a2 Int (List B))) (λx=> -10<=x.2.1/\x.2.1<=100/\x.2.2.length<=1000) (enc (X:=Cond)) qlW:=by
 rintro⟨L,deep,lb⟩ ⟨b,c,d⟩;simp only at b c d;simp[uB,tE,h1];intro q;refine ba (X:=Unit) [0,1,2,6] [6] (λ_=>True) (λ_=>[]) (λ_=>[]) ?_ ?_
 ·simp[h1,qlk,lI,qu,-fB'];exactλy _ _=>⟨λ_=>fN [] (.nil _) .any,λ_=>⟨λ_ z j k=>⟨j,k,λa l u _ _=>fN [] (.nil _) (.top a _ (qAa l))⟩,λ_ _ z j k=>⟨j,k,λa l u _ _=>fN [] (.nil _) (.top a _ (qAa l))⟩⟩⟩
 ·rintro - -;have h:∃n,QT n (L,deep,lb):=⟨deep.toNat+1,Nat.lt_succ_self _,b,c,d⟩
  simp[h3,h];exactλy p=>fN y.kids (.same _) (by show GC lb deep.toNat _;rw[G6 y];exact .inner _ p)
def qnd{p:Pat}{C:Pat->Prop}(h1:¬p.op=1)(h2:p.kids=[]):∀y∈am p,C y:=by
 simp_all [aV]
def qnb{p:Pat}{C:Pat->Prop}(h1:p.op=1)(h:C p):∀y∈am p,C y:=by
 simp_all [aV]
def qnc{p a:Pat}{C:Pat->Prop}(h1:¬p.op=1)(h2:p.kids=[a])(b:∀y∈am a,C y):∀y∈am p,C y:=by
 simp_all [aV]
def qf6{p a b:Pat}{C:Pat->Prop}(h1:¬p.op=1)(h2:p.kids=[a,b])(c:∀y∈am a,C y)(hb:∀y∈am b,C y):∀y∈am p,C y:=by
 rw[aV,if_neg h1,h2];grind
def N5(x:List Int×Int×List B)(p:Pat):Prop:=qsg x p/\∀y∈am p,GC x.2.2 1 y.cond
abbrev FT(n:Nat):Spc:=aA (aT (a2 Int (List B))) (qb6 n) (enc (X:=Pat)) N5
theorem Rs(n:Nat)(h1:S cb=s_m_Next)(h2:S rr=xb)(h3:S wh=PY)(h4:S gI=FT n):aq oU nq S (aT (a2 Int (List B))) (qb6 (n+1)) (enc (X:=Pat)) N5:=by
 rintro⟨L,deep,lb⟩ ⟨hn,u,w,q⟩;simp only at hn u w q;simp[oU,nq,h1];intro U W J K;refine ba (X:=Int) [0,1,2,6] [6] (λk=>0<=k/\k< 14/\(deep< 1->k< 7)) (λk=>[(7,enc k)]) (λ_=>[]) ?_ ?_
 ·simp;grind
 rintro k ⟨Y,Z,q2⟩;refine ba (X:=Unit) [0,1,2,6] [6] (λ_=>12<=k) (λ_=>[]) (λ_=>[]) ?_ ?_
 ·have b:1<=deep->qb6 n (L,deep -1,lb):=λh=>⟨by grind,by grind,by grind,q⟩
  have j:1<=deep->deep.toNat=(deep -1).toNat+1:=λh=>by omega
  simp[h1,h2,h3,h4,-fB'];refine⟨λhk=>⟨q,λc hc M=>?_⟩,λhk=>⟨λA=>⟨by grind [InR],by grind [InR],λy _ _=>⟨trivial,λt N=>Cg [] [] (.nil _) (.nil _) ⟨⟨qvK (.inr ⟨by grind,rfl,rfl,N,rfl,rfl,rfl⟩),qfH qbS rfl⟩,qnd (by grind) rfl⟩⟩⟩,λA=>⟨λr=>⟨by grind [InR],b (by omega),λy p=>⟨by grind [InR],b (by omega),λs l=>?_⟩⟩,λr F=>⟨by grind [InR],b (by omega),λy p=>⟨by grind [InR],b (by omega),λs l=>?_⟩⟩⟩⟩⟩
  ·refine ba (X:=B) [6,8] [6] (λx=>x=⟨#[]⟩\/x∈lb) (λ_=>[]) (λx=>[(8, .box M [.v (.int .i64 1), .v (.int .i64 c.op), .v (.string c.name), .v (.string c.arg), .v (.string c.val), .v (.string c.lab), .v (.bool c.fold),enc c.kids, .v (.string x), .v (.string ⟨#[]⟩), .v (.int .i64 0), .v (.int .i64 0), .v (.slice none 0 0)])]) ?_ ?_
   ·simp[h1];exactλ_ h0 y _ _ _ _=>⟨by omega,λz hz=>⟨by omega,by omega,λa O=> .inr ⟨a,aP O, .inl rfl⟩⟩⟩
   ·rintro x Q;simp;exact Cg c.kids [] (.same _) (.nil _) ⟨⟨qvK (.inl ⟨rfl,Q,rfl,rfl,rfl,rfl⟩),qfH ⟨_,qkA (d:=c) rfl (qrb hc)⟩ rfl⟩,qnb rfl (by show GC lb 1 _;rw[G6 c];exact hc)⟩
  ·refine Cg [] [y,s] (.nil _) (by simp) ?_;refine⟨⟨?_,qfG (j (by omega)) qbS rfl p.1.2 l.1.2⟩,qf6 (by show ¬(4:Int)=1;decide) rfl p.2 l.2⟩;show WP lb deep.toNat _;rw[j (by omega)];exact .inr (.inl ⟨.inl rfl,rfl,rfl,rfl,rfl,rfl,y,s,rfl,p.1.1,l.1.1⟩)
  ·refine Cg [] [y,s] (.nil _) (by simp) ?_;refine⟨⟨?_,qfG (j (by omega)) qbS rfl p.1.2 l.1.2⟩,qf6 (by show ¬(5:Int)=1;decide) rfl p.2 l.2⟩;show WP lb deep.toNat _;rw[j (by omega)];exact .inr (.inl ⟨.inr rfl,rfl,rfl,rfl,rfl,rfl,y,s,rfl,p.1.1,l.1.1⟩)
 ·rintro -hk;have b:qb6 n (L,deep -1,lb):=⟨by show(deep -1).toNat<n;omega,by show -10<=deep -1;omega,by show deep -1<=100;omega,q⟩
  have j:deep.toNat=(deep -1).toNat+1:=by omega
  have wK:∀(mn mx:Int) (y:Pat) (H:ab),(mn,mx) ∈Ym->N5 (L,deep -1,lb) y->Fin enc (N5 (L,deep,lb)) (.agg [.v (.int .i64 6), .v (.int .i64 0), .v (.string ⟨#[]⟩), .v (.string ⟨#[]⟩), .v (.string ⟨#[]⟩), .v (.string ⟨#[]⟩), .v (.bool false), .v (.slice none 0 0), .v (.string ⟨#[]⟩), .v (.string ⟨#[]⟩), .v (.int .i64 mn), .v (.int .i64 mx), .list 13 [enc y]]) H:=by
   intro mn mx y H hm p;refine Cg [] [y] (.nil _) (by simp) ?_;refine⟨⟨?_,qmS j qbS rfl p.1.2⟩,qnc (by show ¬(6:Int)=1;decide) rfl p.2⟩;show WP lb deep.toNat _;rw[j];exact .inr (.inr ⟨rfl,rfl,rfl,rfl,hm,y,rfl,p.1.1⟩)
  simp only[qbG]at wK;simp[h1,h4];intro y C E;refine⟨C,E,λd I=>?_⟩;have:y=0\/y=1\/y=2\/y=3\/y=4\/y=5\/y=6:=by omega
  rcases this with rfl|rfl|rfl|rfl|rfl|rfl|rfl
  all_goals (simp at I;subst I;simp[h4])
  all_goals exact⟨by simp only[InR];omega,b,λy p=>wK _ _ y _ (by simp[Ym]) p⟩
end
section
open Go.Proofs
def EF{f:Pat->Bool}(p:Pat)(h:bX f p=true):CT (λq=>f q=true) p:=by
 induction p using fh with|_ p a=>?_
 rw[cH,qBh,qBi]at h;exact qjA h.1 λk hk=>a k hk (h.2 k hk)
def qc6(p:Pat):CT qt p->∀q∈rT p,q.op=1->q∈am p:=by
 induction p using fh with|_ p b=>?_
 intro a q hq h1;have hp:=Il a;rw[aV];cases p with
 | mk op cond lab reg mn mx ks=>
   rw[rT]at hq;rcases qBt.1 hq with rfl|hq
   ·rw[if_pos h1];simp
   ·obtain⟨k,hk,hq⟩:=uY hq;split
    ·rename_i e;rcases hp with h|h|h|h
     ·have:=h.2.2.2.2;simp only at this;rw[this]at hk;cases hk
     ·have:=h.1;simp only at this e;omega
     ·have:=h.1;simp only at this e;omega
     ·have:=h.1;simp only at this e;omega
    ·exact qCG.2 ⟨k,hk,b k hk (Mx a hk) q hq h1⟩
def qiZ:Prop:=aB qvp=true/\aB qkT=true/\aB qvo=true/\aB qn9=true/\aB qpg=true
def wT{b:B}(h:(decide (1<=b.size) && decide (b.size<=32) && (b.data.toList.all λc=>K7 c.toNat))=true):aB b=true:=by
 simp only[qBh,decide_eq_true_eq,qBi]at h;have hm:∀(k:Nat) (c:UInt8),b.data[k]? =some c->K7 c.toNat=true:=λk c hc=>h.2 c (by rw[<-qBD]at hc;exact qBf hc)
 rw[DG];exact⟨h.1.1,h.1.2,hm 0,λk c hc=>by unfold Po;rw[hm k c hc];rfl⟩
def qme:qiZ:=⟨wT (by decide),wT (by decide),wT (by decide),wT (by decide),wT (by decide)⟩
def SO{lb:List B} :∀{n:Nat} {c:Cond},GI lb n c->KO (n+1) c
 |n,_, .atom _ c h=>⟨by rw[vd h];decide,λk hk=>by rw[vd h]at hk;cases hk⟩
 | _,_, .not n k h=>⟨qBg rfl,λz hz=>by rw[qCo]at hz;subst hz;exact SO h⟩
 | _,_, .two n op a b _ h1 h2=>⟨qBg rfl,λz hz=>by
    simp only[qBt,qBF,or_false]at hz;rcases hz with rfl|rfl
    ·exact SO h1
    ·exact SO h2⟩
def qm8{lb:List B}{n:Nat}{c:Cond}(h:GC lb n c):∃m,KO m c:=by
 cases h with
 |any=>exact⟨1,by decide,λk hk=>by cases hk⟩
 |top v f h=>exact⟨1,qBg rfl,λk hk=>by cases hk⟩
 |inner c h=>exact⟨_,SO h⟩
structure qca (c:Corpus):Prop where
 ok:OkCorp c
 few:c.toks.length<=60


open Cod (enc dec)
variable {S S0:Nat->Spc}
end
section
open Go.Proofs
def Gi:FO gI [2006006] oU nq 103:=fo
open Go.Proofs Cod
variable {dq:Prop}
def Hj:TQ dq rr xb:=
 ac (ag (aa RM ae)) Qg (qco rfl)
def zU:∀n,TQ dq jX (Mb n)
 | 0=>bF λx h=>by have:=h.1;omega
 |n+1=>aZ (ag (aa dg (aa Hj (aa (zU n) ae)))) KI (λ_=>qBg rfl) (YH n rfl rfl rfl)
def NP:TQ dq jX JE:=cK (λn=>zU n) (dC (λx h=>h))
def Ps:TQ dq wh PY:=
 ac (ag (aa dg (aa NP ae))) MQ (qcp rfl rfl)
def xJ:∀n,TQ dq gI (FT n)
 | 0=>bF λx h=>by have:=h.1;omega
 |n+1=>aZ (ag (aa dg (aa Hj (aa Ps (aa (xJ n) ae))))) Gi (λ_=>qBg rfl) (Rs n rfl rfl rfl rfl)
end
section
open Go.Proofs


open Cod (enc dec)
variable {S S0:Nat->Spc}
end
section
open Go.Proofs Cod
variable {dq:Prop}
def C5:∀n,TQ dq lN (qaH n)
 | 0=>bF λx h=>qcQ h.1
 |n+1=>aZ (ag (aa (C5 n) ae)) MG (λ_=>qBg rfl) (Ox n rfl)
def OM:TQ dq lN Vt:=
 cK (λn=>C5 n) (dC (λx h=>⟨dJ x,qBj _,h⟩))
def CW:TQ dq lQ Lg:=
 ac (ag (aa vy (aa OM ae))) MM (OF rfl rfl)
end
section
variable {S S0:Nat->Spc}
mutual
def fl:Glob->Nat| .mk _ _ _ _ _ _ _ _ _ _ ks=>kV ks+1
def kV:List Glob->Nat|[]=>0|k::ks=>max (fl k) (kV ks)
end
def Ce:∀{ks:List Glob} {k:Glob},k∈ks->fl k<=kV ks
 | x::ks,k,h=>by
   rw[kV];rcases qBt.1 h with rfl|h
   ·omega
   ·have:=Ce h;omega
def GM{p k:Glob}(h:k∈p.kids):fl k<fl p:=by
 have:=Ce h;cases p;rw[fl];simp only at this;omega
mutual
def vX:Glob->Nat| .mk _ _ _ _ _ _ _ _ _ _ ks=>kT ks+1
def kT:List Glob->Nat|[]=>0|k::ks=>vX k+kT ks
end
def SN(x:Glob):vX x=kT x.kids+1:=by cases x;rw[vX]
def Cf(x:Glob):fl x=kV x.kids+1:=by cases x;rw[fl]
def IF:∀(a b:List Glob),kT (a++b)=kT a+kT b
 | [],b=>by rw[qCa,kT];omega
 |k::a,b=>by rw[qCd,kT,kT,IF a b];omega
def Qz:∀(a b:List Glob),kV (a++b)=max (kV a) (kV b)
 | [],b=>by rw[qCa,kV];omega
 |k::a,b=>by rw[qCd,kV,kV,Qz a b];omega
def Qk{ks:List Glob}{k:Nat}{x:Glob}(h:ks[k]? =some x):kT (ks.take (k+1))=kT (ks.take k) +vX x/\kV (ks.take (k+1))=max (kV (ks.take k)) (fl x)/\kT (ks.take (k+1))<=kT ks:=by
 have e:=au h;refine⟨by rw[e,IF,kT,kT];omega,by rw[e,Qz,kV,kV];omega,?_⟩
 conv=>rhs;rw[<-qBI (k+1) ks,IF]
 omega
def qgA{lb:List B}{n:Nat}{g:Glob}(h:GG lb n g):vX g< 2^ (n+1)/\fl g<=n+1:=by
 induction h with
 |not n k h j=>rw[vX,fl,Nat.pow_succ];simp only[kT,kV];omega
 |two n op a b ho h1 h2 c d=>rw[vX,fl,Nat.pow_succ];simp only[kT,kV];omega
 |bound n|val n|same n|dist n|reg n|head n|path n|node n|depth n=>have:=Nat.one_le_two_pow (n:=n);rw[vX,fl,Nat.pow_succ];simp only[kT,kV];omega
def Ti{lb:List B}{n:Nat}{g k:Glob}(h:GG lb n g)(hk:k∈g.kids):∃m,m<=n/\GG lb m k:=by
 cases h with
 | not n c h=>
   simp at hk;subst hk;exact⟨n,by omega,h⟩
 | two n op a b ho h1 h2=>
   simp at hk;rcases hk with rfl|rfl
   ·exact⟨n,by omega,h1⟩
   ·exact⟨n,by omega,h2⟩
 | _=>cases hk
end
section
open Go.Proofs
def qj:CC:=gq Tryz.f134 [3] {} _
def pz:List ai:=[.tmp 6, .tmp 7]
def It:FO iM [3] qj pz 40:=fo
def bI:CC:=gq Tryz.f136 [1,2029005,2028005,2027005,2026005,2037005,2036005,2045005,2044005,2068005,2067005,2066005] {} _
def bG:List ai:=[.tmp 2]
def Pb:FO dS [1,2029005,2028005,2027005,2026005,2037005,2036005,2045005,2044005,2068005,2067005,2066005] bI bG 155:=fo
def ux:CC:=gq Tryz.f135 [3,2] {} _
def tB:List ai:=[.tmp 4]
def ML:FO lP [3,2] ux tB 15:=fo
def ql:CC:=gq Tryz.f199 [2] {} _
def pB:List ai:=[.tmp 3]
def Iv:FO fF [2] ql pB 8:=fo
def df:CC:=gq Tryz.f198 [] {} _
def dc:List ai:=[.tmp 4]
def mS:FO dj [] df dc 9:=fo
def dL:CC:=gq Tryz.f257 [] {} _
def dE:List ai:=[.tmp 4]
def pN:FO eb [] dL dE 19:=fo
def ki:CC:=gq Tryz.f201 [] {} _
def jF:List ai:=[.tmp 2]
def A0:FO eK [] ki jF 10:=fo
def ej:CC:=gq Tryz.f200 [] {} _
def dW:List ai:=[.tmp 4]
def qZ:FO eH [] ej dW 9:=fo
def fb:CC:=gq Tryz.f258 [] {} _
def eU:List ai:=[.tmp 4]
def tK:FO fq [] fb eU 19:=fo
open Cod (enc dec)
variable {S S0:Nat->Spc}
abbrev qap(x:Glob):Prop:=∃lb m,GG lb m x
abbrev qa1:Spc:=aA (a1 Glob) qap (enc (X:=Bool)) λx y=>y=true
set_option maxHeartbeats 1000000 in
theorem OE:aq bI bG S (a1 Glob) qap (enc (X:=Bool)) λx y=>y=true:=by
 rintro x ⟨lb,m,h⟩;cases h with
 |bound n a h=>simp[bI,bG,E0,-fB',-eB']
 |val n a v f h1 h2=>simp[bI,bG,E0,-fB',-eB']
 |same n a b g h1 h2 h3=>simp[bI,bG,E0,-fB',-eB']
 |dist n a b mn mx h1 h2 h3 h4 h5 h6=>simp[bI,bG,E0,-fB',-eB']
 |reg n a b t h1 h2 h3=>simp[bI,bG,E0,-fB',-eB']
 |path n a b l h1 h2 h3 h4=>simp[bI,bG,E0,-fB',-eB']
 |node n a b t h1 h2 h3=>simp[bI,bG,E0,-fB',-eB']
 |depth n a mn mx h1 h3 h4 h5 h6=>simp[bI,bG,E0,-fB',-eB']
 |head n op a b ho h1 h2=>rcases ho with rfl|rfl<;>simp[bI,bG,E0,-fB',-eB']
 |not n k h=>simp[bI,bG,E0,-fB',-eB']
 |two n op a b ho h1 h2=>rcases ho with rfl|rfl<;>simp[bI,bG,E0,-fB',-eB']
def qsl(n:Nat)(x:Glob×Int×Int):Prop:=fl x.1<=n/\0<=x.2.1/\x.2.1+vX x.1<=60/\0<=x.2.2/\x.2.2+fl x.1<=1000/\fl x.1<=60
abbrev VF(n:Nat):Spc:=aA (a3 Glob Int Int) (qsl n) (lH (Y:=Int) (Z:=Int)) λx y=>y=(x.2.1+vX x.1,x.2.2+fl x.1 -1)
abbrev VG:Spc:=aA (a3 Glob Int Int) (λx=>∃n,qsl n x) (lH (Y:=Int) (Z:=Int)) λx y=>y=(x.2.1+vX x.1,x.2.2+fl x.1 -1)
theorem HO(n:Nat)(h1:S iM=VF n):aq qj pz S (a3 Glob Int Int) (qsl (n+1)) (lH (Y:=Int) (Z:=Int)) λx y=>y=(x.2.1+vX x.1,x.2.2+fl x.1 -1):=by
 rintro⟨x,nodes,deep⟩ ⟨hn,h0,h2,h3,h4,h5⟩;simp only at hn h0 h2 h3 h4 h5;have j:=Cf x;have l:=SN x;simp[qj,pz];refine⟨by grind [Spc,InR],λp=>?_⟩;refine ah (X:=Int×Int) [2,17] [] x.kids.length (λk z=>z.1=nodes+1+ (kT (x.kids.take k):Int)/\z.2=deep+ (kV (x.kids.take k):Int)) (λz=>[(1,enc z.1),(8,enc z.2)]) (λ_=>[]) (nodes+1,deep) (by simp[kT,kV]) ?_ ?_
 ·rintro k ⟨m,d⟩ hk ⟨q,h⟩;simp only at q h;obtain⟨y,b⟩:=aY hk;obtain⟨_,c⟩:=qBc.1 b;have hm:=Qk b;have r:=Ce (aP b);have hp:qsl n (y,m,deep+1):=⟨by show fl y<=n;omega,by show 0<=m;omega,by show m+vX y<=60;omega,by show 0<=deep+1;omega,by show deep+1+fl y<=1000;omega,by show fl y<=60;omega⟩
  have a:¬60<m:=by have:=SN y;omega
  simp[h1,hk,b,c,hp,a];exact⟨by simp only[InR];omega,by omega,by rw[hm.2.1,h];omega⟩
 simp;omega
def qgy(x:Glob):D.agg [D.v (Value.int IntKind.i64 x.op),D.v (Value.string x.a),D.v (Value.string x.b),D.v (Value.string x.name),D.v (Value.string x.arg),D.v (Value.string x.val),D.v (Value.bool x.fold),D.v (Value.int IntKind.i64 x.mn),D.v (Value.int IntKind.i64 x.mx),D.list 1 (List.map enc x.args),D.list 11 (List.map enc x.kids)]=enc x:=by simp
def Oa(S0:Nat->Spc)(x:List Glob×D×Unit):Prop:=FunOnP S0 x.2.1 x.1 λ_=>false
abbrev qfi(S0:Nat->Spc):Spc:=aA (aE (List Glob) (aD a0)) (Oa S0) (enc (X:=Int)) λx y=>y= -1
def qO:aq dL dE S (aE (List Glob) (aD a0)) (Oa S) (enc (X:=Int)) λx y=>y= -1:=by
 rintro⟨l,d,⟨⟩⟩ hp;replace hp:FunOnP S d l λ_=>false:=hp
 simp[dL,dE,-fB',-eB'];intro h;refine ah (X:=Unit) [0,1] [] l.length (λk _=>True) (λ_=>[]) (λ_=>[]) () (by simp) ?_ ?_
 ·rintro k -hk -;obtain⟨y,a⟩:=aY hk;obtain⟨_,c⟩:=qBc.1 a;simp[hk,a,c,-fB',-eB'];rw[qgy y];refine hp.useB y (aP a) λb hb=>?_
  grind [Pg]
 simp
abbrev qfk(S0:Nat->Spc):Spc:=aA (aE (List Glob) (aD a0)) (Oa S0) (enc (X:=Bool)) λx y=>y=false
def mU(h1:S eb=qfi S0):aq df dc S (aE (List Glob) (aD a0)) (Oa S0) (enc (X:=Bool)) λx y=>y=false:=by
 rintro⟨l,d,⟨⟩⟩ hp;simp_all [df,dc]
def qot(n:Nat)(x:Glob):Prop:=fl x<=n/\qap x
abbrev VV(n:Nat):Spc:=aA (aE Glob (aD a0)) (λx=>qot n x.1/\x.2.1= .clo dS []) (enc (X:=Bool)) λx y=>y=true
abbrev VW:Spc:=aA (aE Glob (aD a0)) (λx=>(∃n,qot n x.1)/\x.2.1= .clo dS []) (enc (X:=Bool)) λx y=>y=true
abbrev Mk(n:Nat):Spc:=aA (aE Glob (aD a0)) (λx=>qot n x.1/\x.2.1= .cptr [.clo dS []] 0) (enc (X:=Bool)) λx y=>y=false
def Kg(n:Nat)(h1:S lP=VV n):aq ql pB S (aE Glob (aD a0)) (λx=>qot n x.1/\x.2.1= .cptr [.clo dS []] 0) (enc (X:=Bool)) λx y=>y=false:=by
 rintro⟨x,d,⟨⟩⟩ ⟨a,b⟩;simp_all [ql,pB]
def OD(n:Nat)(h0:S0 fF=Mk n)(h1:S dj=qfk S0)(h2:S dS=qa1):aq ux tB S (aE Glob (aD a0)) (λx=>qot (n+1) x.1/\x.2.1= .clo dS []) (enc (X:=Bool)) λx y=>y=true:=by
 rintro⟨x,d,⟨⟩⟩ ⟨⟨hn,b⟩,c⟩;simp only at hn b c;subst c;have hk:∀k∈x.kids,qot n k:=λk hk=>by
  have:=GM hk;obtain⟨lb,m,h⟩:=b;obtain⟨j,_,h2⟩:=Ti h hk;exact⟨by omega,lb,j,h2⟩
 have hO:FunOnP S0 (.clo fF [.cptr [.clo dS []] 0]) x.kids λ_=>false:=
  IL h0 (λk a=>⟨hk k a,rfl⟩) (λ_ _ y l=>l)
 have p:Oa S0 (x.kids, .clo fF [.cptr [.clo dS []] 0],()):=hO;simp_all [ux,tB]
abbrev qaP:Spc:=aA (a1 Glob) (λg=>g=GlobE\/qap g) (enc (X:=Bool)) λx y=>y=decide (x.op=0)
set_option maxHeartbeats 1000000 in
def Oz:aq qN qz S (a1 Glob) (λg=>g=GlobE\/qap g) (enc (X:=Bool)) λx y=>y=decide (x.op=0):=by
 rintro x (rfl|⟨lb,m,h⟩);simp[qN,qz,GlobE,E0]
 ·have:x.op≠0:=by cases h<;>simp<;>omega
  simp[qN,qz,this,-fB',-eB']
abbrev VX:Spc:=aA (a1 Glob) (λg=>g=GlobE\/ ∃lb,GG lb 2 g) (enc (X:=Bool)) λx y=>y=true
def LF(h1:S yT=qaP)(h2:S iM=VG)(h3:S lP=VW):aq oP nl S (a1 Glob) (λg=>g=GlobE\/ ∃lb,GG lb 2 g) (enc (X:=Bool)) λx y=>y=true:=by
 rintro x (rfl|⟨lb,h⟩)
 ·have a:GlobE=GlobE\/qap GlobE:= .inl rfl;have d:GlobE.op=0:=rfl;simp[oP,nl,h1,a,d,-fB',-eB'];exact .inl rfl
 ·have c:=qgA h;have a:x=GlobE\/qap x:= .inr ⟨lb,2,h⟩;have b:x.op≠0:=by cases h<;>simp<;>omega
  have j:∃n,qsl n (x,0,1):=⟨fl x,qBj _,qCi _,by grind,by simp,by grind,by grind⟩
  have k:∃n,qot n x:=⟨fl x,qBj _,lb,2,h⟩
  have l:(vX x:Int)<=60:=by omega
  have p:(1:Int) +fl x -1<=20:=by omega
  simp[oP,nl,h1,h2,h3,a,b,j,k,l,p,-fB',-eB']
def Be{x:B} :(x∈Types\/x∈Yr\/(x∈TW/\x≠ ⟨#[]⟩))->aB x=true:=by
 have a:∀b:B,(decide (1<=b.size) && decide (b.size<=32) && (b.data.toList.all λc=>K7 c.toNat))=true->aB b=true:=λb h=>wT h
 rintro(h|h|⟨h,hn⟩)
 ·simp only[Types,qBt,qBF,or_false]at h;rcases h with rfl|rfl|rfl<;>exact a _ (by decide)
 ·simp only[Yr,qBt,qBF,or_false]at h;rcases h with rfl|rfl|rfl<;>exact a _ (by decide)
 ·simp only[TW,qBt,qBF,or_false]at h;rcases h with rfl|rfl|rfl
  ·exact a _ (by decide)
  ·exact a _ (by decide)
  grind
def ZE{v:B}(h:v∈Ob):∃r,lj v=some r:=by
 have e:∀v∈Ob,(lj v).isSome=true:=by decide
 grind [Option.isSome_iff_exists]
abbrev Zg:Spc:=aA (a1 B) (λs=>s∈TW) (enc (X:=Bool)) λ_ y=>y=false
def qmb(h1:S bC=mX):aq ki jF S (a1 B) (λs=>s∈TW) (enc (X:=Bool)) λ_ y=>y=false:=by
 rintro s hs;have hs:s∈TW:=hs;have a:s≠ ⟨#[]⟩->aB s=true:=λh=>Be (.inr (.inr ⟨hs,h⟩))
 simp_all [ki,jF]
def Ng{X:Type}[Cod X]{S:Nat->Spc}{g:Nat}{l:List X}{pre:X->Prop}{q:X->Bool}{post:X->Bool->Prop}(h:S g=aA (a1 X) pre enc post)(hp:∀x∈l,pre x)(c:∀x∈l,∀y,post x y->y=q x):FunOnP S (.clo g []) l q:=by
 refine⟨g, [],_,rfl,h,λx a=>⟨⟨x,by simp,hp x a⟩,λr b=>?_⟩⟩;obtain⟨y,rfl,d⟩:=b x (by simp) (hp x a);grind
def N9(S0:Nat->Spc)(x:List B×D×Unit):Prop:=FunOnP S0 x.2.1 x.1 λ_=>false
abbrev qfh(S0:Nat->Spc):Spc:=aA (aE (List B) (aD a0)) (N9 S0) (enc (X:=Int)) λx y=>y= -1
def qmc:aq fb eU S (aE (List B) (aD a0)) (N9 S) (enc (X:=Int)) λx y=>y= -1:=by
 rintro⟨l,d,⟨⟩⟩ hp;replace hp:FunOnP S d l λ_=>false:=hp
 simp[fb,eU,-fB',-eB'];intro h;refine ah (X:=Unit) [0,1] [] l.length (λk _=>True) (λ_=>[]) (λ_=>[]) () (by simp) ?_ ?_
 ·rintro k -hk -;obtain⟨y,a⟩:=aY hk;obtain⟨_,c⟩:=qBc.1 a;simp[hk,a,c,-fB',-eB'];refine hp.useB y (aP a) λb hb=>?_
  obtain rfl:b=false:=hb _ hp;simp
 simp
abbrev qfj(S0:Nat->Spc):Spc:=aA (aE (List B) (aD a0)) (N9 S0) (enc (X:=Bool)) λx y=>y=false
def qmd(h1:S fq=qfh S0):aq ej dW S (aE (List B) (aD a0)) (N9 S0) (enc (X:=Bool)) λx y=>y=false:=by
 rintro⟨l,d,⟨⟩⟩ hp;simp_all [ej,dW]
def Co(S0:Nat->Spc)(x:List Filt×D×Unit):Prop:=FunOnP S0 x.2.1 x.1 λ_=>false
abbrev qa3(S0:Nat->Spc):Spc:=aA (aE (List Filt) (aD a0)) (Co S0) (enc (X:=Int)) λx y=>y= -1
def qgP(x:Filt):D.agg [D.v (Value.int IntKind.i64 x.op),D.v (Value.bool x.neg),D.v (Value.string x.reg)]=enc x:=by simp
def qiO:aq ff eW S (aE (List Filt) (aD a0)) (Co S) (enc (X:=Int)) λx y=>y= -1:=by
 rintro⟨l,d,⟨⟩⟩ hp;replace hp:FunOnP S d l λ_=>false:=hp
 simp[ff,eW,-fB',-eB'];intro h;refine ah (X:=Unit) [0,1] [] l.length (λk _=>True) (λ_=>[]) (λ_=>[]) () (by simp) ?_ ?_
 ·rintro k -hk -;obtain⟨y,a⟩:=aY hk;obtain⟨_,c⟩:=qBc.1 a;simp[hk,a,c,-fB',-eB'];rw[qgP y];refine hp.useB y (aP a) λb hb=>?_
  grind [Pg]
 simp
abbrev R1(S0:Nat->Spc):Spc:=aA (aE (List Filt) (aD a0)) (Co S0) (enc (X:=Bool)) λx y=>y=false
def qiP(h1:S fu=qa3 S0):aq eo dY S (aE (List Filt) (aD a0)) (Co S0) (enc (X:=Bool)) λx y=>y=false:=by
 rintro⟨l,d,⟨⟩⟩ hp;simp_all [eo,dY]
abbrev RT:Spc:=aA (a1 Filt) GF (enc (X:=Bool)) λ_ y=>y=false
def qiH:aq wA vN S (a1 Filt) GF (enc (X:=Bool)) λ_ y=>y=false:=by
 rintro f ⟨h,_⟩;have h1:¬f.op< 1:=by omega
 have h2:¬3<f.op:=by omega
 simp_all [wA,vN]
abbrev RW:Spc:=aA (a1 Filt) GF (enc (X:=Bool)) λ_ y=>y=false
def qiK(h1:S bC=mX):aq gP gB S (a1 Filt) GF (enc (X:=Bool)) λ_ y=>y=false:=by
 rintro f ⟨_,h⟩;simp_all [Be,gP,gB]
def wH(x:Glob×List Attr×List B):Prop:=x.2.1=att3/\(x.1=GlobE\/ ∃n,GG x.2.2 n x.1)
abbrev VP:Spc:=aA (a3 Glob (List Attr) (List B)) wH (enc (X:=Int)) λ_ y=>y=0
def Yd{g:B}(h:g∈Attr2):0<=dA att3 g:=by
 simp only[Attr2,qBt,qBF,or_false]at h;rcases h with rfl|rfl<;>decide
def di{l:List B}{x:B}(h:x∈l):nL l x=true:=by
 grind [nL]
set_option maxHeartbeats 4000000 in
theorem qej(h1:S aS=Zf)(h2:S bK=B1)(h3:S bC=mX)(h4:S eH=qfj S0)(h5:S qL=qaT)(h0:S0 eK=Zg):
 aq aI aG S (a3 Glob (List Attr) (List B)) wH (enc (X:=Int)) λ_ y=>y=0:=by
 rintro⟨g,a,lb⟩ ⟨ha,hg⟩;simp only at ha hg;subst ha;have hw:(0:Int)<=dA att3 th:=by decide
 rcases hg with rfl|⟨n,hg⟩;simp[aI,aG,GlobE];cases hg with
 |bound n a h=>simp[aI,aG,h1,di h,-fB',-eB']
 | val n a v f k1 k2=>
   have hx:=ZE k2;simp[aI,aG,h1,h2,h5,di k1,hw,hx,-fB',-eB']
 |same n a b g k1 k2 k3=>simp[aI,aG,h1,h2,di k1,di k2,hw,Yd k3,-fB',-eB']
 | dist n a b mn mx k1 k2 k3 k4 k5 k6=>
   have e:¬mx<mn:=by omega
   simp[aI,aG,h1,di k1,di k2,e,-fB',-eB']
 |reg n a b t k1 k2 k3=>simp[aI,aG,h1,h3,di k1,di k2,Be (.inl k3),-fB',-eB']
 | path n a b l k1 k2 k3 k4=>
   have hP:N9 S0 (l, .clo eK [],()):=Ng h0 (λx hx=>k4 x hx) λ_ _ y hy=>hy
   simp[aI,aG,h1,h4,di k1,di k2,hP,-fB',-eB']
 |node n a b t k1 k2 k3=>simp[aI,aG,h1,h3,di k1,di k2,Be (.inr (.inl k3)),-fB',-eB']
 | depth n a mn mx k1 k3 k4 k5 k6=>
   have e1:¬mx<mn:=by omega
   have e2:¬mn< 0:=by omega
   simp[aI,aG,h1,di k1,e1,e2,-fB',-eB']
 |head n op a b ho k1 k2=>rcases ho with rfl|rfl<;>simp[aI,aG,h1,di k1,di k2,-fB',-eB']
 |not n k h=>simp[aI,aG,-fB',-eB']
 |two n op a b ho k1 k2=>rcases ho with rfl|rfl<;>simp[aI,aG,-fB',-eB']
abbrev qaY(n:Nat):Spc:=aA (a3 Glob (List Attr) (List B)) (λx=>fl x.1<=n/\wH x) (enc (X:=Int)) λ_ y=>y=0
abbrev VR:Spc:=aA (a3 Glob (List Attr) (List B)) wH (enc (X:=Int)) λ_ y=>y=0
def qiL(n:Nat)(h1:S nW=VP)(h2:S gH=qaY n):aq oL nj S (a3 Glob (List Attr) (List B)) (λx=>fl x.1<=n+1/\wH x) (enc (X:=Int)) λ_ y=>y=0:=by
 rintro⟨g,a,lb⟩ ⟨hn,d⟩;simp only at hn;have c:=d;obtain⟨j,b⟩:=c;simp only at j b;subst j;have hk:∀k∈g.kids,fl k<=n/\wH (k,att3,lb):=λk hk=>by
  have:=GM hk;rcases b with rfl|⟨m,h⟩
  ·cases hk
  ·obtain⟨l,_,h2⟩:=Ti h hk;exact⟨by omega,rfl, .inr ⟨l,h2⟩⟩
 simp[oL,nj,h1,d,-fB',-eB'];intro p;refine ah (X:=Unit) [1,2,19] [] g.kids.length (λ_ _=>True) (λ_=>[]) (λ_=>[]) () trivial ?_ ?_;simp_all;simp
structure Pw (a:List Attr) (q:Qry):Prop where
 glob:q.glob=GlobE\/GG (bv q.pat []) 2 q.glob
 filts:∀f∈q.filts,GF f
 strat:0<=q.strat/\q.strat< 4
 pat:fk aB q.pat=true
 size:gw q.pat<=256
 l3:(bv q.pat []).length<=3
 num:eY q.pat<=1000000
 att:a=att3
 lv:∀x∈am q.pat,qjC a (bv q.pat []) x.cond=true/\∃n,KO n x.cond
structure qox (q:Qry):Prop where
 filts:∀f∈q.filts,GF f
 strat:0<=q.strat/\q.strat< 4
 pat:fk aB q.pat=true
 size:gw q.pat<=256
 l3:(bv q.pat []).length<=3
 num:eY q.pat<=1000000
abbrev qaX:Spc:=aA (a1 Qry) qox (enc (X:=Int)) λ_ y=>y=0
theorem qiJ{N N2:Nat->Spc}(h0:N eS=FR)(d:N ed=AK)(b:N2 dm=RW)(h1:S qK=RY)(h2:S gd=FX N)(h3:S kK=FN)(h4:S eh=s_qlabels)(h5:S cR=R1 N2):
 aq jk iX S (a1 Qry) qox (enc (X:=Int)) λ_ y=>y=0:=by
 rintro q a;have f1:FunIs N (.clo eS []) (mM aB):=Bg h0 λ_=>trivial
 have p:FunIs N (.clo ed []) nE:=Bg d λ_=>trivial
 have r:Co N2 (q.filts, .clo dm [],()):=Ng b (λx s=>a.filts x s) λ_ _ y h=>h
 have hp:=a.pat;unfold fk at hp;simp only[qBh]at hp;obtain⟨⟨⟨t,u⟩,w⟩,A⟩:=hp;have j:=a.size;have c:¬256<gw q.pat:=by omega
 have C:=a.l3;have E:¬q.strat< 0:=by have:=a.strat;omega
 have F:¬3<q.strat:=by have:=a.strat;omega
 have k:qk0 q.pat []:=by show 0+eY q.pat<=1000000;have:=a.num;omega
 simp[jk,iX,h1,t,u,h2,E,F,h3,a.pat,j,c,h5,r,-fB',-eB'];refine⟨⟨_,f1⟩,λy h=>⟨λ_=>⟨⟨_,p⟩,λz hz=>⟨by rw[hz _ p,A],λ_=>?_⟩⟩,by rw[h _ f1,w]⟩⟩;simp[h4,-fB',-eB'];refine .inl ⟨k,λl hl _=>?_⟩;have hl:l=bv q.pat []:=hl;subst hl;omega
theorem qiD{N:Nat->Spc}(h0:N nV=RT)(h1:S jW=qaX)(h2:S eh=s_qlabels)(h3:S ee=s_leavesQ)(h4:S fS=Zh)(h5:S cR=R1 N)(h6:S wg=VX)(w:S gH=VR):
 aq oO nk S (a2 Qry (List Attr)) (λx=>Pw x.2 x.1) (enc (X:=Int)) λ_ y=>y=0:=by
 rintro⟨q,a⟩ b;have b:Pw a q:=b;have A:qox q:=⟨b.filts,b.strat,b.pat,b.size,b.l3,b.num⟩
 have j:qk0 q.pat []:=by show 0+eY q.pat<=1000000;have:=b.num;omega
 have C:(am q.pat).length<=eY q.pat:=jP q.pat;have p:qd4 q.pat []:=⟨by have:=b.num;simp;omega,λy c=>(b.lv y c).2⟩
 have E:Co N (q.filts, .clo nV [],()):=Ng h0 (λx d=>b.filts x d) λ_ _ y c=>c
 have F:q.glob=GlobE\/ ∃lb,GG lb 2 q.glob:=b.glob.imp id λh=>⟨_,h⟩
 have I:wH (q.glob,a,bv q.pat []):=⟨b.att,b.glob.imp id λh=>⟨_,h⟩⟩
 have r:a.length<=1000:=by rw[b.att];decide
 simp[oO,nk,h1,A,h2,-fB',-eB'];refine .inl ⟨j,λl hl=>?_⟩;have hl:l=bv q.pat []:=hl;subst hl;simp[h3,-fB',-eB'];refine .inl ⟨p,?_⟩;intro J;refine ah (X:=Unit) [1,2,6,20] [] (bN q.pat).length (λ_ _=>True) (λ_=>[]) (λ_=>[]) () trivial ?_ ?_
 ·rintro k ⟨⟩ hk -;obtain⟨x,d⟩:∃x,(bN q.pat)[k]? =some x:=⟨_,qBe hk⟩
  obtain⟨_,s⟩:=qBc.1 d;have t:=qBf d;obtain⟨y,c,rfl⟩:=qBr.1 t;have u:qak ((ug y).cond,a,bv q.pat []):=⟨(b.lv y c).1,r⟩
  simp[hk,d,s,h4,u,-fB',-eB'];exact u
 ·rintro⟨⟩ -;simp[h5,h6,w,E,F,I,-fB',-eB']
end
section
open Go.Proofs
def Jf:CC:=gq Tryz.f29 [] {} _
def Ij:List ai:=[.cell 4 true 13]
def qcZ:FO Bu [] Jf Ij 30:=fo
def zy:CC:=gq Tryz.f65 [] {} _
def yr:List ai:=[.cell 4 true 7]
def SE:FO rq [] zy yr 45:=fo
def uC:CC:=gq Tryz.f28 [2] { bx:=[1,43],cu:=[1] } _
def tF:List ai:=[.tmp 4]
def MR:FO pY [2] uC tF 46:=fo
def ko:CC:=gq Tryz.f30 [2006006,2112011,1111111] { cu:=[2,5] } _
def jI:List ai:=[.cell 6 true 11]
def A3:FO eL [2006006,2112011,1111111] ko jI 159:=fo
def qp:CC:=gq Tryz.f31 [] {} _
def pG:List ai:=[.cell 2 true 3]
def IA:FO rW [] qp pG 13:=fo
def sx:CC:=gq Tryz.f8 [1049049,2050007] { bx:=[18],fz:=[(18,1)],cu:=[2,7,9] } _
def rR:List ai:=[.cell 4 true 26]
def KM:FO ua [1049049,2050007] sx rR 52:=fo
open Cod (enc dec)
variable {S S0:Nat->Spc}
def qh8(n:Nat)(x:Cond×List B):Prop:=0<n/\CS (n -1) x.1
def qal(n:Nat)(x:Pat×List B):Prop:=0<n/\PD (n -1) x.1
def ql1(x:Pat)(l:List B):Prop:=l.length+eY x<=1000000
def N8(n:Nat)(x:List Int×Int×List B):Prop:=x.2.1.toNat<n/\ -10<=x.2.1/\x.2.1<=100/\1<=x.2.2.length/\x.2.2.length<=1000000
def iH{q:Glob->Prop}{H:ab}{op mn mx:Int}{a b n g v:B}{f:Bool}{d e:D}(c:List B)(ks:List Glob)(j:FrzTo H d (enc c))(he:FrzTo H e (enc ks))(h:q ⟨op,a,b,n,g,v,f,mn,mx,c,ks⟩):
 Fin enc q (.agg [.v (.int .i64 op), .v (.string a), .v (.string b), .v (.string n), .v (.string g), .v (.string v), .v (.bool f), .v (.int .i64 mn), .v (.int .i64 mx),d,e]) H:=by
 refine br (⟨op,a,b,n,g,v,f,mn,mx,c,ks⟩:Glob) ?_ h;rw[Xm];refine .agg rfl λk x y l p=>?_
 rcases k with _|_|_|_|_|_|_|_|_|_|_|k;simp_all;simp_all;simp_all;simp_all;simp_all;simp_all;simp_all;simp_all;simp_all;simp_all;simp_all;simp_all
theorem Yc(p:Pat):∀out,(jo p out).length<=out.length+eY p:=by
 induction p using fh with|_ p b=>?_
 intro out;rw[ph,eP];split;grind [BT]
 ·have:∀(ks:List Pat) (o:List B),(∀k∈ks,k∈p.kids)->(ks.foldl (λo k=>jo k o) o).length<=o.length+bQ ks:=by
   intro ks
   induction ks with
   |nil=>simp
   | cons k ks a=>
     grind [bQ,jo]
  grind
def Hs(ks:List Pat)(k:Nat)(lb:List B):((ks.take k).foldl (λo k=>jo k o) lb).length<=lb.length+bQ (ks.take k):=by
 generalize ks.take k=l
 induction l generalizing lb<;>grind [bQ,Yc]
def qaf(x:Cond×List B)(y:Cond):Prop:=y=xj x.2 x.1
abbrev FS(n:Nat):Spc:=aA (a2 Cond (List B)) (qh8 n) (enc (X:=Cond)) qaf
theorem Rq(n:Nat)(h1:S rq=FS n):aq zy yr S (a2 Cond (List B)) (qh8 (n+1)) (enc (X:=Cond)) qaf:=by
 rintro⟨c,lb⟩ ⟨_,hc⟩;simp only at hc;have hc:CS n c:=hc;simp[zy,yr];intro b2 s;refine⟨λho _=>?_,λho hl=>?_⟩
 ·refine ah (X:=Unit) [2,4,13] [2,4] lb.length (λk _=>∀z∈lb.take k,z≠c.lab) (λ_=>[]) (λ_=>[]) () (by simp) ?_ ?_
  ·rintro k -hk hz;obtain⟨x,b⟩:=aY hk;obtain⟨_,d⟩:=qBc.1 b;simp[hk,b,d];refine⟨λj=>fN c.kids (.same _) ?_,λj z l=>?_⟩
   ·show Cond.mk _ _ _ _ _ _ _=xj lb c;rw[G6,lX,if_pos ho,if_pos (j ▸aP b)]
   ·rw[au b]at l;grind
  ·rintro -hz;rw[qBm]at hz;simp;refine fN [] (.nil _) ?_;show _=xj lb c;rw[lX,if_pos ho,if_neg (λh=>hz _ h rfl)];rfl
 ·refine ah (X:=Value×List Cond) [1,2,4,29] [2,4] c.kids.length (λk x=>x.2=(c.kids.take k).map (xj lb)) (λx=>[(7, .own 40 x.1)]) (λx=>[(40, .row x.1 gW 7 (x.2.map enc))]) (.slice none 0 0, []) (by simp) ?_ ?_ (hh:=by simp[isNilRow])
  ·rintro k ⟨v,ks⟩ hk a;simp only at a;obtain⟨x,b⟩:=aY hk;obtain⟨_,d⟩:=qBc.1 b;obtain⟨m,hm,p⟩:=qn0 hc (aP b);have hp:qh8 n (x,lb):=⟨by omega,by rw[hm];exact p⟩
   simp[hk,b,d,h1,hp];have:=qnZ hc;have q:ks.length=k:=by rw[a,qBO,qBC];omega
   refineλy r=>⟨by omega,by omega,λv=> .inl ?_⟩
   obtain rfl:y=xj lb x:=r;rw[a,List.map_map,List.map_take,qB8];simp[b]
  ·rintro⟨v,ks⟩ a;simp only at a;simp;rw[qBm]at a;refine fN ks (fM gW (by simp)) ?_;show _=xj lb c;rw[lX,if_neg ho,a]
abbrev CY:Spc:=aA (a2 Cond (List B)) (λx=>∃n,CS n x.1) (enc (X:=Cond)) qaf
def TY(x:Pat×List B)(y:Pat):Prop:=y=lV x.2 x.1
abbrev PX(n:Nat):Spc:=aA (a2 Pat (List B)) (qal n) (enc (X:=Pat)) TY
theorem qcn(n:Nat)(h1:S rq=CY)(h2:S Bu=PX n):aq Jf Ij S (a2 Pat (List B)) (qal (n+1)) (enc (X:=Pat)) TY:=by
 rintro⟨p,lb⟩ ⟨_,hp⟩;simp only at hp;have hp:PD n p:=hp;have b:=qjz hp;have q:=qmT hp;simp[Jf,Ij,h1];intro b2 t;refine⟨b,λc hc _=>?_⟩;refine ah (X:=Value×List Pat) [1,2,4,14] [2,4] p.kids.length (λk x=>x.2=(p.kids.take k).map (lV lb)) (λx=>[(5, .own 25 x.1)]) (λx=>[(25, .row x.1 bB 13 (x.2.map enc))]) (.slice none 0 0, []) (by simp) ?_ ?_ (hh:=by simp[isNilRow])
 ·rintro k ⟨v,ks⟩ hk a;simp only at a;obtain⟨x,d⟩:=aY hk;obtain⟨_,h⟩:=qBc.1 d;obtain⟨m,hm,j⟩:=qmU hp (aP d);have r:qal n (x,lb):=⟨by omega,by rw[hm];exact j⟩
  have l:ks.length=k:=by rw[a,qBO,qBC];omega
  simp[hk,d,h,h2,r];refineλy s=>⟨by omega,by omega,λv=> .inl ?_⟩
  obtain rfl:y=lV lb x:=s;simp_all [qB8]
 ·rintro⟨v,ks⟩ a;simp only at a;rw[qBm]at a;simp;refine Cg c.kids ks (.same _) (fM bB (by simp)) ?_;show _=lV lb p;rw[rB,<-show c=xj lb p.cond from hc,a,G6]
abbrev Mc:Spc:=aA (a2 Pat (List B)) (λx=>∃n,PD n x.1) (enc (X:=Pat)) TY
abbrev CZ:Spc:=aA (aT (a2 Int (List B))) (λx=> -10<=x.2.1/\x.2.1<=100/\x.2.2.length<=1000) (enc (X:=Pat)) N5
def qh5(x:Pat)(l r:List B):Prop:=r=jo x l
abbrev WK(n:Nat):Spc:=qil (X:=Pat) (Y:=B) (λx l=>dJ x<=n/\ql1 x l) qh5 av 1
abbrev i_BoundA2:Spc:=qil (X:=Pat) (Y:=B) ql1 qh5 av 1
theorem UN(n:Nat)(h1:S pY=WK n):N0 (X:=Pat) (Y:=B) uC tF S (λx l=>dJ x<=n+1/\ql1 x l) qh5 av 1:=by
 rintro v lb p ⟨C,hl⟩;have hk:∀k∈p.kids,dJ k<=n:=λk h=>by have:=jN h;omega
 have hl:lb.length+eY p<=1000000:=hl;have t:=eP p;simp[uC,tF];refine ba (X:=Unit) [1,2] [1] (λ_=>p.op=1->p.lab=E0) (λ_=>[]) (λ_=>[]) ?_ ?_
 ·simp;refine⟨λho=>⟨λhn _=>?_,λh _=>h⟩,λho h=>absurd h ho⟩;refine ah (X:=Unit) [1,2,17] [1] lb.length (λk _=>∀z∈lb.take k,z≠p.lab) (λ_=>[]) (λ_=>[]) () (by simp) ?_ ?_
  ·rintro k -b hz;obtain⟨x,c⟩:=aY b;obtain⟨_,d⟩:=qBc.1 c;simp[b,c,d];refine⟨λj=>du lb (by simp) ?_,λj z q=>?_⟩
   ·show lb=jo p lb;rw[ph,if_pos ⟨ho,hn⟩,BT,if_pos (j ▸aP c)]
   ·rw[au c]at q;grind
  ·rintro -hz;rw[qBm]at hz;simp;refine⟨by omega,by omega,λv=>du (lb++ [p.lab]) (by simp) ?_⟩;show _=jo p lb;rw[ph,if_pos ⟨ho,hn⟩,BT,if_neg λh=>hz _ h rfl]
 ·rintro -r;simp;intro u;refine ah (X:=Value×List B) [35] [] p.kids.length (λk x=>x.2=(p.kids.take k).foldl (λo k=>jo k o) lb) (λx=>[(1, .own 1 x.1)]) (λx=>[(1, .row x.1 av 1 (x.2.map enc))]) (v,lb) (by simp) ?_ ?_
  ·rintro k ⟨v,ls⟩ b a;simp only at a;obtain⟨x,c⟩:=aY b;obtain⟨_,d⟩:=qBc.1 c;have w:ql1 x ls:=by
    have h2:=Hs p.kids k lb;have h3:=Hs (p.kids.drop k) 1 ls;rw[<-a]at h2;have h4:bQ (p.kids.take k) +bQ (p.kids.drop k)=bQ p.kids:=by rw[<-B4,qBI]
    rw[cT c,bQ]at h4;show ls.length+eY x<=_;omega
   have s:=hk x (aP c);simp[b,c,d,h1,w,s];intro v' y A;obtain rfl:y=jo x ls:=A;refine .inl ?_;rw[au c,qDs,<-a];rfl
  ·rintro⟨v,ls⟩ a;simp only at a;rw[qBm]at a;simp;refine du ls (by simp) ?_;show ls=jo p lb;rw[ph,if_neg λh=>h.2 (r h.1),a]
abbrev qgW:Spc:=qo6 (Y:=B) (aE Pat (aD a0)) (λx=>x.2.1= .v (.slice none 0 0)/\ql1 x.1 []) (λx r=>qh5 x.1 [] r) av 1
theorem UO(h1:S pY=i_BoundA2):Yj (Y:=B) uC tF S (aE Pat (aD a0)) (λx=>x.2.1= .v (.slice none 0 0)/\ql1 x.1 []) (λx r=>qh5 x.1 [] r) av 1:=by
 rintro⟨p,d,⟨⟩⟩ ⟨c,hl⟩;have c:d= .v (.slice none 0 0):=c;subst c;have hl:0+eY p<=1000000:=hl;have s:=eP p;simp[uC,tF];refine ba (X:=Unit) [1,2] [] (λ_=>p.op=1->p.lab=E0) (λ_=>[]) (λ_=>[]) ?_ ?_
 ·simp;refine⟨λho=>⟨λhn=>?_,λh _=>h⟩,λho h=>absurd h ho⟩;refine ah (X:=Unit) [1,2] [] 0 (λ_ _=>True) (λ_=>[]) (λ_=>[]) () trivial ?_ ?_;simp
  ·rintro - -;simp;refineλv=>du [p.lab] (by simp) ?_
   show _=jo p [];rw[ph,if_pos ⟨ho,hn⟩,BT,if_neg (by simp)];rfl
 ·rintro -j;simp;intro t;refine ah (X:=Value×List B) [35] [] p.kids.length (λk x=>x.2=(p.kids.take k).foldl (λo k=>jo k o) []) (λx=>[(1, .own 1 x.1)]) (λx=>[(1, .row x.1 av 1 (x.2.map enc))]) (.slice none 0 0, []) (by simp) ?_ ?_ (hh:=by simp[isNilRow])
  ·rintro k ⟨v,ls⟩ b a;simp only at a;obtain⟨x,l⟩:=aY b;obtain⟨_,q⟩:=qBc.1 l;have u:ql1 x ls:=by
    have h2:=Hs p.kids k [];have h3:=Hs (p.kids.drop k) 1 ls;rw[<-a,qCL]at h2;have h4:bQ (p.kids.take k) +bQ (p.kids.drop k)=bQ p.kids:=by rw[<-B4,qBI]
    rw[cT l,bQ]at h4;show ls.length+eY x<=_;omega
   simp[b,l,q,h1,u];intro v' w y;obtain rfl:w=jo x ls:=y;simp_all [au]
  ·rintro⟨v,ls⟩ a;simp only at a;rw[qBm]at a;simp;refine du ls (by simp) ?_;show ls=jo p [];rw[ph,if_neg λh=>h.2 (j h.1),a]
abbrev s_Bound2:Spc:=qmW qgW i_BoundA2
def qah(x:List Int×Int×List B)(y:Glob):Prop:=GG x.2.2 x.2.1.toNat y
def qA5(l:List B)(g:Glob):Prop:=g=GlobE\/GG l 2 g
def qyG{i:Nat}{a:B}(h:[(⟨#[97]⟩:B),⟨#[98,124,99]⟩,⟨#[46]⟩][i]? =some a):a∈Ob:=aP h
def qyF{i:Nat}{a:B}(h:[(⟨#[83]⟩:B),⟨#[78,80]⟩,⟨#[86,80]⟩][i]? =some a):a∈Yr:=aP h
def qyE{i:Nat}{a:B}(h:[(⟨#[111,98,106]⟩:B),⟨#[100,101,116]⟩,⟨#[]⟩][i]? =some a):a∈TW:=aP h
abbrev zI(n:Nat):Spc:=aA (aT (a2 Int (List B))) (N8 n) (enc (X:=Glob)) qah
theorem Kk(n:Nat)(h1:S cb=s_m_Next)(h2:S rr=xb)(h3:S eL=zI n):aq ko jI S (aT (a2 Int (List B))) (N8 (n+1)) (enc (X:=Glob)) qah:=by
 rintro⟨L,deep,lb⟩ ⟨hn,C,E,b,s⟩;simp only at hn C E b s;simp[ko,jI,h1];intro b6 k0 Q U;refine ba (X:=Int) [0,1,2,6] [6] (λk=>0<=k/\k< 13/\(deep< 1->k< 10)) (λk=>[(7,enc k)]) (λ_=>[]) ?_ ?_
 ·simp;grind
 rintro k ⟨q0,q1,q2⟩;simp[h1];refineλ_=>⟨by omega,λi hi=>⟨by omega,by omega,λa W _=>⟨by omega,λj hj=>⟨by omega,by omega,λc hc=>?_⟩⟩⟩⟩
 refine ba (X:=Unit) [0,1,2,6,7] [6] (λ_=>11<=k) (λ_=>[]) (λ_=>[]) ?_ ?_
 ·have d:1<=deep->N8 n (L,deep -1,lb):=λh=>⟨by show(deep -1).toNat<n;omega,by show -10<=deep -1;omega,by show deep -1<=100;omega,b,s⟩
  have p:a∈lb:=aP W;have u:c∈lb:=aP hc;have A:1<=deep->deep.toNat=(deep -1).toNat+1:=λh=>by omega
  simp[h1,h2,h3,PM,Vg,lI,qu,-fB'];refine⟨λ_=>iH [] [] (.nil _) (.nil _) (.bound _ a p),λ_=>⟨λ_ y q r=>⟨q,r,λv Y z _ _=>iH [] [] (.nil _) (.nil _) (.val _ a v _ p (qyG Y))⟩,λ_=>⟨λ_ y q r=>⟨q,r,λg F=>iH [] [] (.nil _) (.nil _) (.same _ a c g p u (qyJ F))⟩,λ_=>⟨λ_ y q r=>⟨by simp only[InR];omega,λz I J=>⟨by simp only[InR];omega,iH [] [] (.nil _) (.nil _) (.dist _ a c _ _ p u (by omega) (by omega) (by omega) (by omega))⟩⟩,λ_=>⟨λ_ y q r=>⟨trivial,λt K=>iH [] [] (.nil _) (.nil _) (.reg _ a c t p u K)⟩,λ_=>⟨λ_=>iH [] [] (.nil _) (.nil _) (.head _ 6 a c (.inl rfl) p u),λ_=>⟨λ_=>iH [] [] (.nil _) (.nil _) (.head _ 7 a c (.inr rfl) p u),λ_=>⟨λ_ M y q r=>?_,λ_=>⟨λ_ y q r=>⟨q,r,λt K=>iH [] [] (.nil _) (.nil _) (.node _ a c t p u (qyF K))⟩,λ_=>⟨λ_ y q r z I J=>⟨by simp only[InR];omega,iH [] [] (.nil _) (.nil _) (.depth _ a _ _ p (by omega) (by omega) (by omega) (by omega))⟩,λ_=>⟨λO=>⟨by simp only[InR];omega,d (by omega),λg=>?_⟩,λ_=>by omega⟩⟩⟩⟩⟩⟩⟩⟩⟩⟩⟩
  ·refine sV (X:=Int×Value×List B) [0,6,11] [6] [] [] [] [] (λx=>(0<=x.1/\x.1+x.2.2.length<=2)/\∀z∈x.2.2,z∈TW) (λx=>[(12,enc x.1)]) (λx=>[(11, .box M [.v (.int .i64 8), .v (.string a), .v (.string c), .v (.string ⟨#[]⟩), .v (.string ⟨#[]⟩), .v (.string ⟨#[]⟩), .v (.bool false), .v (.int .i64 0), .v (.int .i64 0), .own 111 x.2.1, .v (.slice none 0 0)]),(111, .row x.2.1 av 1 (x.2.2.map enc))]) (λx=>x.1.toNat) (y, .slice none 0 0, []) [11,111] (λ_=>rfl) (by decide) (by decide) ?_ ?_ ?_ ?_
   ·exact⟨⟨q,by simp;omega⟩,by simp⟩
   ·simp
   ·simp[isNilRow];exact .nilown 111
   ·rintro⟨i,v,l⟩ ⟨⟨Z,e2⟩,N⟩;simp only at Z e2 N;simp[h1,Vg,lI,qu];exact⟨λhi z I J=>⟨I,J,λw hw=>⟨by omega,by omega,λv=>⟨by simp only[InR];omega,i -1,v,l++ [w],⟨⟨by omega,by simp;omega⟩,λz hz=>(qBo.1 hz).elim (N z) λh=>by simp at h;subst h;exact qyE hw⟩,⟨rfl, .inl (.inl rfl), .inl (.inl (by simp))⟩,by omega⟩⟩⟩,λhi=>iH l [] (fM av (by simp)) (.nil _) (.path _ a c l p u (by omega) N)⟩
  ·exactλF=>iH [] [g] (.nil _) (by simp) (by show GG lb deep.toNat _;rw[A (by omega)];exact .not _ _ F)
 ·rintro -hk;have d:N8 n (L,deep -1,lb):=⟨by show(deep -1).toNat<n;omega,by show -10<=deep -1;omega,by show deep -1<=100;omega,b,s⟩
  have A:deep.toNat=(deep -1).toNat+1:=by omega
  simp[h3,d];exact⟨by simp only[InR];omega,by simp only[InR];omega,by simp only[InR];omega,λy hy=>⟨by simp only[InR];omega,λz hz=>iH [] [y,z] (.nil _) (by simp) (by show GG lb deep.toNat _;rw[A];exact .two _ _ _ _ (by omega) hy hz)⟩⟩
abbrev xc:Spc:=aA (aT (a2 Int (List B))) (λx=>∃n,N8 n x) (enc (X:=Glob)) qah
abbrev JF:Spc:=aA (aT a0) bO (enc (X:=Filt)) (λ_ y=>GF y)
def UM(h1:S cb=s_m_Next)(h2:S rr=xb):aq qp pG S (aT a0) bO (enc (X:=Filt)) (λ_ y=>GF y):=by
 rintro⟨L,⟨⟩⟩ -;simp[qp,pG,h1,h2];refineλb y c d=>⟨by grind [InR],λz h j u k l=>⟨trivial,λt a=>?_⟩⟩
 exact br (⟨1+y,decide (z=2),t⟩:Filt) (by simp) ⟨by grind,a⟩
def N4(x:List Int×Int)(q:Qry):Prop:=GQ x.2.toNat q
abbrev Md:Spc:=aA (aT (a1 Int)) (λx=>0<=x.2/\x.2<=5) (enc (X:=Qry)) N4
theorem YI(h1:S cb=s_m_Next)(h2:S gI=CZ)(h3:S pY=s_Bound2)(h4:S Bu=Mc)(h5:S eL=xc)(h6:S rW=JF):
 aq sx rR S (aT (a1 Int)) (λx=>0<=x.2/\x.2<=5) (enc (X:=Qry)) N4:=by
 rintro⟨L,deep⟩ ⟨t,w⟩;simp only at t w;simp[sx,rR,h1];intro b4;refine ba (X:=List B) [0,1,4] [4] (λl=>qcb l/\l.length<=2) (λl=>[(5,enc l)]) (λ_=>[]) ?_ ?_
 ·simp[h1];exactλ_ _ _=>⟨λ_=>⟨[qn9,qpg],⟨λl hl=>by simpa using hl,by simp⟩,by simp[qn9,qpg]⟩,λ_ l hl=>by simp at hl⟩
 rintro lb ⟨A,N⟩;simp[h1,h2];refine⟨⟨by omega,by omega,by omega⟩,λy d b=>?_⟩;have J:WP lb deep.toNat y:=d.1.1;have C:PD deep.toNat y:=d.1.2;have K:eY y<=1000000:=by
  have:=(Q2 _ y J (by omega)).2.2;have h2:2^ (deep.toNat+1)<=64:=Nat.pow_le_pow_right (n:=2) (by omega) (show deep.toNat+1<=6 by omega);omega
 have O:ql1 y []:=by show 0+eY y<=_;omega
 have E:∃n,PD n y:=⟨_,C⟩
 simp[h3,O];refine .inl λl hl=>?_
 have j:l=jo y []:=hl;have Q:l.length<=0+eY y:=by rw[j];exact Yc y []
 simp[h4,E];intro p hp z U W k;have hp:p=lV l y:=hp;have Y:∀g fs s,(g=GlobE\/GG l 2 g)->(fs.length<=1/\∀f∈fs,GF f)->(0<=s/\s< 4)->N4 (L,deep) ⟨p,g,fs,s⟩:=by
  intro g fs s q c hs;have r:jo p []=l:=by rw[hp,qhG,<-j]
  refine⟨⟨lb,A,by show WP lb deep.toNat p;rw[hp];exact qiA _ _ J⟩,?_,by show g=GlobE\/GG (jo p []) 2 g;rw[r];exact q,c,hs⟩;show ∀y∈am p,GC (jo p []) 1 y.cond;rw[r,hp,WG];intro x Z;obtain⟨u,hu,rfl⟩:=qBr.1 Z;rw[rB];exact qnp (d.2 u hu)
 refine kD (X:=Glob) [0,4] [4] [] [] (qA5 l) (λ_=>[(7, .bptr 7 k 0)]) (λg=>[(7, .box k [.v (.int .i64 p.op), .v (.int .i64 p.cond.op), .v (.string p.cond.name), .v (.string p.cond.arg), .v (.string p.cond.val), .v (.string p.cond.lab), .v (.bool p.cond.fold),enc p.cond.kids, .v (.string p.lab), .v (.string p.reg), .v (.int .i64 p.mn), .v (.int .i64 p.mx),enc p.kids, .v (.int .i64 g.op), .v (.string g.a), .v (.string g.b), .v (.string g.name), .v (.string g.arg), .v (.string g.val), .v (.bool g.fold), .v (.int .i64 g.mn), .v (.int .i64 g.mx),enc g.args,enc g.kids, .v (.slice none 0 0), .v (.int .i64 z)])]) [7] (λ_=>rfl) (by decide) ?_ ?_
 ·simp[h1,h5,-fB'];refineλ_=>⟨λF u M u1=>⟨λ_=>⟨⟨3,by show(2:Int).toNat< 3;decide,by show -10<=(2:Int);decide,by show(2:Int)<=100;decide,F,by show l.length<=1000000;omega⟩,λg q=>⟨g, .inr q, .inl (.inl ⟨rfl,rfl,rfl,rfl,rfl,rfl,rfl,rfl,rfl,rfl,rfl⟩)⟩⟩,λ_=>⟨⟨0,⟨#[]⟩,⟨#[]⟩,⟨#[]⟩,⟨#[]⟩,⟨#[]⟩,false,0,0, [], []⟩, .inl rfl, .inl ⟨rfl,rfl,rfl,rfl,rfl,rfl,rfl,rfl,rfl,rfl,rfl⟩⟩⟩,λ_=>⟨⟨0,⟨#[]⟩,⟨#[]⟩,⟨#[]⟩,⟨#[]⟩,⟨#[]⟩,false,0,0, [], []⟩, .inl rfl, .inl ⟨rfl,rfl,rfl,rfl,rfl,rfl,rfl,rfl,rfl,rfl,rfl⟩⟩⟩
 rintro g q;refine kD (X:=List Filt) [4] [4] [49] [] (λfs=>fs.length<=1/\∀f∈fs,GF f) (λ_=>[(7, .bptr 7 k 0)]) (λfs=>[(7, .box k [.v (.int .i64 p.op), .v (.int .i64 p.cond.op), .v (.string p.cond.name), .v (.string p.cond.arg), .v (.string p.cond.val), .v (.string p.cond.lab), .v (.bool p.cond.fold),enc p.cond.kids, .v (.string p.lab), .v (.string p.reg), .v (.int .i64 p.mn), .v (.int .i64 p.mx),enc p.kids, .v (.int .i64 g.op), .v (.string g.a), .v (.string g.b), .v (.string g.name), .v (.string g.arg), .v (.string g.val), .v (.bool g.fold), .v (.int .i64 g.mn), .v (.int .i64 g.mx),enc g.args,enc g.kids,enc fs, .v (.int .i64 z)])]) [7] (λ_=>rfl) (by decide) ?_ ?_
 ·simp[h1];intro u M u1;have ut:u.tdiv 2=u/2:=Int.tdiv_eq_ediv_of_nonneg M;rw[ut];refine⟨by simp only[InR];omega,?_⟩;refine sV (X:=Int×Value×List Filt) [0,4,7] [4] [] [] [] [] (λx=>(0<=x.1/\x.1+x.2.2.length<=1)/\∀f∈x.2.2,GF f) (λx=>[(8,enc x.1)]) (λx=>[(7, .box k [.v (.int .i64 p.op), .v (.int .i64 p.cond.op), .v (.string p.cond.name), .v (.string p.cond.arg), .v (.string p.cond.val), .v (.string p.cond.lab), .v (.bool p.cond.fold),enc p.cond.kids, .v (.string p.lab), .v (.string p.reg), .v (.int .i64 p.mn), .v (.int .i64 p.mx),enc p.kids, .v (.int .i64 g.op), .v (.string g.a), .v (.string g.b), .v (.string g.name), .v (.string g.arg), .v (.string g.val), .v (.bool g.fold), .v (.int .i64 g.mn), .v (.int .i64 g.mx),enc g.args,enc g.kids, .own 49 x.2.1, .v (.int .i64 z)]),(49, .row x.2.1 PJ 3 (x.2.2.map enc))]) (λx=>x.1.toNat) (u/2, .slice none 0 0, []) [7,49] (λ_=>rfl) (by decide) (by decide) ?_ ?_ ?_ ?_
  ·exact⟨⟨by show 0<=u/2;omega,by simp;omega⟩,by simp⟩
  ·simp
  ·simp[isNilRow];exact .nilown 49
  ·rintro⟨i,v,fs⟩ ⟨⟨e1,e2⟩,I⟩;simp only at e1 e2 I;simp[h6];refine⟨λhi=>⟨trivial,λy d=>⟨by omega,by omega,λv=>⟨by simp only[InR];omega,i -1,v,fs++ [y],⟨⟨by omega,by simp;omega⟩,λz hz=>(qBo.1 hz).elim (I z) λh=>by simp at h;subst h;exact d⟩,⟨rfl, .inl (.inl rfl), .inl (.inl (by simp))⟩,by omega⟩⟩⟩,λhi=>⟨fs,⟨by omega,I⟩, .inl (fM PJ (by simp[qbv]))⟩⟩
 ·rintro fs c;simp;exact br (⟨p,g,fs,z⟩:Qry) (by simp) (Y _ _ _ q c ⟨U,W⟩)
end
section
open Go.Proofs
theorem qjV{lb:List B} :∀n p,WP lb n p->∀out:List B,bv p out=jo p out:=by
 refine HF λn p hp l out=>?_
 have hk:∀ks:List Pat,(∀k∈ks,k∈p.kids)->∀o:List B,ks.foldl (λo k=>bv k o) o=ks.foldl (λo k=>jo k o) o:=by
  intro ks
  induction ks with
  |nil=>intro _ o;rfl
  | cons k ks d=>
    intro h o;obtain⟨m,_,_,hi⟩:=l k (h k (by simp));rw[qCj,qCj,hi,d λz hz=>h z (by simp[hz])]
 have c:p.op≠1->p.lab=E0->bv p out=jo p out:=λh1 h2=>by
  rw[nJ,ph,lG,if_pos h2,if_neg (λh=>h1 h.1)];exact hk _ (λ_ h=>h) _
 rcases wO hp with(⟨h1,h2,h3,h4,h5,h6⟩|⟨h1,h2,h3,h4,h5,h6,j⟩)|⟨m,rfl,(⟨h1,h2,h3,h4,h5,h6,a,b,j,_⟩|⟨h1,h2,h3,h4,h5,a,j,_⟩)⟩
 ·rw[nJ,ph,h6,lG];by_cases h:p.lab=E0
  ·rw[if_pos h,if_neg (λx=>x.2 h)];rfl
  ·rw[if_neg h,if_pos ⟨h1,h⟩];rfl
 ·exact c (by omega) h3
 ·exact c (by omega) h3
 ·exact c (by omega) h3
def qdV{out:List B}{x y:B}(h:y∈out):y∈lG out x:=by
 unfold lG BT;split
 ·exact h
 ·split
  ·exact h
  ·simp[h]
def qdU{out:List B}{x:B}(h:x≠E0):x∈lG out x:=by
 unfold lG BT;rw[if_neg h];split
 ·assumption
 ·simp
def qkX{out:List B}{x:B}(h:out.Nodup):(lG out x).Nodup:=by
 unfold lG BT;split
 ·exact h
 ·split
  ·exact h
  ·rename_i c;rw[List.nodup_append];exact⟨h,by simp,λa d b hb=>by simp at hb;subst hb;exactλe=>c (e ▸d)⟩
def qdh(p:Pat):∀(out:List B) (y:B),y∈out->y∈bv p out:=by
 induction p using fh with|_ p b=>?_
 intro out y h;rw[nJ];have:∀ks:List Pat,(∀k∈ks,k∈p.kids)->∀o:List B,y∈o->y∈ks.foldl (λo k=>bv k o) o:=by
  intro ks
  induction ks with
  |nil=>intro _ o h;exact h
  |cons k ks a=>intro hk o h;exact a (λz hz=>hk z (by simp[hz])) _ (b k (hk k (by simp)) o y h)
 exact this _ (λ_ h=>h) _ (qdV h)
def qjU(p:Pat):∀(out:List B),out.Nodup->(bv p out).Nodup:=by
 induction p using fh with|_ p b=>?_
 intro out h;rw[nJ];have:∀ks:List Pat,(∀k∈ks,k∈p.kids)->∀o:List B,o.Nodup->(ks.foldl (λo k=>bv k o) o).Nodup:=by
  intro ks
  induction ks with
  |nil=>intro _ o h;exact h
  |cons k ks a=>intro hk o h;exact a (λz hz=>hk z (by simp[hz])) _ (b k (hk k (by simp)) o h)
 exact this _ (λ_ h=>h) _ (qkX h)
theorem qdg(p:Pat):∀q∈rT p,q.lab≠E0->∀out:List B,q.lab∈bv p out:=by
 induction p using fh with|_ p c=>?_
 intro q hq hl out;rw[nJ];have hm:∀ks:List Pat,∀o:List B,q.lab∈o->q.lab∈ks.foldl (λo k=>bv k o) o:=by
  intro ks
  induction ks with
  |nil=>intro o h;exact h
  |cons k ks a=>intro o h;exact a _ (qdh k o _ h)
 cases p with
 | mk op cond lab reg mn mx ks=>
   rw[rT]at hq;rcases qBt.1 hq with rfl|hq
   ·exact hm _ _ (qdU hl)
   ·obtain⟨k,hk,hq⟩:=uY hq;have:∀l:List Pat,k∈l->∀o:List B,q.lab∈l.foldl (λo k=>bv k o) o:=by
     intro l
     induction l with
     |nil=>intro h;cases h
     | cons z l b=>
       intro h o;rw[qCj];rcases qBt.1 h with rfl|h
       ·exact hm _ _ (c k hk q hq hl _)
       ·exact b h _
    exact this _ hk _
def qbw{n:Nat}{q:Qry}(h:GQ n q):bv q.pat []=jo q.pat []/\(bv q.pat []).length<=2:=by
 obtain⟨lb,hl,b⟩:=h.lab;have e:=qjV n q.pat b [];refine⟨e,?_⟩;have hm:∀y∈bv q.pat [],y=qn9\/y=qpg:=λy a=>by
  rw[e]at a;rcases qkR n q.pat b [] y a with h|h
  ·cases h
  ·exact hl y h
 refine qc5 (f:=λy=>if y=qn9 then 0 else 1) (qjU q.pat [] List.nodup_nil) (λy _=>by split<;>omega) λx c y a=>?_
 rcases hm x c with rfl|rfl<;>rcases hm y a with rfl|rfl
 ·exactλ_=>rfl
 ·rw[if_pos rfl,if_neg (by decide)];exactλh=>by cases h
 ·rw[if_neg (by decide),if_pos rfl];exactλh=>by cases h
 ·exactλ_=>rfl
theorem qf5{n:Nat}{c:Corpus}{q:Qry}(hc:qca c)(d:GQ n q)(hn:n<=5):qsp Pw c q:=by
 obtain⟨lb,hl,r⟩:=d.lab;have a:fk aB q.pat=true:=qiz hl qme n q.pat r (by omega);obtain⟨b,w⟩:=qbw d;obtain⟨_,y,A⟩:=Q2 n q.pat r hn;have h3:(3:Int) ^n<=243:=by
  rcases n with _|_|_|_|_|_|n
  all_goals first|decide|omega
 have h2:2^ (n+1)<=64:=by
  rcases n with _|_|_|_|_|_|n
  all_goals first|decide|omega
 have j:eY q.pat<=1000000:=by omega
 have k:(bv q.pat []).length<=3:=by omega
 have he:bX nG q.pat=true/\bX nE q.pat=true:=by
  unfold fk at a;simp only[qBh]at a;exact⟨a.1.1.2,a.2⟩
 have u:CT qt q.pat:=B3 (EF q.pat he.1) λq h=>(pQ q).1 h
 refine⟨⟨by rw[b];exact d.glob,d.filts.2,d.strat,a,by omega,k,j,hc.ok.1,λx C=>?_⟩,⟨hc.ok.sz,by have:=hc.few;omega,a,k,j,λt J=>?_⟩⟩
 ·have l:=d.cond x C;rw[b,hc.ok.1];exact⟨qm1 l (by omega),qm8 l⟩
 ·intro z hz;refine⟨u z hz,EF q.pat he.2 z hz,λh=>di (qdg q.pat z hz h []),λh1 s hs F=>?_⟩;have l:=d.cond z (qc6 q.pat u z hz h1);rw[<-b]at l;have I:(qfs c (bv q.pat []) t).en<=c.toks.length:=by show min t.e (c.toks.length:Int)<=_;omega
  exact qgo (E:=⟨(qfs c (bv q.pat []) t).c,s.p,(qfs c (bv q.pat []) t).lb,qvq (qfs c (bv q.pat []) t) s⟩) ⟨hc.ok,hs.1,by show s.p<(c.toks.length:Int);omega,qkU _ s⟩ l (by decide)
open Cod (enc dec)
variable {S S0:Nat->Spc}
end
section
open Go.Proofs
open Cod (enc dec)
variable {S S0:Nat->Spc}
end
end Go.Gv
