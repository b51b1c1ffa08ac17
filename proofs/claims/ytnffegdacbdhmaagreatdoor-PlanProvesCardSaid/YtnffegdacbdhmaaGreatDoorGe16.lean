/- W80 -/
import Derived.Test.YtnffegdacbdhmaaGreatDoorGe15
set_option linter.all false
set_option maxRecDepth 100000
set_option maxHeartbeats 0
open Bool renaming forall_bool → fB', exists_bool → eB'
namespace Go.Gv
section
open Cod (enc dec)
variable {S S0:Nat->Spc}
def qcT(x:List Int×Int×List B)(y:Cond):Prop:=GI x.2.2 x.2.1.toNat y
abbrev OG(n:Nat):Spc:=aG (aT (a2 Int (List B))) (TN n) (enc (X:=Cond)) qcT
def qFu{i:Nat}{a:B}(h:[(⟨#[119,111,114,100]⟩:B),⟨#[119,111,114,100]⟩,⟨#[116,97,103]⟩][i]? =some a):a∈Attr2:=by
 have:=aU h;simpa [Attr2,Of,qhQ]using this
def qo2{i:Nat}{a:B}(h:[(⟨#[119,111,114,100]⟩:B),⟨#[116,97,103]⟩][i]? =some a):a∈Attr2:=aU h
def qDa{i:Nat}{a:B}(h:[(⟨#[112]⟩:B),⟨#[113]⟩][i]? =some a):a∈FeatL:=aU h
def qC9{i:Nat}{a:B}(h:[(⟨#[49]⟩:B),⟨#[50]⟩][i]? =some a):a∈NumL:=aU h
def qEO{i:Nat}{a:B}(h:[(⟨#[97]⟩:B),⟨#[98]⟩,⟨#[97,46,42]⟩,⟨#[91,97,98,93]⟩][i]? =some a):a∈ValsT:=aU h
def qFt{i:Nat}{a:B}(h:[(⟨#[97]⟩:B),⟨#[98]⟩,⟨#[97,46,42]⟩,⟨#[91,97,98,93]⟩,⟨#[88]⟩,⟨#[]⟩,⟨#[99,63]⟩,⟨#[97,124,98]⟩][i]? =some a):a∈ValsI:=by
 have:=aU h;simp only[ValsI,qFK,qGd,or_false]at this ⊢;rcases this with h|h|h|h|h|h|h|h<;>simp[h]
theorem qa9(n:Nat)(h1:S bU=s_m_Next)(h2:S uf=Ar)(h3:S lO=OG n):ak vj uE S (aT (a2 Int (List B))) (TN (n+1)) (enc (X:=Cond)) qcT:=by
 rintro⟨L,deep,lb⟩ ⟨hn,E,F,q⟩;simp only at hn E F q;simp[vj,uE,h1];intro b6 W I Z;refine aS (X:=Int) [0,1,2,6] [6] (λk=>0<=k/\k< 12/\(deep< 1->k< 8)) (λk=>[(7,enc k)]) (λ_=>[]) ?_ ?_
 ·simp;have:W.tmod 8=W % 8:=Int.tmod_eq_emod_of_nonneg I;rw[this];omega
 rintro k ⟨q0,q1,q2⟩;refine aS (X:=Unit) [0,1,2,6,7] [6] (λ_=>10<=k) (λ_=>[]) (λ_=>[]) ?_ ?_
 ·simp;refine aS (X:=Bool) [0,1,2,6,7,15] [6] (λb=>b=decide (k< 4)) (λb=>[(16,enc b)]) (λ_=>[]) ?_ ?_
  ·simp
   repeat' first|apply And.intro|intro _
   all_goals first|omega|(rw[qGb];simp;omega)
  rintro b hb;simp[h1,Sj,X6,qud,qpm,nE,tz,-fB'];refine⟨λ_ y c d=>⟨c,d,λa r y c d=>⟨c,d,λJ s y c d=>gH [] (.nil _) (.atom _ _ (.val a J _ (qFu r) (qFt s)))⟩⟩,λp=>?_⟩;rw[p]at hb;have hb:4<=k:=by simpa using hb.symm
  refine⟨λ_ y c d=>⟨c,d,λa r=>gH [] (.nil _) (.atom _ _ (.feat a (qDa r)))⟩,λk4=>⟨λ_ _=>⟨λhl y c d=>⟨c,d,λa r _=>⟨by omega,λy C=>⟨by omega,by omega,λJ s y c d=>⟨c,d,λK A=>gH [] (.nil _) (.atom _ _ (.same a J K (qo2 r) (aU s) (qo2 A)))⟩⟩⟩⟩,λ_=>gH [] (.nil _) (.atom _ _ (.val qhQ _ false (by simp[Attr2]) (by simp[ValsI])))⟩,λk5=>?_⟩⟩;refine aS (X:=Bool) [0,1,2,6,7,15] [6] (λb=>b=decide (k=6\/k=7)) (λb=>[(67,enc b)]) (λ_=>[]) ?_ ?_
  ·simp
   repeat' first|apply And.intro|intro _
   all_goals first|omega|(rw[qGb];simp;omega)
  rintro b u;simp[h1,h2,-fB'];refine⟨λ_ y c d=>⟨trivial,λt Y b8=>?_⟩,λp=>?_⟩
  ·refine aS (X:=B×B) [6,8] [6] (λx=>(x.1=E0/\x.2=E0)\/(x.1=qwX/\x.2∈NumL)) (λ_=>[]) (λx=>[(8, .box b8 [.v (.int .i64 5), .v (.string t), .v (.string x.1), .v (.string x.2), .v (.string ⟨#[]⟩), .v (.bool false), .v (.slice none 0 0)])]) ?_ ?_
   ·simp[h1,Sj,nE,tz];refineλy c d=>⟨λ_ z M N=>⟨M,N,λa r=>⟨qwX,a, .inr ⟨rfl,qC9 r⟩, .inl ⟨rfl,rfl⟩⟩⟩,λ_=>⟨E0,E0, .inl ⟨rfl,rfl⟩, .inl ⟨rfl,rfl⟩⟩⟩
   ·rintro⟨a,v⟩ O;simp;refine gH [] (.nil _) (.atom _ _ ?_);rcases O with⟨rfl,rfl⟩|⟨rfl,hv⟩
    ·exact .reg t Y
    ·exact .regk t v Y hv
  rw[p]at u;have u:¬(k=6\/k=7):=by simpa using u.symm
  refine aS (X:=Bool) [0,1,2,6,7,15] [6] (λb=>b=decide (k=8\/k=9)) (λb=>[(85,enc b)]) (λ_=>[]) ?_ ?_
  ·simp
   repeat' first|apply And.intro|intro _
   all_goals first|omega|(rw[qGb];simp;omega)
  rintro b l;simp[h3,-fB'];have j:1<=deep->TN n (L,deep -1,lb):=λh=>⟨by show(deep -1).toNat<n;omega,by show -10<=deep -1;omega,by show deep -1<=100;omega,q⟩
  refine⟨λQ=>?_,λp=>?_⟩
  ·rw[Q]at l;have l:k=8\/k=9:=by simpa using l.symm
   have w:deep.toNat=(deep -1).toNat+1:=by omega
   refine⟨by simp only[InR];omega,j (by omega),λy C=>gH [y] (by simp) (by show GI lb deep.toNat _;rw[w];exact .not _ _ C)⟩
  rw[p]at l;have l:¬(k=8\/k=9):=by simpa using l.symm
  omega
 ·rintro -hk;have j:TN n (L,deep -1,lb):=⟨by show(deep -1).toNat<n;omega,by show -10<=deep -1;omega,by show deep -1<=100;omega,q⟩
  have w:deep.toNat=(deep -1).toNat+1:=by omega
  simp[h3];refine⟨by simp only[InR];omega,by simp only[InR];omega,by simp only[InR];omega,j,λy C=>⟨by simp only[InR];omega,j,λy' U=>gH [y,y'] (by simp) (by show GI lb deep.toNat _;rw[w];exact .two _ _ _ _ (by omega) C U)⟩⟩
def qpX(x:List Int×Int×List B)(y:Cond):Prop:=GC x.2.2 x.2.1.toNat y
abbrev Sw:Spc:=aG (aT (a2 Int (List B))) (λx=> -10<=x.2.1/\x.2.1<=100/\x.2.2.length<=1000) (enc (X:=Cond)) qpX
abbrev LN:Spc:=aG (aT (a2 Int (List B))) (λx=>∃n,TN n x) (enc (X:=Cond)) qcT
theorem qfh(h1:S bU=s_m_Next)(h3:S lO=LN):ak xP wH S (aT (a2 Int (List B))) (λx=> -10<=x.2.1/\x.2.1<=100/\x.2.2.length<=1000) (enc (X:=Cond)) qpX:=by
 rintro⟨L,deep,lb⟩ ⟨b,c,d⟩;simp only at b c d;simp[xP,wH,h1];intro q;refine aS (X:=Unit) [0,1,2,6] [6] (λ_=>True) (λ_=>[]) (λ_=>[]) ?_ ?_
 ·simp[h1,qpm,nE,tz,-fB'];exactλy _ _=>⟨λ_=>gH [] (.nil _) .any,λ_=>⟨λ_ z j k=>⟨j,k,λa l u _ _=>gH [] (.nil _) (.top a _ (qEO l))⟩,λ_ _ z j k=>⟨j,k,λa l u _ _=>gH [] (.nil _) (.top a _ (qEO l))⟩⟩⟩
 ·rintro - -;have h:∃n,TN n (L,deep,lb):=⟨deep.toNat+1,Nat.lt_succ_self _,b,c,d⟩
  simp[h3,h];exactλy p=>gH y.kids (.same _) (by show GC lb deep.toNat _;rw[Jp y];exact .inner _ p)
def qrC{p:Pat}{C:Pat->Prop}(h1:¬p.op=1)(h2:p.kids=[]):∀y∈aq p,C y:=by
 rw[bc,if_neg h1,h2];simp
def qrA{p:Pat}{C:Pat->Prop}(h1:p.op=1)(h:C p):∀y∈aq p,C y:=by
 rw[bc,if_pos h1];simpa using h
def qrB{p a:Pat}{C:Pat->Prop}(h1:¬p.op=1)(h2:p.kids=[a])(b:∀y∈aq a,C y):∀y∈aq p,C y:=by
 rw[bc,if_neg h1,h2];simpa using b
def qjJ{p a b:Pat}{C:Pat->Prop}(h1:¬p.op=1)(h2:p.kids=[a,b])(c:∀y∈aq a,C y)(hb:∀y∈aq b,C y):∀y∈aq p,C y:=by
 rw[bc,if_neg h1,h2];simp only[qGf,List.flatMap_nil,qGR];intro y hy;rcases qFG.1 hy with hy|hy
 ·exact c y hy
 ·exact hb y hy
def QK(x:List Int×Int×List B)(p:Pat):Prop:=qwk x p/\∀y∈aq p,GC x.2.2 1 y.cond
abbrev Ip(n:Nat):Spc:=aG (aT (a2 Int (List B))) (qeV n) (enc (X:=Pat)) QK
theorem Ur(n:Nat)(h1:S bU=s_m_Next)(h2:S uf=Ar)(h3:S zz=Sw)(h4:S iF=Ip n):ak rH ql S (aT (a2 Int (List B))) (qeV (n+1)) (enc (X:=Pat)) QK:=by
 rintro⟨L,deep,lb⟩ ⟨hn,u,w,q⟩;simp only at hn u w q;simp[rH,ql,h1];intro W I A M;refine aS (X:=Int) [0,1,2,6] [6] (λk=>0<=k/\k< 14/\(deep< 1->k< 7)) (λk=>[(7,enc k)]) (λ_=>[]) ?_ ?_
 ·simp;have:I.tmod 7=I % 7:=Int.tmod_eq_emod_of_nonneg A;rw[this];omega
 rintro k ⟨Y,Z,q2⟩;refine aS (X:=Unit) [0,1,2,6] [6] (λ_=>12<=k) (λ_=>[]) (λ_=>[]) ?_ ?_
 ·have b:1<=deep->qeV n (L,deep -1,lb):=λh=>⟨by show(deep -1).toNat<n;omega,by show -10<=deep -1;omega,by show deep -1<=100;omega,q⟩
  have j:1<=deep->deep.toNat=(deep -1).toNat+1:=λh=>by omega
  simp[h1,h2,h3,h4,-fB'];refine⟨λhk=>⟨q,λc hc N=>?_⟩,λhk=>⟨λC=>⟨by simp only[InR];omega,by simp only[InR];omega,λy _ _=>⟨trivial,λt O=>Fa [] [] (.nil _) (.nil _) ⟨⟨qz0 (.inr ⟨by show(2+k -5=2\/2+k -5=3);omega,rfl,rfl,O,rfl,rfl,rfl⟩),qje qey rfl⟩,qrC (by show ¬2+k -5=1;omega) rfl⟩⟩⟩,λC=>⟨λr=>⟨by simp only[InR];omega,b (by omega),λy p=>⟨by simp only[InR];omega,b (by omega),λs l=>?_⟩⟩,λr J=>⟨by simp only[InR];omega,b (by omega),λy p=>⟨by simp only[InR];omega,b (by omega),λs l=>?_⟩⟩⟩⟩⟩
  ·refine aS (X:=B) [6,8] [6] (λx=>x=⟨#[]⟩\/x∈lb) (λ_=>[]) (λx=>[(8, .box N [.v (.int .i64 1), .v (.int .i64 c.op), .v (.string c.name), .v (.string c.arg), .v (.string c.val), .v (.string c.lab), .v (.bool c.fold),enc c.kids, .v (.string x), .v (.string ⟨#[]⟩), .v (.int .i64 0), .v (.int .i64 0), .v (.slice none 0 0)])]) ?_ ?_
   ·simp[h1];exactλ_ h0 y _ _ _ _=>⟨by omega,λz hz=>⟨by omega,by omega,λa Q=> .inr ⟨a,aU Q, .inl rfl⟩⟩⟩
   ·rintro x U;simp;exact Fa c.kids [] (.same _) (.nil _) ⟨⟨qz0 (.inl ⟨rfl,U,rfl,rfl,rfl,rfl⟩),qje ⟨_,qoG (d:=c) rfl (qvi hc)⟩ rfl⟩,qrA rfl (by show GC lb 1 _;rw[Jp c];exact hc)⟩
  ·refine Fa [] [y,s] (.nil _) (by simp) ?_;refine⟨⟨?_,qjd (j (by omega)) qey rfl p.1.2 l.1.2⟩,qjJ (by show ¬(4:Int)=1;decide) rfl p.2 l.2⟩;show WP lb deep.toNat _;rw[j (by omega)];exact .inr (.inl ⟨.inl rfl,rfl,rfl,rfl,rfl,rfl,y,s,rfl,p.1.1,l.1.1⟩)
  ·refine Fa [] [y,s] (.nil _) (by simp) ?_;refine⟨⟨?_,qjd (j (by omega)) qey rfl p.1.2 l.1.2⟩,qjJ (by show ¬(5:Int)=1;decide) rfl p.2 l.2⟩;show WP lb deep.toNat _;rw[j (by omega)];exact .inr (.inl ⟨.inr rfl,rfl,rfl,rfl,rfl,rfl,y,s,rfl,p.1.1,l.1.1⟩)
 ·rintro -hk;have b:qeV n (L,deep -1,lb):=⟨by show(deep -1).toNat<n;omega,by show -10<=deep -1;omega,by show deep -1<=100;omega,q⟩
  have j:deep.toNat=(deep -1).toNat+1:=by omega
  have fin:∀(mn mx:Int) (y:Pat) (H:ab),(mn,mx) ∈qaI->QK (L,deep -1,lb) y->Fin enc (QK (L,deep,lb)) (.agg [.v (.int .i64 6), .v (.int .i64 0), .v (.string ⟨#[]⟩), .v (.string ⟨#[]⟩), .v (.string ⟨#[]⟩), .v (.string ⟨#[]⟩), .v (.bool false), .v (.slice none 0 0), .v (.string ⟨#[]⟩), .v (.string ⟨#[]⟩), .v (.int .i64 mn), .v (.int .i64 mx), .list 13 [enc y]]) H:=by
   intro mn mx y H hm p;refine Fa [] [y] (.nil _) (by simp) ?_;refine⟨⟨?_,qri j qey rfl p.1.2⟩,qrB (by show ¬(6:Int)=1;decide) rfl p.2⟩;show WP lb deep.toNat _;rw[j];exact .inr (.inr ⟨rfl,rfl,rfl,rfl,hm,y,rfl,p.1.1⟩)
  simp only[Wl]at fin;simp[h1,h4];intro y E F;refine⟨E,F,λd K=>?_⟩;have:y=0\/y=1\/y=2\/y=3\/y=4\/y=5\/y=6:=by omega
  rcases this with rfl|rfl|rfl|rfl|rfl|rfl|rfl
  all_goals (simp at K;subst K;simp[h4])
  all_goals exact⟨by simp only[InR];omega,b,λy p=>fin _ _ y _ (by simp[qaI]) p⟩
end
section
open Go.Proofs
def P3{f:Pat->Bool}(p:Pat)(h:cx f p=true):tt (λq=>f q=true) p:=by
 induction p using fg with|_ p a=>?_
 rw[cZ,qFJ,qFI]at h;exact qnA h.1 λk hk=>a k hk (h.2 k hk)
def qgb(p:Pat):tt xY p->∀q∈uL p,q.op=1->q∈aq p:=by
 induction p using fg with|_ p b=>?_
 intro a q hq h1;have hp:=py a;rw[bc];cases p with
 | mk op cond lab reg mn mx ks=>
   rw[uL]at hq;rcases qFK.1 hq with rfl|hq
   ·rw[if_pos h1];simp
   ·obtain⟨k,hk,hq⟩:=yq hq;split
    ·rename_i e;rcases hp with h|h|h|h
     ·have:=h.2.2.2.2;simp only at this;rw[this]at hk;cases hk
     ·have:=h.1;simp only at this e;omega
     ·have:=h.1;simp only at this e;omega
     ·have:=h.1;simp only at this e;omega
    ·exact qG0.2 ⟨k,hk,b k hk (wM a hk) q hq h1⟩
def qm2:Prop:=aB qzF=true/\aB qo1=true/\aB qzE=true/\aB qsz=true/\aB qtA=true
def Af{b:B}(h:(decide (1<=b.size) && decide (b.size<=32) && (b.data.toList.all λc=>AP c.toNat))=true):aB b=true:=by
 simp only[qFJ,decide_eq_true_eq,qFI]at h;have hm:∀(k:Nat) (c:UInt8),b.data[k]? =some c->AP c.toNat=true:=λk c hc=>h.2 c (by rw[<-qFZ]at hc;exact qFF hc)
 rw[Gb];exact⟨h.1.1,h.1.2,hm 0,λk c hc=>by unfold RW;rw[hm k c hc];rfl⟩
def qhy:qm2:=⟨Af (by decide),Af (by decide),Af (by decide),Af (by decide),Af (by decide)⟩
def VF{lb:List B} :∀{n:Nat} {c:Cond},GI lb n c->M1 (n+1) c
 |n,_, .atom _ c h=>⟨by rw[yt h];decide,λk hk=>by rw[yt h]at hk;cases hk⟩
 | _,_, .not n k h=>⟨qFE rfl,λz hz=>by rw[qGT]at hz;subst hz;exact VF h⟩
 | _,_, .two n op a b _ h1 h2=>⟨qFE rfl,λz hz=>by
    simp only[qFK,qGd,or_false]at hz;rcases hz with rfl|rfl
    ·exact VF h1
    ·exact VF h2⟩
def qrx{lb:List B}{n:Nat}{c:Cond}(h:GC lb n c):∃m,M1 m c:=by
 cases h with
 |any=>exact⟨1,by decide,λk hk=>by cases hk⟩
 |top v f h=>exact⟨1,qFE rfl,λk hk=>by cases hk⟩
 |inner c h=>exact⟨_,VF h⟩
structure TP (c:Corpus):Prop where
 ok:OkCorp c
 few:c.toks.length<=60


open Cod (enc dec)
variable {S S0:Nat->Spc}
end
section
open Go.Proofs
def IT:FO iF [2006006] rH ql 103:=fo
open Go.Proofs Cod
variable {dq:Prop}
def Jz:TQ dq uf Ar:=
 ac (ag (aa UP ae)) SP (qfg rfl)
def CK:∀n,TQ dq lO (OG n)
 | 0=>bH λx h=>by have:=h.1;omega
 |n+1=>ck (ag (aa de (aa Jz (aa (CK n) ae)))) MV (λ_=>qFE rfl) (qa9 n rfl rfl rfl)
def Qv:TQ dq lO LN:=dC (λn=>CK n) (fH (λx h=>h))
def R2:TQ dq zz Sw:=
 ac (ag (aa de (aa Qv ae))) Pq (qfh rfl rfl)
def AN:∀n,TQ dq iF (Ip n)
 | 0=>bH λx h=>by have:=h.1;omega
 |n+1=>ck (ag (aa de (aa Jz (aa R2 (aa (AN n) ae))))) IT (λ_=>qFE rfl) (Ur n rfl rfl rfl rfl)
end
section
open Go.Proofs
def WB(w:Int×Int)(d:Int):Prop:=0<=d/\w.1<=d/\(w.2= -1\/d<=w.2\/10000<d)
def qqf{a b:Int×Int}{d e:Int}(c:WB a d)(hb:WB b e):WB (Fl true a b) (d+e):=by
 unfold WB Fl at*;rw[if_pos rfl];refine⟨by omega,by simp only;omega,?_⟩;simp only;split<;>omega
def qmD{a b:Int×Int}{d:Int}(c:WB a d):WB (Fl false a b) d:=by
 unfold WB Fl at*;rw[if_neg (by decide)];refine⟨by omega,by simp only;omega,?_⟩;simp only;split<;>omega
def qmC{a b:Int×Int}{d:Int}(c:WB b d):WB (Fl false a b) d:=by
 unfold WB Fl at*;rw[if_neg (by decide)];refine⟨by omega,by simp only;omega,?_⟩;simp only;split<;>omega
def TW{d:Int} :∀(ks:List Pat) (w:Int×Int),WB w d->WB (gw false ks w) d
 | [],w,h=>by rw[gw];exact h
 |k::ks,w,h=>by rw[gw];exact TW ks _ (qmD h)
def WD(r:Rn)(p:Pat):Prop:=∀s t,pM r p s t->WB (aO p) (t.p -s.p)
def qdb{r:Rn} :∀(ks:List Pat) (w:Int×Int) (d:Int) (s t:St3),(∀k∈ks,WD r k)->WB w d->zZ r ks s t->WB (gw true ks w) (d+ (t.p -s.p))
 | [],w,d,s,t,_,h,c=>by
   rw[xp]at c;rw[gw,c,Int.sub_self,Int.add_zero];exact h
 | k::ks,w,d,s,t,hk,h,c=>by
   rw[pF]at c;obtain⟨u,a,b⟩:=c;rw[gw];have:=qdb ks _ _ u t (λk h=>hk k (by simp[h])) (qqf h (hk k (by simp) s u a)) b;rw[show d+ (t.p -s.p)=d+ (u.p -s.p) + (t.p -u.p)by omega];exact this
def qdc{r:Rn} :∀(ks:List Pat) (w:Int×Int) (s t:St3),(∀k∈ks,WD r k)->Ct r ks s t->WB (gw false ks w) (t.p -s.p)
 | [],w,s,t,_,a=>by rw[Js]at a;exact a.elim
 | k::ks,w,s,t,hk,a=>by
   rw[wg]at a;rw[gw];rcases a with h|h
   ·exact TW ks _ (qmC (hk k (by simp) s t h))
   ·exact qdc ks _ s t (λk h=>hk k (by simp[h])) h
def JR{R:St3->St3->Prop}{w:Int×Int}(h:∀s t,R s t->WB w (t.p -s.p)):∀(n:Nat) (s t:St3),Pow R n s t->0<=t.p -s.p/\w.1*n<=t.p -s.p/\(w.2= -1\/t.p -s.p<=w.2*n\/10000<t.p -s.p)
 | 0,s,t,hp=>by
   have hp:s=t:=hp;subst hp;simp
 | n+1,s,t,⟨u,a,b⟩=>by
   have h1:=h s u a;have h2:=JR h n u t b;unfold WB at h1;rw[show((n+1:Nat):Int)=(n:Int) +1 by omega,Int.mul_add,Int.mul_add];omega
theorem Wp{r:Rn}{v:B->Bool}(p:Pat):fy v p=true->WD r p:=by
 induction p using fg with|_ p l=>?_
 intro h s t d;obtain⟨h1,_,hn⟩:=cH h;unfold lF at hn;rw[decide_eq_true_eq]at hn;rcases mA h1 with⟨ho,_⟩|⟨ho,_⟩|⟨ho,k,ks,hk⟩|⟨ho,k,hk⟩
 ·rw[Xe ho];have hp:=((qes ho s t).1 d).2.2;have:t.p=s.p+1:=by
   rw[hp];unfold KQ;dsimp only;split
   ·rfl
   ·generalize (fe r.lb λz=>decide (z=p.lab)).toNat=i;rcases i with _|_|i<;>rfl
  unfold WB;simp only;omega
 ·rw[qc9 ho,((Qe ho s t).1 d).2];unfold WB;simp only;omega
 ·rw[qc8 ho hk];have c:∀x∈p.kids,WD r x:=λx j=>l x j (dX h j)
  rcases ho with ho|ho
  ·rw[qkV ho,hk,pF]at d;obtain⟨u,a,b⟩:=d;rw[show decide (p.op=4)=true from decide_eq_true ho,show t.p -s.p=(u.p -s.p) + (t.p -u.p)by omega];exact qdb ks _ _ u t (λx j=>c x (by rw[hk];simp[j])) (c k (by rw[hk];simp) s u a) b
  ·rw[qpQ ho,hk,wg]at d;rw[show decide (p.op=4)=false from decide_eq_false (by omega)];rcases d with a|a
   ·exact TW ks _ (c k (by rw[hk];simp) s t a)
   ·exact qdc ks _ s t (λx j=>c x (by rw[hk];simp[j])) a
 ·rw[qc7 ho hk];have y:=l k (by rw[hk];simp) (dX h (by rw[hk];simp));have hn:=hn ho;rw[qer ho hk]at d;obtain⟨u,a,n,hm,b⟩:=d;have ok:=tu k (dX h (by rw[hk];simp));have a1:=JR y _ s u a;have b1:=JR (λs t q=>y s t q.1) n u t b;rw[Int.toNat_of_nonneg hn.1]at a1;unfold dG at ok;generalize aO k=w at*;have A:0<=w.1*n:=qHc ok.1 (by omega);refine⟨by omega,by simp only;omega,?_⟩;simp only;split
  ·rename_i h0;rcases h0 with h0|h0
   ·have h2:p.mn=0:=by omega
    have h3:n=0:=by omega
    subst h3;rw[h2]at a;have a:s=u:=a;have b:u=t:=b;subst a;subst b;omega
   ·rw[h0,Int.zero_mul]at a1 b1;omega
  ·split
   ·exact .inl rfl
   ·rename_i h0 h2;have h3:p.mn+n<=p.mx:=by omega
    have h4:w.2* (p.mn+n)<=w.2*p.mx:=Int.mul_le_mul_of_nonneg_left h3 (by omega);rw[Int.mul_add]at h4;omega


open Cod (enc dec)
variable {S S0:Nat->Spc}
end
section
open Go.Proofs Cod
variable {dq:Prop}
def FP:∀n,TQ dq nM (Np n)
 | 0=>bH λx h=>qb5 h.1
 |n+1=>ck (ag (aa (FP n) ae)) Pg (λ_=>qFE rfl) (Q7 n rfl)
def Rs:TQ dq nM Ih:=
 dC (λn=>FP n) (fH (λx h=>⟨cg x,qFH _,h⟩))
def FI:TQ dq hU EY:=
 ac (ag (aa tv (aa Rs ae))) Pm (Rf rfl rfl)
end
section
variable {S S0:Nat->Spc}
mutual
def qI:Glob->Nat| .mk _ _ _ _ _ _ _ _ _ _ ks=>pB ks+1
def pB:List Glob->Nat|[]=>0|k::ks=>max (qI k) (pB ks)
end
def K1:∀{ks:List Glob} {k:Glob},k∈ks->qI k<=pB ks
 | x::ks,k,h=>by
   rw[pB];rcases qFK.1 h with rfl|h
   ·omega
   ·have:=K1 h;omega
def ZN{p k:Glob}(h:k∈p.kids):qI k<qI p:=by
 have:=K1 h;cases p;rw[qI];simp only at this;omega
mutual
def I5:Glob->Nat| .mk _ _ _ _ _ _ _ _ _ _ ks=>pA ks+1
def pA:List Glob->Nat|[]=>0|k::ks=>I5 k+pA ks
end
def qdX(x:Glob):I5 x=pA x.kids+1:=by cases x;rw[I5]
def NE(x:Glob):qI x=pB x.kids+1:=by cases x;rw[qI]
def KR:∀(a b:List Glob),pA (a++b)=pA a+pA b
 | [],b=>by rw[qGz,pA];omega
 |k::a,b=>by rw[qGk,pA,pA,KR a b];omega
def To:∀(a b:List Glob),pB (a++b)=max (pB a) (pB b)
 | [],b=>by rw[qGz,pB];omega
 |k::a,b=>by rw[qGk,pB,pB,To a b];omega
def qf7{ks:List Glob}{k:Nat}{x:Glob}(h:ks[k]? =some x):pA (ks.take (k+1))=pA (ks.take k) +I5 x/\pB (ks.take (k+1))=max (pB (ks.take k)) (qI x)/\pA (ks.take (k+1))<=pA ks:=by
 have e:=av h;refine⟨by rw[e,KR,pA,pA];omega,by rw[e,To,pB,pB];omega,?_⟩
 conv=>rhs;rw[<-qGa (k+1) ks,KR]
 omega
def qrO{lb:List B}{n:Nat}{g:Glob}(h:GG lb n g):I5 g< 2^ (n+1)/\qI g<=n+1:=by
 induction h with
 |not n k h j=>rw[I5,qI,Nat.pow_succ];simp only[pA,pB];omega
 |two n op a b ho h1 h2 c d=>rw[I5,qI,Nat.pow_succ];simp only[pA,pB];omega
 |bound n|val n|same n|dist n|reg n|head n|path n|node n|depth n=>have:=Nat.one_le_two_pow (n:=n);rw[I5,qI,Nat.pow_succ];simp only[pA,pB];omega
def qkh{lb:List B}{n:Nat}{g k:Glob}(h:GG lb n g)(hk:k∈g.kids):∃m,m<=n/\GG lb m k:=by
 cases h with
 | not n c h=>
   simp at hk;subst hk;exact⟨n,by omega,h⟩
 | two n op a b ho h1 h2=>
   simp at hk;rcases hk with rfl|rfl
   ·exact⟨n,by omega,h1⟩
   ·exact⟨n,by omega,h2⟩
 | _=>cases hk
end
section
open Go.Proofs
def tb:CC:=gq Tryz.f121 [3] {} _
def sq:List aj:=[.tmp 6, .tmp 7]
def KB:FO jP [3] tb sq 40:=fo
def bV:CC:=gq Tryz.f123 [1,2029005,2028005,2027005,2026005,2037005,2036005,2045005,2044005,2068005,2067005,2066005] {} _
def bT:List aj:=[.tmp 2]
def RM:FO eN [1,2029005,2028005,2027005,2026005,2037005,2036005,2045005,2044005,2068005,2067005,2066005] bV bT 155:=fo
def xK:CC:=gq Tryz.f122 [3,2] {} _
def wD:List aj:=[.tmp 4]
def Pl:FO nN [3,2] xK wD 15:=fo
def td:CC:=gq Tryz.f185 [2] {} _
def su:List aj:=[.tmp 3]
def KD:FO gu [2] td su 8:=fo
def dF:CC:=gq Tryz.f184 [] {} _
def dD:List aj:=[.tmp 4]
def pI:FO dJ [] dF dD 9:=fo
def eE:CC:=gq Tryz.f240 [] {} _
def ej:List aj:=[.tmp 4]
def sG:FO eW [] eE ej 19:=fo
def lV:CC:=gq Tryz.f187 [] {} _
def lm:List aj:=[.tmp 2]
def DP:FO fF [] lV lm 10:=fo
def eZ:CC:=gq Tryz.f186 [] {} _
def eR:List aj:=[.tmp 4]
def tW:FO fC [] eZ eR 9:=fo
def fW:CC:=gq Tryz.f241 [] {} _
def fP:List aj:=[.tmp 4]
def wN:FO gi [] fW fP 19:=fo
open Cod (enc dec)
variable {S S0:Nat->Spc}
abbrev qc3(x:Glob):Prop:=∃lb m,GG lb m x
abbrev qdK:Spc:=aG (a1 Glob) qc3 (enc (X:=Bool)) λx y=>y=true
set_option maxHeartbeats 1000000 in
theorem Re:ak bV bT S (a1 Glob) qc3 (enc (X:=Bool)) λx y=>y=true:=by
 rintro x ⟨lb,m,h⟩;cases h with
 |bound n a h=>simp[bV,bT,E0,-fB',-eB']
 |val n a v f h1 h2=>simp[bV,bT,E0,-fB',-eB']
 |same n a b g h1 h2 h3=>simp[bV,bT,E0,-fB',-eB']
 |dist n a b mn mx h1 h2 h3 h4 h5 h6=>simp[bV,bT,E0,-fB',-eB']
 |reg n a b t h1 h2 h3=>simp[bV,bT,E0,-fB',-eB']
 |path n a b l h1 h2 h3 h4=>simp[bV,bT,E0,-fB',-eB']
 |node n a b t h1 h2 h3=>simp[bV,bT,E0,-fB',-eB']
 |depth n a mn mx h1 h3 h4 h5 h6=>simp[bV,bT,E0,-fB',-eB']
 |head n op a b ho h1 h2=>rcases ho with rfl|rfl<;>simp[bV,bT,E0,-fB',-eB']
 |not n k h=>simp[bV,bT,E0,-fB',-eB']
 |two n op a b ho h1 h2=>rcases ho with rfl|rfl<;>simp[bV,bT,E0,-fB',-eB']
def qwq(n:Nat)(x:Glob×Int×Int):Prop:=qI x.1<=n/\0<=x.2.1/\x.2.1+I5 x.1<=60/\0<=x.2.2/\x.2.2+qI x.1<=1000/\qI x.1<=60
abbrev Ys(n:Nat):Spc:=aG (a3 Glob Int Int) (qwq n) (kZ (Y:=Int) (Z:=Int)) λx y=>y=(x.2.1+I5 x.1,x.2.2+qI x.1 -1)
abbrev Yt:Spc:=aG (a3 Glob Int Int) (λx=>∃n,qwq n x) (kZ (Y:=Int) (Z:=Int)) λx y=>y=(x.2.1+I5 x.1,x.2.2+qI x.1 -1)
theorem JZ(n:Nat)(h1:S jP=Ys n):ak tb sq S (a3 Glob Int Int) (qwq (n+1)) (kZ (Y:=Int) (Z:=Int)) λx y=>y=(x.2.1+I5 x.1,x.2.2+qI x.1 -1):=by
 rintro⟨x,nodes,deep⟩ ⟨hn,h0,h2,h3,h4,h5⟩;simp only at hn h0 h2 h3 h4 h5;have j:=NE x;have l:=qdX x;simp[tb,sq];refine⟨by grind [Spc,InR],λp=>?_⟩;refine ah (X:=Int×Int) [2,17] [] x.kids.length (λk z=>z.1=nodes+1+ (pA (x.kids.take k):Int)/\z.2=deep+ (pB (x.kids.take k):Int)) (λz=>[(1,enc z.1),(8,enc z.2)]) (λ_=>[]) (nodes+1,deep) (by simp[pA,pB]) ?_ ?_
 ·rintro k ⟨m,d⟩ hk ⟨q,h⟩;simp only at q h;obtain⟨y,b⟩:=aQ hk;obtain⟨_,c⟩:=qFB.1 b;have hm:=qf7 b;have r:=K1 (aU b);have hp:qwq n (y,m,deep+1):=⟨by show qI y<=n;omega,by show 0<=m;omega,by show m+I5 y<=60;omega,by show 0<=deep+1;omega,by show deep+1+qI y<=1000;omega,by show qI y<=60;omega⟩
  have a:¬60<m:=by have:=qdX y;omega
  simp[h1,hk,b,c,hp,a];exact⟨by simp only[InR];omega,by omega,by rw[hm.2.1,h];omega⟩
 simp;omega
def qkg(x:Glob):D.agg [D.v (Value.int IntKind.i64 x.op),D.v (Value.string x.a),D.v (Value.string x.b),D.v (Value.string x.name),D.v (Value.string x.arg),D.v (Value.string x.val),D.v (Value.bool x.fold),D.v (Value.int IntKind.i64 x.mn),D.v (Value.int IntKind.i64 x.mx),D.list 1 (List.map enc x.args),D.list 11 (List.map enc x.kids)]=enc x:=by simp
def QO(S0:Nat->Spc)(x:List Glob×D×Unit):Prop:=FunOnP S0 x.2.1 x.1 λ_=>false
abbrev qiN(S0:Nat->Spc):Spc:=aG (aE (List Glob) (aD a0)) (QO S0) (enc (X:=Int)) λx y=>y= -1
def tN:ak eE ej S (aE (List Glob) (aD a0)) (QO S) (enc (X:=Int)) λx y=>y= -1:=by
 rintro⟨l,d,⟨⟩⟩ hp;replace hp:FunOnP S d l λ_=>false:=hp
 simp[eE,ej,-fB',-eB'];intro h;refine ah (X:=Unit) [0,1] [] l.length (λk _=>True) (λ_=>[]) (λ_=>[]) () (by simp) ?_ ?_
 ·rintro k -hk -;obtain⟨y,a⟩:=aQ hk;obtain⟨_,c⟩:=qFB.1 a;simp[hk,a,c,-fB',-eB'];rw[qkg y];refine hp.useB y (aU a) λb hb=>?_
  grind [RT]
 simp
abbrev qiQ(S0:Nat->Spc):Spc:=aG (aE (List Glob) (aD a0)) (QO S0) (enc (X:=Bool)) λx y=>y=false
def pN(h1:S eW=qiN S0):ak dF dD S (aE (List Glob) (aD a0)) (QO S0) (enc (X:=Bool)) λx y=>y=false:=by
 rintro⟨l,d,⟨⟩⟩ hp;simp_all [dF,dD]
def qsM(n:Nat)(x:Glob):Prop:=qI x<=n/\qc3 x
abbrev YK(n:Nat):Spc:=aG (aE Glob (aD a0)) (λx=>qsM n x.1/\x.2.1= .clo eN []) (enc (X:=Bool)) λx y=>y=true
abbrev YL:Spc:=aG (aE Glob (aD a0)) (λx=>(∃n,qsM n x.1)/\x.2.1= .clo eN []) (enc (X:=Bool)) λx y=>y=true
abbrev ON(n:Nat):Spc:=aG (aE Glob (aD a0)) (λx=>qsM n x.1/\x.2.1= .cptr [.clo eN []] 0) (enc (X:=Bool)) λx y=>y=false
def Mq(n:Nat)(h1:S nN=YK n):ak td su S (aE Glob (aD a0)) (λx=>qsM n x.1/\x.2.1= .cptr [.clo eN []] 0) (enc (X:=Bool)) λx y=>y=false:=by
 rintro⟨x,d,⟨⟩⟩ ⟨a,b⟩;simp_all [td,su]
def Rd(n:Nat)(h0:S0 gu=ON n)(h1:S dJ=qiQ S0)(h2:S eN=qdK):ak xK wD S (aE Glob (aD a0)) (λx=>qsM (n+1) x.1/\x.2.1= .clo eN []) (enc (X:=Bool)) λx y=>y=true:=by
 rintro⟨x,d,⟨⟩⟩ ⟨⟨hn,b⟩,c⟩;simp only at hn b c;subst c;have hk:∀k∈x.kids,qsM n k:=λk hk=>by
  have:=ZN hk;obtain⟨lb,m,h⟩:=b;obtain⟨j,_,h2⟩:=qkh h hk;exact⟨by omega,lb,j,h2⟩
 have hO:FunOnP S0 (.clo gu [.cptr [.clo eN []] 0]) x.kids λ_=>false:=
  K2 h0 (λk a=>⟨hk k a,rfl⟩) (λ_ _ y l=>l)
 have p:QO S0 (x.kids, .clo gu [.cptr [.clo eN []] 0],()):=hO;simp_all [xK,wD]
abbrev qds:Spc:=aG (a1 Glob) (λg=>g=GlobE\/qc3 g) (enc (X:=Bool)) λx y=>y=decide (x.op=0)
set_option maxHeartbeats 1000000 in
def Q9:ak kb jY S (a1 Glob) (λg=>g=GlobE\/qc3 g) (enc (X:=Bool)) λx y=>y=decide (x.op=0):=by
 rintro x (rfl|⟨lb,m,h⟩);simp[kb,jY,GlobE,E0]
 ·have:x.op≠0:=by cases h<;>simp<;>omega
  simp[kb,jY,this,-fB',-eB']
abbrev YM:Spc:=aG (a1 Glob) (λg=>g=GlobE\/ ∃lb,GG lb 2 g) (enc (X:=Bool)) λx y=>y=true
def NT(h1:S qU=qds)(h2:S jP=Yt)(h3:S nN=YL):ak iN iA S (a1 Glob) (λg=>g=GlobE\/ ∃lb,GG lb 2 g) (enc (X:=Bool)) λx y=>y=true:=by
 rintro x (rfl|⟨lb,h⟩)
 ·have a:GlobE=GlobE\/qc3 GlobE:= .inl rfl;have d:GlobE.op=0:=rfl;simp[iN,iA,h1,a,d,-fB',-eB'];exact .inl rfl
 ·have c:=qrO h;have a:x=GlobE\/qc3 x:= .inr ⟨lb,2,h⟩;have b:x.op≠0:=by cases h<;>simp<;>omega
  have j:∃n,qwq n (x,0,1):=⟨qI x,qFH _,qGD _,by grind,by simp,by grind,by grind⟩
  have k:∃n,qsM n x:=⟨qI x,qFH _,lb,2,h⟩
  have l:(I5 x:Int)<=60:=by omega
  have p:(1:Int) +qI x -1<=20:=by omega
  simp[iN,iA,h1,h2,h3,a,b,j,k,l,p,-fB',-eB']
def Jg{x:B} :(x∈Types\/x∈qe1\/(x∈qaJ/\x≠ ⟨#[]⟩))->aB x=true:=by
 have a:∀b:B,(decide (1<=b.size) && decide (b.size<=32) && (b.data.toList.all λc=>AP c.toNat))=true->aB b=true:=λb h=>Af h
 rintro(h|h|⟨h,hn⟩)
 ·simp only[Types,qFK,qGd,or_false]at h;rcases h with rfl|rfl|rfl<;>exact a _ (by decide)
 ·simp only[qe1,qFK,qGd,or_false]at h;rcases h with rfl|rfl|rfl<;>exact a _ (by decide)
 ·simp only[qaJ,qFK,qGd,or_false]at h;rcases h with rfl|rfl|rfl
  ·exact a _ (by decide)
  ·exact a _ (by decide)
  grind
def qcm{v:B}(h:v∈qe2):∃r,qw v=some r:=by
 have e:∀v∈qe2,(qw v).isSome=true:=by decide
 grind [qGB]
abbrev qbS:Spc:=aG (a1 B) (λs=>s∈qaJ) (enc (X:=Bool)) λ_ y=>y=false
def qqy(h1:S bO=wn):ak lV lm S (a1 B) (λs=>s∈qaJ) (enc (X:=Bool)) λ_ y=>y=false:=by
 rintro s hs;have hs:s∈qaJ:=hs;have a:s≠ ⟨#[]⟩->aB s=true:=λh=>Jg (.inr (.inr ⟨hs,h⟩))
 simp_all [lV,lm]
def PV{X:Type}[Cod X]{S:Nat->Spc}{g:Nat}{l:List X}{pre:X->Prop}{q:X->Bool}{post:X->Bool->Prop}(h:S g=aG (a1 X) pre enc post)(hp:∀x∈l,pre x)(c:∀x∈l,∀y,post x y->y=q x):FunOnP S (.clo g []) l q:=by
 refine⟨g, [],_,rfl,h,λx a=>⟨⟨x,by simp,hp x a⟩,λr b=>?_⟩⟩;obtain⟨y,rfl,d⟩:=b x (by simp) (hp x a);grind
def QN(S0:Nat->Spc)(x:List B×D×Unit):Prop:=FunOnP S0 x.2.1 x.1 λ_=>false
abbrev qiM(S0:Nat->Spc):Spc:=aG (aE (List B) (aD a0)) (QN S0) (enc (X:=Int)) λx y=>y= -1
def qqz:ak fW fP S (aE (List B) (aD a0)) (QN S) (enc (X:=Int)) λx y=>y= -1:=by
 rintro⟨l,d,⟨⟩⟩ hp;replace hp:FunOnP S d l λ_=>false:=hp
 simp[fW,fP,-fB',-eB'];intro h;refine ah (X:=Unit) [0,1] [] l.length (λk _=>True) (λ_=>[]) (λ_=>[]) () (by simp) ?_ ?_
 ·rintro k -hk -;obtain⟨y,a⟩:=aQ hk;obtain⟨_,c⟩:=qFB.1 a;simp[hk,a,c,-fB',-eB'];refine hp.useB y (aU a) λb hb=>?_
  obtain rfl:b=false:=hb _ hp;simp
 simp
abbrev qiP(S0:Nat->Spc):Spc:=aG (aE (List B) (aD a0)) (QN S0) (enc (X:=Bool)) λx y=>y=false
def qqA(h1:S gi=qiM S0):ak eZ eR S (aE (List B) (aD a0)) (QN S0) (enc (X:=Bool)) λx y=>y=false:=by
 rintro⟨l,d,⟨⟩⟩ hp;simp_all [eZ,eR]
def Fk(S0:Nat->Spc)(x:List vR×D×Unit):Prop:=FunOnP S0 x.2.1 x.1 λ_=>false
abbrev qdN(S0:Nat->Spc):Spc:=aG (aE (List vR) (aD a0)) (Fk S0) (enc (X:=Int)) λx y=>y= -1
def qkA(x:vR):D.agg [D.v (Value.int IntKind.i64 x.op),D.v (Value.bool x.neg),D.v (Value.string x.reg)]=enc x:=by simp
def qmY:ak cy cn S (aE (List vR) (aD a0)) (Fk S) (enc (X:=Int)) λx y=>y= -1:=by
 rintro⟨l,d,⟨⟩⟩ hp;replace hp:FunOnP S d l λ_=>false:=hp
 simp[cy,cn,-fB',-eB'];intro h;refine ah (X:=Unit) [0,1] [] l.length (λk _=>True) (λ_=>[]) (λ_=>[]) () (by simp) ?_ ?_
 ·rintro k -hk -;obtain⟨y,a⟩:=aQ hk;obtain⟨_,c⟩:=qFB.1 a;simp[hk,a,c,-fB',-eB'];rw[qkA y];refine hp.useB y (aU a) λb hb=>?_
  grind [RT]
 simp
abbrev U4(S0:Nat->Spc):Spc:=aG (aE (List vR) (aD a0)) (Fk S0) (enc (X:=Bool)) λx y=>y=false
def qmZ(h1:S cN=qdN S0):ak bN bL S (aE (List vR) (aD a0)) (Fk S0) (enc (X:=Bool)) λx y=>y=false:=by
 rintro⟨l,d,⟨⟩⟩ hp;simp_all [bN,bL]
abbrev UY:Spc:=aG (a1 vR) GF (enc (X:=Bool)) λ_ y=>y=false
def qmP:ak zP yZ S (a1 vR) GF (enc (X:=Bool)) λ_ y=>y=false:=by
 rintro f ⟨h,_⟩;have h1:¬f.op< 1:=by omega
 have h2:¬3<f.op:=by omega
 simp_all [zP,yZ]
abbrev U0:Spc:=aG (a1 vR) GF (enc (X:=Bool)) λ_ y=>y=false
def qmS(h1:S bO=wn):ak iM iz S (a1 vR) GF (enc (X:=Bool)) λ_ y=>y=false:=by
 rintro f ⟨_,h⟩;simp_all [Jg,iM,iz]
def Ht(x:Glob×List Attr×List B):Prop:=x.2.1=ij/\(x.1=GlobE\/ ∃n,GG x.2.2 n x.1)
abbrev YF:Spc:=aG (a3 Glob (List Attr) (List B)) Ht (enc (X:=Int)) λ_ y=>y=0
def qlB{g:B}(h:g∈Attr2):0<=mN ij g:=by
 simp only[Attr2,qFK,qGd,or_false]at h;rcases h with rfl|rfl<;>decide
def iq{l:List B}{x:B}(h:x∈l):vw l x=true:=by
 grind [vw]
set_option maxHeartbeats 4000000 in
theorem qht(h1:S bi=qbR)(h2:S bX=EX)(h3:S bO=wn)(h4:S fC=qiP S0)(h5:S tL=qdA)(h0:S0 fF=qbS):
 ak az ay S (a3 Glob (List Attr) (List B)) Ht (enc (X:=Int)) λ_ y=>y=0:=by
 rintro⟨g,a,lb⟩ ⟨ha,hg⟩;simp only at ha hg;subst ha;have hw:(0:Int)<=mN ij Of:=by decide
 rcases hg with rfl|⟨n,hg⟩;simp[az,ay,GlobE];cases hg with
 |bound n a h=>simp[az,ay,h1,iq h,-fB',-eB']
 | val n a v f k1 k2=>
   have hx:=qcm k2;simp[az,ay,h1,h2,h5,iq k1,hw,hx,-fB',-eB']
 |same n a b g k1 k2 k3=>simp[az,ay,h1,h2,iq k1,iq k2,hw,qlB k3,-fB',-eB']
 | dist n a b mn mx k1 k2 k3 k4 k5 k6=>
   have e:¬mx<mn:=by omega
   simp[az,ay,h1,iq k1,iq k2,e,-fB',-eB']
 |reg n a b t k1 k2 k3=>simp[az,ay,h1,h3,iq k1,iq k2,Jg (.inl k3),-fB',-eB']
 | path n a b l k1 k2 k3 k4=>
   have hP:QN S0 (l, .clo fF [],()):=PV h0 (λx hx=>k4 x hx) λ_ _ y hy=>hy
   simp[az,ay,h1,h4,iq k1,iq k2,hP,-fB',-eB']
 |node n a b t k1 k2 k3=>simp[az,ay,h1,h3,iq k1,iq k2,Jg (.inr (.inl k3)),-fB',-eB']
 | depth n a mn mx k1 k3 k4 k5 k6=>
   have e1:¬mx<mn:=by omega
   have e2:¬mn< 0:=by omega
   simp[az,ay,h1,iq k1,e1,e2,-fB',-eB']
 |head n op a b ho k1 k2=>rcases ho with rfl|rfl<;>simp[az,ay,h1,iq k1,iq k2,-fB',-eB']
 |not n k h=>simp[az,ay,-fB',-eB']
 |two n op a b ho k1 k2=>rcases ho with rfl|rfl<;>simp[az,ay,-fB',-eB']
abbrev qdH(n:Nat):Spc:=aG (a3 Glob (List Attr) (List B)) (λx=>qI x.1<=n/\Ht x) (enc (X:=Int)) λ_ y=>y=0
abbrev YG:Spc:=aG (a3 Glob (List Attr) (List B)) Ht (enc (X:=Int)) λ_ y=>y=0
def qmU(n:Nat)(h1:S gM=YF)(h2:S eA=qdH n):ak gP gD S (a3 Glob (List Attr) (List B)) (λx=>qI x.1<=n+1/\Ht x) (enc (X:=Int)) λ_ y=>y=0:=by
 rintro⟨g,a,lb⟩ ⟨hn,d⟩;simp only at hn;have c:=d;obtain⟨j,b⟩:=c;simp only at j b;subst j;have hk:∀k∈g.kids,qI k<=n/\Ht (k,ij,lb):=λk hk=>by
  have:=ZN hk;rcases b with rfl|⟨m,h⟩
  ·cases hk
  ·obtain⟨l,_,h2⟩:=qkh h hk;exact⟨by omega,rfl, .inr ⟨l,h2⟩⟩
 simp[gP,gD,h1,d,-fB',-eB'];intro p;refine ah (X:=Unit) [1,2,19] [] g.kids.length (λ_ _=>True) (λ_=>[]) (λ_=>[]) () trivial ?_ ?_;simp_all;simp
structure WJ (a:List Attr) (q:Qry):Prop where
 glob:q.glob=GlobE\/GG (aZ q.pat []) 2 q.glob
 filts:∀f∈q.filts,GF f
 strat:0<=q.strat/\q.strat< 4
 pat:fy aB q.pat=true
 size:fM q.pat<=256
 l3:(aZ q.pat []).length<=3
 num:dm q.pat<=1000000
 att:a=ij
 lv:∀x∈aq q.pat,qms a (aZ q.pat []) x.cond=true/\∃n,M1 n x.cond
structure qsR (q:Qry):Prop where
 filts:∀f∈q.filts,GF f
 strat:0<=q.strat/\q.strat< 4
 pat:fy aB q.pat=true
 size:fM q.pat<=256
 l3:(aZ q.pat []).length<=3
 num:dm q.pat<=1000000
abbrev qdF:Spc:=aG (a1 Qry) qsR (enc (X:=Int)) λ_ y=>y=0
theorem qmR{N N2:Nat->Spc}(h0:N dH=EW)(d:N dh=Aq)(b:N2 dL=U0)(h1:S nP=Nt)(h2:S fN=Du N)(h3:S gK=EU)(h4:S ct=s_qlabels)(h5:S aY=U4 N2):
 ak ed dW S (a1 Qry) qsR (enc (X:=Int)) λ_ y=>y=0:=by
 rintro q a;have f1:FunIs N (.clo dH []) (nI aB):=wR h0 λ_=>trivial
 have p:FunIs N (.clo dh []) lF:=wR d λ_=>trivial
 have r:Fk N2 (q.filts, .clo dL [],()):=PV b (λx s=>a.filts x s) λ_ _ y h=>h
 have hp:=a.pat;unfold fy at hp;simp only[qFJ]at hp;obtain⟨⟨⟨t,u⟩,w⟩,A⟩:=hp;have j:=a.size;have c:¬256<fM q.pat:=by omega
 have C:=a.l3;have E:¬q.strat< 0:=by have:=a.strat;omega
 have F:¬3<q.strat:=by have:=a.strat;omega
 have k:qe0 q.pat []:=by show 0+dm q.pat<=1000000;have:=a.num;omega
 simp[ed,dW,h1,t,u,h2,E,F,h3,a.pat,j,c,h5,r,-fB',-eB'];refine⟨⟨_,f1⟩,λy h=>⟨λ_=>⟨⟨_,p⟩,λz hz=>⟨by rw[hz _ p,A],λ_=>?_⟩⟩,by rw[h _ f1,w]⟩⟩;simp[h4,-fB',-eB'];refine .inl ⟨k,λl hl _=>?_⟩;have hl:l=aZ q.pat []:=hl;subst hl;omega
theorem qmG{N:Nat->Spc}(h0:N qV=UY)(h1:S eX=qdF)(h2:S ct=s_qlabels)(h3:S dK=s_leavesQ)(h4:S dz=U1)(h5:S aY=U4 N)(h6:S nO=YM)(w:S eA=YG):
 ak gQ gE S (a2 Qry (List Attr)) (λx=>WJ x.2 x.1) (enc (X:=Int)) λ_ y=>y=0:=by
 rintro⟨q,a⟩ b;have b:WJ a q:=b;have A:qsR q:=⟨b.filts,b.strat,b.pat,b.size,b.l3,b.num⟩
 have j:qe0 q.pat []:=by show 0+dm q.pat<=1000000;have:=b.num;omega
 have C:(aq q.pat).length<=dm q.pat:=sJ q.pat;have p:qhi q.pat []:=⟨by have:=b.num;simp;omega,λy c=>(b.lv y c).2⟩
 have E:Fk N (q.filts, .clo qV [],()):=PV h0 (λx d=>b.filts x d) λ_ _ y c=>c
 have F:q.glob=GlobE\/ ∃lb,GG lb 2 q.glob:=b.glob.imp id λh=>⟨_,h⟩
 have I:Ht (q.glob,a,aZ q.pat []):=⟨b.att,b.glob.imp id λh=>⟨_,h⟩⟩
 have r:a.length<=1000:=by rw[b.att];decide
 simp[gQ,gE,h1,A,h2,-fB',-eB'];refine .inl ⟨j,λl hl=>?_⟩;have hl:l=aZ q.pat []:=hl;subst hl;simp[h3,-fB',-eB'];refine .inl ⟨p,?_⟩;intro J;refine ah (X:=Unit) [1,2,6,20] [] (bF q.pat).length (λ_ _=>True) (λ_=>[]) (λ_=>[]) () trivial ?_ ?_
 ·rintro k ⟨⟩ hk -;obtain⟨x,d⟩:∃x,(bF q.pat)[k]? =some x:=⟨_,qFC hk⟩
  obtain⟨_,s⟩:=qFB.1 d;have t:=qFF d;obtain⟨y,c,rfl⟩:=qFL.1 t;have u:WR ((nk y).cond,a,aZ q.pat []):=⟨(b.lv y c).1,r⟩
  simp[hk,d,s,h4,u,-fB',-eB'];exact u
 ·rintro⟨⟩ -;simp[h5,h6,w,E,F,I,-fB',-eB']
end
section
open Go.Proofs
def Lj:CC:=gq Tryz.f21 [] {} _
def Ks:List aj:=[.cell 4 true 13]
def qf0:FO Em [] Lj Ks 30:=fo
def Ck:CC:=gq Tryz.f53 [] {} _
def Bj:List aj:=[.cell 4 true 7]
def VA:FO ue [] Ck Bj 45:=fo
def xQ:CC:=gq Tryz.f20 [2] { bx:=[1,43],cu:=[1] } _
def wI:List aj:=[.tmp 4]
def Pr:FO sT [2] xQ wI 46:=fo
def lY:CC:=gq Tryz.f22 [2006006,2112011,1111111] { cu:=[2,5] } _
def lq:List aj:=[.cell 6 true 11]
def DT:FO fG [2006006,2112011,1111111] lY lq 159:=fo
def tk:CC:=gq Tryz.f23 [] {} _
def sC:List aj:=[.cell 2 true 3]
def KL:FO uP [] tk sC 13:=fo
def vm:CC:=gq Tryz.f8 [1049049,2050007] { bx:=[18],fz:=[(18,1)],cu:=[2,7,9] } _
def uG:List aj:=[.cell 4 true 26]
def MX:FO xg [1049049,2050007] vm uG 52:=fo
open Cod (enc dec)
variable {S S0:Nat->Spc}
def ql9(n:Nat)(x:Cond×List B):Prop:=0<n/\CS (n -1) x.1
def qcY(n:Nat)(x:Pat×List B):Prop:=0<n/\PD (n -1) x.1
def qp4(x:Pat)(l:List B):Prop:=l.length+dm x<=1000000
def QM(n:Nat)(x:List Int×Int×List B):Prop:=x.2.1.toNat<n/\ -10<=x.2.1/\x.2.1<=100/\1<=x.2.2.length/\x.2.2.length<=1000000
def jM{q:Glob->Prop}{H:ab}{op mn mx:Int}{a b n g v:B}{f:Bool}{d e:D}(c:List B)(ks:List Glob)(j:FrzTo H d (enc c))(he:FrzTo H e (enc ks))(h:q ⟨op,a,b,n,g,v,f,mn,mx,c,ks⟩):
 Fin enc q (.agg [.v (.int .i64 op), .v (.string a), .v (.string b), .v (.string n), .v (.string g), .v (.string v), .v (.bool f), .v (.int .i64 mn), .v (.int .i64 mx),d,e]) H:=by
 refine aL (⟨op,a,b,n,g,v,f,mn,mx,c,ks⟩:Glob) ?_ h;rw[P7];refine .agg rfl λk x y l p=>?_
 rcases k with _|_|_|_|_|_|_|_|_|_|_|k;simp_all;simp_all;simp_all;simp_all;simp_all;simp_all;simp_all;simp_all;simp_all;simp_all;simp_all;simp_all
def qay(p:Pat):∀out,(jW p out).length<=out.length+dm p:=by
 induction p using fg with|_ p b=>?_
 intro out;rw[rQ,cI];split
 ·unfold FG;split
  ·omega
  ·simp
 ·have:∀(ks:List Pat) (o:List B),(∀k∈ks,k∈p.kids)->(ks.foldl (λo k=>jW k o) o).length<=o.length+bu ks:=by
   intro ks
   induction ks with
   |nil=>intro o _;simp[bu]
   | cons k ks a=>
     intro o hk;rw[qGC,bu];have h1:=a (jW k o) λz hz=>hk z (by simp[hz])
     have:=b k (hk k (by simp)) o;omega
  have:=this p.kids out λ_ h=>h
  omega
def JH(ks:List Pat)(k:Nat)(lb:List B):((ks.take k).foldl (λo k=>jW k o) lb).length<=lb.length+bu (ks.take k):=by
 generalize ks.take k=l
 induction l generalizing lb with
 |nil=>simp[bu]
 | cons a l b=>
   rw[qGC,bu];have h1:=b (jW a lb);have h2:=qay a lb;omega
def qcS(x:Cond×List B)(y:Cond):Prop:=y=Av x.2 x.1
abbrev Io(n:Nat):Spc:=aG (a2 Cond (List B)) (ql9 n) (enc (X:=Cond)) qcS
theorem Up(n:Nat)(h1:S ue=Io n):ak Ck Bj S (a2 Cond (List B)) (ql9 (n+1)) (enc (X:=Cond)) qcS:=by
 rintro⟨c,lb⟩ ⟨_,hc⟩;simp only at hc;have hc:CS n c:=hc;simp[Ck,Bj];intro b2 s;refine⟨λho _=>?_,λho hl=>?_⟩
 ·refine ah (X:=Unit) [2,4,13] [2,4] lb.length (λk _=>∀z∈lb.take k,z≠c.lab) (λ_=>[]) (λ_=>[]) () (by simp) ?_ ?_
  ·rintro k -hk hz;obtain⟨x,b⟩:=aQ hk;obtain⟨_,d⟩:=qFB.1 b;simp[hk,b,d];refine⟨λj=>gH c.kids (.same _) ?_,λj z l=>?_⟩
   ·show Cond.mk _ _ _ _ _ _ _=Av lb c;rw[Jp,my,if_pos ho,if_pos (j ▸aU b)]
   ·rw[av b]at l;rcases qFG.1 l with h|h
    ·exact hz z h
    ·simp at h;subst h;exact j
  ·rintro -hz;rw[qFT]at hz;simp;refine gH [] (.nil _) ?_;show _=Av lb c;rw[my,if_pos ho,if_neg (λh=>hz _ h rfl)];rfl
 ·refine ah (X:=Value×List Cond) [1,2,4,29] [2,4] c.kids.length (λk x=>x.2=(c.kids.take k).map (Av lb)) (λx=>[(7, .own 40 x.1)]) (λx=>[(40, .row x.1 ff 7 (x.2.map enc))]) (.slice none 0 0, []) (by simp) ?_ ?_ (hh:=by simp[isNilRow])
  ·rintro k ⟨v,ks⟩ hk a;simp only at a;obtain⟨x,b⟩:=aQ hk;obtain⟨_,d⟩:=qFB.1 b;obtain⟨m,hm,p⟩:=qsl hc (aU b);have hp:ql9 n (x,lb):=⟨by omega,by rw[hm];exact p⟩
   simp[hk,b,d,h1,hp];have:=qsk hc;have q:ks.length=k:=by rw[a,qGl,qF7];omega
   refineλy r=>⟨by omega,by omega,λv=> .inl ?_⟩
   obtain rfl:y=Av lb x:=r;rw[a,List.map_map,List.map_take,qGK];simp[b]
  ·rintro⟨v,ks⟩ a;simp only at a;simp;rw[qFT]at a;refine gH ks (fA ff (by simp)) ?_;show _=Av lb c;rw[my,if_neg ho,a]
abbrev FK:Spc:=aG (a2 Cond (List B)) (λx=>∃n,CS n x.1) (enc (X:=Cond)) qcS
def WN(x:Pat×List B)(y:Pat):Prop:=y=nV x.2 x.1
abbrev Sv(n:Nat):Spc:=aG (a2 Pat (List B)) (qcY n) (enc (X:=Pat)) WN
theorem qff(n:Nat)(h1:S ue=FK)(h2:S Em=Sv n):ak Lj Ks S (a2 Pat (List B)) (qcY (n+1)) (enc (X:=Pat)) WN:=by
 rintro⟨p,lb⟩ ⟨_,hp⟩;simp only at hp;have hp:PD n p:=hp;have d:=qnz hp;have q:=qrj hp;simp[Lj,Ks,h1];intro b2 t;refine⟨d,λc hc _=>?_⟩;refine ah (X:=Value×List Pat) [1,2,4,14] [2,4] p.kids.length (λk x=>x.2=(p.kids.take k).map (nV lb)) (λx=>[(5, .own 25 x.1)]) (λx=>[(25, .row x.1 aC 13 (x.2.map enc))]) (.slice none 0 0, []) (by simp) ?_ ?_ (hh:=by simp[isNilRow])
 ·rintro k ⟨v,ks⟩ hk a;simp only at a;obtain⟨x,b⟩:=aQ hk;obtain⟨_,h⟩:=qFB.1 b;obtain⟨m,hm,j⟩:=qrk hp (aU b);have r:qcY n (x,lb):=⟨by omega,by rw[hm];exact j⟩
  have l:ks.length=k:=by rw[a,qGl,qF7];omega
  simp[hk,b,h,h2,r];refineλy s=>⟨by omega,by omega,λv=> .inl ?_⟩
  obtain rfl:y=nV lb x:=s;rw[a,List.map_map,List.map_take,qGK];simp[b]
 ·rintro⟨v,ks⟩ a;simp only at a;rw[qFT]at a;simp;refine Fa c.kids ks (.same _) (fA aC (by simp)) ?_;show _=nV lb p;rw[ul,<-show c=Av lb p.cond from hc,a,Jp]
abbrev OH:Spc:=aG (a2 Pat (List B)) (λx=>∃n,PD n x.1) (enc (X:=Pat)) WN
abbrev FL:Spc:=aG (aT (a2 Int (List B))) (λx=> -10<=x.2.1/\x.2.1<=100/\x.2.2.length<=1000) (enc (X:=Pat)) QK
def ql7(x:Pat)(l r:List B):Prop:=r=jW x l
abbrev Zz(n:Nat):Spc:=qmt (X:=Pat) (Y:=B) (λx l=>cg x<=n/\qp4 x l) ql7 aw 1
abbrev i_BoundA2:Spc:=qmt (X:=Pat) (Y:=B) qp4 ql7 aw 1
theorem XA(n:Nat)(h1:S sT=Zz n):QH (X:=Pat) (Y:=B) xQ wI S (λx l=>cg x<=n+1/\qp4 x l) ql7 aw 1:=by
 rintro v lb p ⟨t,hl⟩;have hk:∀k∈p.kids,cg k<=n:=λk h=>by have:=fT h;have:cg p<=n+1:=t;omega
 have hl:lb.length+dm p<=1000000:=hl;have u:=cI p;simp[xQ,wI];refine aS (X:=Unit) [1,2] [1] (λ_=>p.op=1->p.lab=E0) (λ_=>[]) (λ_=>[]) ?_ ?_
 ·simp;refine⟨λho=>⟨λhn _=>?_,λh _=>h⟩,λho h=>absurd h ho⟩;refine ah (X:=Unit) [1,2,17] [1] lb.length (λk _=>∀z∈lb.take k,z≠p.lab) (λ_=>[]) (λ_=>[]) () (by simp) ?_ ?_
  ·rintro k -b hz;obtain⟨x,c⟩:=aQ b;obtain⟨_,d⟩:=qFB.1 c;simp[b,c,d];refine⟨λj=>dI lb (by simp) ?_,λj z q=>?_⟩
   ·show lb=jW p lb;rw[rQ,if_pos ⟨ho,hn⟩,FG,if_pos (j ▸aU c)]
   ·rw[av c]at q;rcases qFG.1 q with h|h
    ·exact hz z h
    ·simp at h;subst h;exact j
  ·rintro -hz;rw[qFT]at hz;simp;refine⟨by omega,by omega,λv=>dI (lb++ [p.lab]) (by simp) ?_⟩;show _=jW p lb;rw[rQ,if_pos ⟨ho,hn⟩,FG,if_neg λh=>hz _ h rfl]
 ·rintro -r;simp;intro w;refine ah (X:=Value×List B) [35] [] p.kids.length (λk x=>x.2=(p.kids.take k).foldl (λo k=>jW k o) lb) (λx=>[(1, .own 1 x.1)]) (λx=>[(1, .row x.1 aw 1 (x.2.map enc))]) (v,lb) (by simp) ?_ ?_
  ·rintro k ⟨v,ls⟩ b a;simp only at a;obtain⟨x,c⟩:=aQ b;obtain⟨_,d⟩:=qFB.1 c;have y:qp4 x ls:=by
    have h2:=JH p.kids k lb;have h3:=JH (p.kids.drop k) 1 ls;rw[<-a]at h2;have h4:bu (p.kids.take k) +bu (p.kids.drop k)=bu p.kids:=by rw[<-E1,qGa]
    rw[bw c,bu]at h4;show ls.length+dm x<=_;omega
   have s:=hk x (aU c);simp[b,c,d,h1,y,s];intro v' l' A;obtain rfl:l'=jW x ls:=A;refine .inl ?_;rw[av c,qHB,<-a];rfl
  ·rintro⟨v,ls⟩ a;simp only at a;rw[qFT]at a;simp;refine dI ls (by simp) ?_;show ls=jW p lb;rw[rQ,if_neg λh=>h.2 (r h.1),a]
abbrev qkD:Spc:=qrQ (Y:=B) (aE Pat (aD a0)) (λx=>x.2.1= .v (.slice none 0 0)/\qp4 x.1 []) (λx r=>ql7 x.1 [] r) aw 1
theorem XB(h1:S sT=i_BoundA2):TM (Y:=B) xQ wI S (aE Pat (aD a0)) (λx=>x.2.1= .v (.slice none 0 0)/\qp4 x.1 []) (λx r=>ql7 x.1 [] r) aw 1:=by
 rintro⟨p,d,⟨⟩⟩ ⟨j,hl⟩;have j:d= .v (.slice none 0 0):=j;subst j;have hl:0+dm p<=1000000:=hl;have s:=cI p;simp[xQ,wI];refine aS (X:=Unit) [1,2] [] (λ_=>p.op=1->p.lab=E0) (λ_=>[]) (λ_=>[]) ?_ ?_
 ·simp;refine⟨λho=>⟨λhn=>?_,λh _=>h⟩,λho h=>absurd h ho⟩;refine ah (X:=Unit) [1,2] [] 0 (λ_ _=>True) (λ_=>[]) (λ_=>[]) () trivial ?_ ?_
  ·rintro k -b -;exact absurd b (Nat.not_lt_zero _)
  ·rintro - -;simp;refineλv=>dI [p.lab] (by simp) ?_
   show _=jW p [];rw[rQ,if_pos ⟨ho,hn⟩,FG,if_neg (by simp)];rfl
 ·rintro -l;simp;intro t;refine ah (X:=Value×List B) [35] [] p.kids.length (λk x=>x.2=(p.kids.take k).foldl (λo k=>jW k o) []) (λx=>[(1, .own 1 x.1)]) (λx=>[(1, .row x.1 aw 1 (x.2.map enc))]) (.slice none 0 0, []) (by simp) ?_ ?_ (hh:=by simp[isNilRow])
  ·rintro k ⟨v,ls⟩ b a;simp only at a;obtain⟨x,c⟩:=aQ b;obtain⟨_,q⟩:=qFB.1 c;have u:qp4 x ls:=by
    have h2:=JH p.kids k [];have h3:=JH (p.kids.drop k) 1 ls;rw[<-a,qHq]at h2;have h4:bu (p.kids.take k) +bu (p.kids.drop k)=bu p.kids:=by rw[<-E1,qGa]
    rw[bw c,bu]at h4;show ls.length+dm x<=_;omega
   simp[b,c,q,h1,u];intro v' l' w;obtain rfl:l'=jW x ls:=w;refine .inl ?_;rw[av c,qHB,<-a];rfl
  ·rintro⟨v,ls⟩ a;simp only at a;rw[qFT]at a;simp;refine dI ls (by simp) ?_;show ls=jW p [];rw[rQ,if_neg λh=>h.2 (l h.1),a]
abbrev s_Bound2:Spc:=qrm qkD i_BoundA2
def qcU(x:List Int×Int×List B)(y:Glob):Prop:=GG x.2.2 x.2.1.toNat y
def qFw(l:List B)(g:Glob):Prop:=g=GlobE\/GG l 2 g
def qC8{i:Nat}{a:B}(h:[(⟨#[97]⟩:B),⟨#[98,124,99]⟩,⟨#[46]⟩][i]? =some a):a∈qe2:=aU h
def qC7{i:Nat}{a:B}(h:[(⟨#[83]⟩:B),⟨#[78,80]⟩,⟨#[86,80]⟩][i]? =some a):a∈qe1:=aU h
def qC6{i:Nat}{a:B}(h:[(⟨#[111,98,106]⟩:B),⟨#[100,101,116]⟩,⟨#[]⟩][i]? =some a):a∈qaJ:=aU h
abbrev Cw(n:Nat):Spc:=aG (aT (a2 Int (List B))) (QM n) (enc (X:=Glob)) qcU
theorem Mv(n:Nat)(h1:S bU=s_m_Next)(h2:S uf=Ar)(h3:S fG=Cw n):ak lY lq S (aT (a2 Int (List B))) (QM (n+1)) (enc (X:=Glob)) qcU:=by
 rintro⟨L,deep,lb⟩ ⟨hn,C,E,b,s⟩;simp only at hn C E b s;simp[lY,lq,h1];intro b6 Q F W;refine aS (X:=Int) [0,1,2,6] [6] (λk=>0<=k/\k< 13/\(deep< 1->k< 10)) (λk=>[(7,enc k)]) (λ_=>[]) ?_ ?_
 ·simp;have:Q.tmod 10=Q % 10:=Int.tmod_eq_emod_of_nonneg F;rw[this];omega
 rintro k ⟨q0,q1,q2⟩;simp[h1];refineλ_=>⟨by omega,λi hi=>⟨by omega,by omega,λa Y _=>⟨by omega,λj hj=>⟨by omega,by omega,λc hc=>?_⟩⟩⟩⟩
 refine aS (X:=Unit) [0,1,2,6,7] [6] (λ_=>11<=k) (λ_=>[]) (λ_=>[]) ?_ ?_
 ·have d:1<=deep->QM n (L,deep -1,lb):=λh=>⟨by show(deep -1).toNat<n;omega,by show -10<=deep -1;omega,by show deep -1<=100;omega,b,s⟩
  have p:a∈lb:=aU Y;have u:c∈lb:=aU hc;have A:1<=deep->deep.toNat=(deep -1).toNat+1:=λh=>by omega
  simp[h1,h2,h3,Sj,X6,nE,tz,-fB'];refine⟨λ_=>jM [] [] (.nil _) (.nil _) (.bound _ a p),λ_=>⟨λ_ y q r=>⟨q,r,λv Z z _ _=>jM [] [] (.nil _) (.nil _) (.val _ a v _ p (qC8 Z))⟩,λ_=>⟨λ_ y q r=>⟨q,r,λg I=>jM [] [] (.nil _) (.nil _) (.same _ a c g p u (qo2 I))⟩,λ_=>⟨λ_ y q r=>⟨by simp only[InR];omega,λz J K=>⟨by simp only[InR];omega,jM [] [] (.nil _) (.nil _) (.dist _ a c _ _ p u (by omega) (by omega) (by omega) (by omega))⟩⟩,λ_=>⟨λ_ y q r=>⟨trivial,λt M=>jM [] [] (.nil _) (.nil _) (.reg _ a c t p u M)⟩,λ_=>⟨λ_=>jM [] [] (.nil _) (.nil _) (.head _ 6 a c (.inl rfl) p u),λ_=>⟨λ_=>jM [] [] (.nil _) (.nil _) (.head _ 7 a c (.inr rfl) p u),λ_=>⟨λ_ N y q r=>?_,λ_=>⟨λ_ y q r=>⟨q,r,λt M=>jM [] [] (.nil _) (.nil _) (.node _ a c t p u (qC7 M))⟩,λ_=>⟨λ_ y q r z J K=>⟨by simp only[InR];omega,jM [] [] (.nil _) (.nil _) (.depth _ a _ _ p (by omega) (by omega) (by omega) (by omega))⟩,λ_=>⟨λU=>⟨by simp only[InR];omega,d (by omega),λg=>?_⟩,λ_=>by omega⟩⟩⟩⟩⟩⟩⟩⟩⟩⟩⟩
  ·refine rX (X:=Int×Value×List B) [0,6,11] [6] [] [] [] [] (λx=>(0<=x.1/\x.1+x.2.2.length<=2)/\∀z∈x.2.2,z∈qaJ) (λx=>[(12,enc x.1)]) (λx=>[(11, .box N [.v (.int .i64 8), .v (.string a), .v (.string c), .v (.string ⟨#[]⟩), .v (.string ⟨#[]⟩), .v (.string ⟨#[]⟩), .v (.bool false), .v (.int .i64 0), .v (.int .i64 0), .own 111 x.2.1, .v (.slice none 0 0)]),(111, .row x.2.1 aw 1 (x.2.2.map enc))]) (λx=>x.1.toNat) (y, .slice none 0 0, []) [11,111] (λ_=>rfl) (by decide) (by decide) ?_ ?_ ?_ ?_
   ·exact⟨⟨q,by simp;omega⟩,by simp⟩
   ·simp
   ·simp[isNilRow];exact .nilown 111
   ·rintro⟨i,v,l⟩ ⟨⟨e1,e2⟩,O⟩;simp only at e1 e2 O;simp[h1,X6,nE,tz];exact⟨λhi z J K=>⟨J,K,λw hw=>⟨by omega,by omega,λv=>⟨by simp only[InR];omega,i -1,v,l++ [w],⟨⟨by omega,by simp;omega⟩,λz hz=>(qFG.1 hz).elim (O z) λh=>by simp at h;subst h;exact qC6 hw⟩,⟨rfl, .inl (.inl rfl), .inl (.inl (by simp))⟩,by omega⟩⟩⟩,λhi=>jM l [] (fA aw (by simp)) (.nil _) (.path _ a c l p u (by omega) O)⟩
  ·exactλI=>jM [] [g] (.nil _) (by simp) (by show GG lb deep.toNat _;rw[A (by omega)];exact .not _ _ I)
 ·rintro -hk;have d:QM n (L,deep -1,lb):=⟨by show(deep -1).toNat<n;omega,by show -10<=deep -1;omega,by show deep -1<=100;omega,b,s⟩
  have A:deep.toNat=(deep -1).toNat+1:=by omega
  simp[h3,d];exact⟨by simp only[InR];omega,by simp only[InR];omega,by simp only[InR];omega,λy hy=>⟨by simp only[InR];omega,λz hz=>jM [] [y,z] (.nil _) (by simp) (by show GG lb deep.toNat _;rw[A];exact .two _ _ _ _ (by omega) hy hz)⟩⟩
abbrev As:Spc:=aG (aT (a2 Int (List B))) (λx=>∃n,QM n x) (enc (X:=Glob)) qcU
abbrev LO:Spc:=aG (aT a0) ca (enc (X:=vR)) (λ_ y=>GF y)
def Xz(h1:S bU=s_m_Next)(h2:S uf=Ar):ak tk sC S (aT a0) ca (enc (X:=vR)) (λ_ y=>GF y):=by
 rintro⟨L,⟨⟩⟩ -;simp[tk,sC,h1,h2];refineλb y c d=>⟨by simp only[InR];omega,λz h j u k l=>⟨trivial,λt a=>?_⟩⟩
 exact aL (⟨1+y,decide (z=2),t⟩:vR) (by simp) ⟨by show 1+y=1\/1+y=2\/1+y=3;omega,a⟩
def QJ(x:List Int×Int)(q:Qry):Prop:=GQ x.2.toNat q
abbrev OI:Spc:=aG (aT (a1 Int)) (λx=>0<=x.2/\x.2<=5) (enc (X:=Qry)) QJ
theorem qba(h1:S bU=s_m_Next)(h2:S iF=FL)(h3:S sT=s_Bound2)(h4:S Em=OH)(h5:S fG=As)(h6:S uP=LO):
 ak vm uG S (aT (a1 Int)) (λx=>0<=x.2/\x.2<=5) (enc (X:=Qry)) QJ:=by
 rintro⟨L,deep⟩ ⟨t,w⟩;simp only at t w;simp[vm,uG,h1];intro b4;refine aS (X:=List B) [0,1,4] [4] (λl=>qmj l/\l.length<=2) (λl=>[(5,enc l)]) (λ_=>[]) ?_ ?_
 ·simp[h1];exactλ_ _ _=>⟨λ_=>⟨[qsz,qtA],⟨λl hl=>by simpa using hl,by simp⟩,by simp[qsz,qtA]⟩,λ_ l hl=>by simp at hl⟩
 rintro lb ⟨A,N⟩;simp[h1,h2];refine⟨⟨by omega,by omega,by omega⟩,λy d b=>?_⟩;have J:WP lb deep.toNat y:=d.1.1;have C:PD deep.toNat y:=d.1.2;have K:dm y<=1000000:=by
  have:=(qc5 _ y J (by omega)).2.2;have h2:2^ (deep.toNat+1)<=64:=Nat.pow_le_pow_right (n:=2) (by omega) (show deep.toNat+1<=6 by omega);omega
 have O:qp4 y []:=by show 0+dm y<=_;omega
 have E:∃n,PD n y:=⟨_,C⟩
 simp[h3,O];refine .inl λl hl=>?_
 have j:l=jW y []:=hl;have Q:l.length<=0+dm y:=by rw[j];exact qay y []
 simp[h4,E];intro p hp z U W k;have hp:p=nV l y:=hp;have Y:∀g fs s,(g=GlobE\/GG l 2 g)->(fs.length<=1/\∀f∈fs,GF f)->(0<=s/\s< 4)->QJ (L,deep) ⟨p,g,fs,s⟩:=by
  intro g fs s q c hs;have r:jW p []=l:=by rw[hp,qlr,<-j]
  refine⟨⟨lb,A,by show WP lb deep.toNat p;rw[hp];exact qmz _ _ J⟩,?_,by show g=GlobE\/GG (jW p []) 2 g;rw[r];exact q,c,hs⟩;show ∀y∈aq p,GC (jW p []) 1 y.cond;rw[r,hp,Zr];intro x Z;obtain⟨u,hu,rfl⟩:=qFL.1 Z;rw[ul];exact qrP (d.2 u hu)
 refine gc (X:=Glob) [0,4] [4] [] [] (qFw l) (λ_=>[(7, .bptr 7 k 0)]) (λg=>[(7, .box k [.v (.int .i64 p.op), .v (.int .i64 p.cond.op), .v (.string p.cond.name), .v (.string p.cond.arg), .v (.string p.cond.val), .v (.string p.cond.lab), .v (.bool p.cond.fold),enc p.cond.kids, .v (.string p.lab), .v (.string p.reg), .v (.int .i64 p.mn), .v (.int .i64 p.mx),enc p.kids, .v (.int .i64 g.op), .v (.string g.a), .v (.string g.b), .v (.string g.name), .v (.string g.arg), .v (.string g.val), .v (.bool g.fold), .v (.int .i64 g.mn), .v (.int .i64 g.mx),enc g.args,enc g.kids, .v (.slice none 0 0), .v (.int .i64 z)])]) [7] (λ_=>rfl) (by decide) ?_ ?_
 ·simp[h1,h5,-fB'];refineλ_=>⟨λF u M u1=>⟨λ_=>⟨⟨3,by show(2:Int).toNat< 3;decide,by show -10<=(2:Int);decide,by show(2:Int)<=100;decide,F,by show l.length<=1000000;omega⟩,λg q=>⟨g, .inr q, .inl (.inl ⟨rfl,rfl,rfl,rfl,rfl,rfl,rfl,rfl,rfl,rfl,rfl⟩)⟩⟩,λ_=>⟨⟨0,⟨#[]⟩,⟨#[]⟩,⟨#[]⟩,⟨#[]⟩,⟨#[]⟩,false,0,0, [], []⟩, .inl rfl, .inl ⟨rfl,rfl,rfl,rfl,rfl,rfl,rfl,rfl,rfl,rfl,rfl⟩⟩⟩,λ_=>⟨⟨0,⟨#[]⟩,⟨#[]⟩,⟨#[]⟩,⟨#[]⟩,⟨#[]⟩,false,0,0, [], []⟩, .inl rfl, .inl ⟨rfl,rfl,rfl,rfl,rfl,rfl,rfl,rfl,rfl,rfl,rfl⟩⟩⟩
 rintro g q;refine gc (X:=List vR) [4] [4] [49] [] (λfs=>fs.length<=1/\∀f∈fs,GF f) (λ_=>[(7, .bptr 7 k 0)]) (λfs=>[(7, .box k [.v (.int .i64 p.op), .v (.int .i64 p.cond.op), .v (.string p.cond.name), .v (.string p.cond.arg), .v (.string p.cond.val), .v (.string p.cond.lab), .v (.bool p.cond.fold),enc p.cond.kids, .v (.string p.lab), .v (.string p.reg), .v (.int .i64 p.mn), .v (.int .i64 p.mx),enc p.kids, .v (.int .i64 g.op), .v (.string g.a), .v (.string g.b), .v (.string g.name), .v (.string g.arg), .v (.string g.val), .v (.bool g.fold), .v (.int .i64 g.mn), .v (.int .i64 g.mx),enc g.args,enc g.kids,enc fs, .v (.int .i64 z)])]) [7] (λ_=>rfl) (by decide) ?_ ?_
 ·simp[h1];intro u M u1;have ut:u.tdiv 2=u/2:=Int.tdiv_eq_ediv_of_nonneg M;rw[ut];refine⟨by simp only[InR];omega,?_⟩;refine rX (X:=Int×Value×List vR) [0,4,7] [4] [] [] [] [] (λx=>(0<=x.1/\x.1+x.2.2.length<=1)/\∀f∈x.2.2,GF f) (λx=>[(8,enc x.1)]) (λx=>[(7, .box k [.v (.int .i64 p.op), .v (.int .i64 p.cond.op), .v (.string p.cond.name), .v (.string p.cond.arg), .v (.string p.cond.val), .v (.string p.cond.lab), .v (.bool p.cond.fold),enc p.cond.kids, .v (.string p.lab), .v (.string p.reg), .v (.int .i64 p.mn), .v (.int .i64 p.mx),enc p.kids, .v (.int .i64 g.op), .v (.string g.a), .v (.string g.b), .v (.string g.name), .v (.string g.arg), .v (.string g.val), .v (.bool g.fold), .v (.int .i64 g.mn), .v (.int .i64 g.mx),enc g.args,enc g.kids, .own 49 x.2.1, .v (.int .i64 z)]),(49, .row x.2.1 Sh 3 (x.2.2.map enc))]) (λx=>x.1.toNat) (u/2, .slice none 0 0, []) [7,49] (λ_=>rfl) (by decide) (by decide) ?_ ?_ ?_ ?_
  ·exact⟨⟨by show 0<=u/2;omega,by simp;omega⟩,by simp⟩
  ·simp
  ·simp[isNilRow];exact .nilown 49
  ·rintro⟨i,v,fs⟩ ⟨⟨e1,e2⟩,I⟩;simp only at e1 e2 I;simp[h6];refine⟨λhi=>⟨trivial,λy d=>⟨by omega,by omega,λv=>⟨by simp only[InR];omega,i -1,v,fs++ [y],⟨⟨by omega,by simp;omega⟩,λz hz=>(qFG.1 hz).elim (I z) λh=>by simp at h;subst h;exact d⟩,⟨rfl, .inl (.inl rfl), .inl (.inl (by simp))⟩,by omega⟩⟩⟩,λhi=>⟨fs,⟨by omega,I⟩, .inl (fA Sh (by simp[Ma]))⟩⟩
 ·rintro fs c;simp;exact aL (⟨p,g,fs,z⟩:Qry) (by simp) (Y _ _ _ q c ⟨U,W⟩)
end
section
open Go.Proofs
theorem qnZ{lb:List B} :∀n p,WP lb n p->∀out:List B,aZ p out=jW p out:=by
 refine JP λn p hp l out=>?_
 have hk:∀ks:List Pat,(∀k∈ks,k∈p.kids)->∀o:List B,ks.foldl (λo k=>aZ k o) o=ks.foldl (λo k=>jW k o) o:=by
  intro ks
  induction ks with
  |nil=>intro _ o;rfl
  | cons k ks d=>
    intro h o;obtain⟨m,_,_,hi⟩:=l k (h k (by simp));rw[qGC,qGC,hi,d λz hz=>h z (by simp[hz])]
 have c:p.op≠1->p.lab=E0->aZ p out=jW p out:=λh1 h2=>by
  rw[tZ,rQ,tr,if_pos h2,if_neg (λh=>h1 h.1)];exact hk _ (λ_ h=>h) _
 rcases Aa hp with(⟨h1,h2,h3,h4,h5,h6⟩|⟨h1,h2,h3,h4,h5,h6,j⟩)|⟨m,rfl,(⟨h1,h2,h3,h4,h5,h6,a,b,j,_⟩|⟨h1,h2,h3,h4,h5,a,j,_⟩)⟩
 ·rw[tZ,rQ,h6,tr];by_cases h:p.lab=E0
  ·rw[if_pos h,if_neg (λx=>x.2 h)];rfl
  ·rw[if_neg h,if_pos ⟨h1,h⟩];rfl
 ·exact c (by omega) h3
 ·exact c (by omega) h3
 ·exact c (by omega) h3
def qg8{out:List B}{x y:B}(h:y∈out):y∈tr out x:=by
 unfold tr FG;split
 ·exact h
 ·split
  ·exact h
  ·simp[h]
def qg7{out:List B}{x:B}(h:x≠E0):x∈tr out x:=by
 unfold tr FG;rw[if_neg h];split
 ·assumption
 ·simp
def qo6{out:List B}{x:B}(h:out.Nodup):(tr out x).Nodup:=by
 unfold tr FG;split
 ·exact h
 ·split
  ·exact h
  ·rename_i c;rw[qHj];exact⟨h,by simp,λa d b hb=>by simp at hb;subst hb;exactλe=>c (e ▸d)⟩
def qgs(p:Pat):∀(out:List B) (y:B),y∈out->y∈aZ p out:=by
 induction p using fg with|_ p b=>?_
 intro out y h;rw[tZ];have:∀ks:List Pat,(∀k∈ks,k∈p.kids)->∀o:List B,y∈o->y∈ks.foldl (λo k=>aZ k o) o:=by
  intro ks
  induction ks with
  |nil=>intro _ o h;exact h
  |cons k ks a=>intro hk o h;exact a (λz hz=>hk z (by simp[hz])) _ (b k (hk k (by simp)) o y h)
 exact this _ (λ_ h=>h) _ (qg8 h)
def qnY(p:Pat):∀(out:List B),out.Nodup->(aZ p out).Nodup:=by
 induction p using fg with|_ p b=>?_
 intro out h;rw[tZ];have:∀ks:List Pat,(∀k∈ks,k∈p.kids)->∀o:List B,o.Nodup->(ks.foldl (λo k=>aZ k o) o).Nodup:=by
  intro ks
  induction ks with
  |nil=>intro _ o h;exact h
  |cons k ks a=>intro hk o h;exact a (λz hz=>hk z (by simp[hz])) _ (b k (hk k (by simp)) o h)
 exact this _ (λ_ h=>h) _ (qo6 h)
theorem qgr(p:Pat):∀q∈uL p,q.lab≠E0->∀out:List B,q.lab∈aZ p out:=by
 induction p using fg with|_ p c=>?_
 intro q hq hl out;rw[tZ];have hm:∀ks:List Pat,∀o:List B,q.lab∈o->q.lab∈ks.foldl (λo k=>aZ k o) o:=by
  intro ks
  induction ks with
  |nil=>intro o h;exact h
  |cons k ks a=>intro o h;exact a _ (qgs k o _ h)
 cases p with
 | mk op cond lab reg mn mx ks=>
   rw[uL]at hq;rcases qFK.1 hq with rfl|hq
   ·exact hm _ _ (qg7 hl)
   ·obtain⟨k,hk,hq⟩:=yq hq;have:∀l:List Pat,k∈l->∀o:List B,q.lab∈l.foldl (λo k=>aZ k o) o:=by
     intro l
     induction l with
     |nil=>intro h;cases h
     | cons z l b=>
       intro h o;rw[qGC];rcases qFK.1 h with rfl|h
       ·exact hm _ _ (c k hk q hq hl _)
       ·exact b h _
    exact this _ hk _
def qef{n:Nat}{q:Qry}(h:GQ n q):aZ q.pat []=jW q.pat []/\(aZ q.pat []).length<=2:=by
 obtain⟨lb,hl,b⟩:=h.lab;have e:=qnZ n q.pat b [];refine⟨e,?_⟩;have hm:∀y∈aZ q.pat [],y=qsz\/y=qtA:=λy a=>by
  rw[e]at a;rcases qoX n q.pat b [] y a with h|h
  ·cases h
  ·exact hl y h
 refine SV (f:=λy=>if y=qsz then 0 else 1) (qnY q.pat [] qG2) (λy _=>by split<;>omega) λx c y a=>?_
 rcases hm x c with rfl|rfl<;>rcases hm y a with rfl|rfl
 ·exactλ_=>rfl
 ·rw[if_pos rfl,if_neg (by decide)];exactλh=>by cases h
 ·rw[if_neg (by decide),if_pos rfl];exactλh=>by cases h
 ·exactλ_=>rfl
theorem Zk{n:Nat}{c:Corpus}{q:Qry}(hc:TP c)(d:GQ n q)(hn:n<=5):qaS WJ c q:=by
 obtain⟨lb,hl,r⟩:=d.lab;have a:fy aB q.pat=true:=qc6 hl qhy n q.pat r (by omega);obtain⟨b,w⟩:=qef d;obtain⟨_,y,A⟩:=qc5 n q.pat r hn;have h3:(3:Int) ^n<=243:=by
  rcases n with _|_|_|_|_|_|n
  all_goals first|decide|omega
 have h2:2^ (n+1)<=64:=by
  rcases n with _|_|_|_|_|_|n
  all_goals first|decide|omega
 have j:dm q.pat<=1000000:=by omega
 have k:(aZ q.pat []).length<=3:=by omega
 have he:cx qC q.pat=true/\cx lF q.pat=true:=by
  unfold fy at a;simp only[qFJ]at a;exact⟨a.1.1.2,a.2⟩
 have u:tt xY q.pat:=vW (P3 q.pat he.1) λq h=>(vX q).1 h
 refine⟨⟨by rw[b];exact d.glob,d.filts.2,d.strat,a,by omega,k,j,hc.ok.1,λx C=>?_⟩,⟨hc.ok.sz,by have:=hc.few;omega,a,k,j,λt J=>?_⟩⟩
 ·have l:=d.cond x C;rw[b,hc.ok.1];exact⟨qrr l (by omega),qrx l⟩
 ·intro z hz;refine⟨u z hz,P3 q.pat he.2 z hz,λh=>iq (qgr q.pat z hz h []),λh1 s hs F=>?_⟩;have l:=d.cond z (qgb q.pat u z hz h1);rw[<-b]at l;have I:(Kt c (aZ q.pat []) t).en<=c.toks.length:=by show min t.e (c.toks.length:Int)<=_;omega
  exact qj6 (E:=⟨(Kt c (aZ q.pat []) t).c,s.p,(Kt c (aZ q.pat []) t).lb,WC (Kt c (aZ q.pat []) t) s⟩) ⟨hc.ok,hs.1,by show s.p<(c.toks.length:Int);omega,qeL _ s⟩ l (by decide)
open Cod (enc dec)
variable {S S0:Nat->Spc}
end
section
open Go.Proofs
open Cod (enc dec)
variable {S S0:Nat->Spc}
end
section
open Go.Proofs Cod
variable {dq:Prop}
def qq9:TQ dq qV UY:=
 ac (ag ae) RL (qmP)
def qns:TQ dq dL U0:=
 ac (ag (aa iW ae)) AB (qmS rfl)
def qws:Nat->Spc:=JN [(qV,UY),(dL,U0)]
def qnx:TQ dq cN (qdN qws):=
 ac (S:=qws) (ag (aa qq9 (aa qns ae))) lE qmY
def qdQ:TQ dq aY (U4 qws):=
 ac (ag (aa qnx ae)) iS (qmZ rfl)
def qra:TQ dq fF qbS:=
 ac (ag (aa iW ae)) DP (qqy rfl)
def qzZ:Nat->Spc:=JN [(fF,qbS)]
def qrc:TQ dq gi (qiM qzZ):=
 ac (S:=qzZ) (ag (aa qra ae)) wN qqz
def qrd:TQ dq fC (qiP qzZ):=
 ac (ag (aa qrc ae)) tW (qqA rfl)
def qi5:TQ dq gM YF:=
 ac (ag (aa nT (aa ee (aa iW (aa qrd (aa FZ ae)))))) wP (qht (S0:=qzZ) rfl rfl rfl rfl rfl rfl)
def YR:∀n,TQ dq eA (qdH n)
 | 0=>bH λx h=>by have:=h.1;have:=NE x.1;omega
 |n+1=>ck (ag (aa qi5 (aa (YR n) ae))) yo (λ_=>qFE rfl) (qmU n rfl rfl)
def qnt:TQ dq eA YG:=dC (λn=>YR n) (fH (λx h=>⟨qI x.1,qFH _,h⟩))
def qq7:TQ dq qU qds:=
 ac (ag ae) FT (Q9)
def qdP:∀n,TQ dq jP (Ys n)
 | 0=>bH λx h=>by have:=h.1;have:=NE x.1;omega
 |n+1=>ck (ag (aa (qdP n) ae)) KB (λ_=>qFE rfl) (JZ n rfl)
def qq8:TQ dq jP Yt:=dC (λn=>qdP n) (fH (λx h=>h))
def qrb:TQ dq eN qdK:=
 ac (ag ae) RM (Re)
def qzY(n:Nat):Nat->Spc:=JN [(gu,ON n)]
def YS:∀n,TQ dq nN (YK n)
 | 0=>bH λx h=>by have:=h.1.1;have:=NE x.1;omega
 | n+1=>
   have h1:TQ dq gu (ON n):=ac (ag (aa (YS n) ae)) KD (Mq n rfl);have h2:TQ dq eW (qiN (qzY n)):=ac (S:=qzY n) (ag (aa h1 ae)) sG tN;have h3:TQ dq dJ (qiQ (qzY n)):=ac (ag (aa h2 ae)) pI (pN rfl)
   ac (ag (aa h3 (aa qrb ae))) Pl (Rd (S0:=qzY n) n rfl rfl rfl)
def qnv:TQ dq nN YL:=dC (λn=>YS n) (fH (λx h=>by obtain⟨⟨n,h1⟩,h2⟩:=h;exact⟨n,h1,h2⟩))
def qnw:TQ dq nO YM:=
 ac (ag (aa qq7 (aa qq8 (aa qnv ae)))) DQ (NT rfl rfl rfl)
def qnr:TQ dq eX qdF:=
 ac (ag (aa yL (aa tw (aa AX (aa lc (aa qdQ ae)))))) rW (qmR (N:=qg9) (N2:=qws) rfl rfl rfl rfl rfl rfl rfl rfl)
def OZ:TQ dq eB (EV WJ):=
 ac (ag (aa qnr (aa lc (aa wi (aa mi (aa qdQ (aa qnw (aa qnt ae)))))))) yp (qmG (N:=qws) rfl rfl rfl rfl rfl rfl rfl rfl)
def qfR:TQ dq uO (qiu WJ):=
 ac (ag (aa OZ (aa UF ae))) KG (qtY rfl rfl)
def H6:TQ dq iF FL:=
 dC (λn=>AN n) (fH (λx h=>⟨x.2.1.toNat+1,Nat.lt_succ_self _,h⟩))
def LU:∀n,TQ dq ue (Io n)
 | 0=>bH λx h=>absurd h.1 (Nat.not_lt_zero _)
 |n+1=>ck (ag (aa (LU n) ae)) VA (λ_=>qFE rfl) (Up n rfl)
def XQ:TQ dq ue FK:=
 dC (λn=>LU n) (fH (λx h=>by obtain⟨n,h⟩:=h;exact⟨n+1,Nat.succ_pos _,h⟩))
def YQ:∀n,TQ dq Em (Sv n)
 | 0=>bH λx h=>absurd h.1 (Nat.not_lt_zero _)
 |n+1=>ck (ag (aa XQ (aa (YQ n) ae))) qf0 (λ_=>qFE rfl) (qff n rfl rfl)
def qhF:TQ dq Em OH:=
 dC (λn=>YQ n) (fH (λx h=>by obtain⟨n,h⟩:=h;exact⟨n+1,Nat.succ_pos _,h⟩))
def SK:∀n,TQ dq sT (Zz n)
 | 0=>pP λd ds H K ⟨id,v,l,a,x,h1,h2,h3,h4,h5⟩=>qb5 h4.1
 |n+1=>AY (ag (aa (SK n) ae)) Pr (by decide) (XA n rfl)
def LE:Tri dq Tryz.prog sT i_BoundA2.pt:=dC (λn=>SK n) λd ds H K ⟨id,v,l,a,x,h1,h2,h3,h4,h5⟩=>⟨cg x,id,v,l,a,x,h1,h2,h3,⟨qFH _,h4⟩,h5⟩
def qfr:Tri dq Tryz.prog sT s_Bound2.pt:=Oa (Ao (ag (aa LE ae)) Pr (λ_=>qFE rfl) (XB rfl)) LE
def vv:∀n,TQ dq fG (Cw n)
 | 0=>bH λx h=>absurd h.1 (Nat.not_lt_zero _)
 |n+1=>ck (ag (aa de (aa Jz (aa (vv n) ae)))) DT (λ_=>qFE rfl) (Mv n rfl rfl rfl)
def Fp:TQ dq fG As:=
 dC (λn=>vv n) (fH (λx h=>h))
def MG:TQ dq uP LO:=
 ac (ag (aa de (aa Jz ae))) KL (Xz rfl rfl)
def N6:TQ dq xg OI:=
 ac (ag (aa de (aa H6 (aa qfr (aa qhF (aa Fp (aa MG ae))))))) MX (qba rfl rfl rfl rfl rfl rfl)
end
section
open Cod (enc dec)
variable {S S0:Nat->Spc}
def qcW(_:D×Unit)(l r:List Span):Prop:=r.length=l.length/\(∀x,x∈r↔x∈l)/\WS r
abbrev OB:Spc:=aG (a2 (List Span) (List Span)) (λ_=>True) enc λx y=>y=decide (x.1=x.2)
def qaZ:ak Ey Dv S (a2 (List Span) (List Span)) (λ_=>True) enc λx y=>y=decide (x.1=x.2):=by
 rintro⟨a,b⟩ -;simp[Ey,Dv];intro h1 h2;refine⟨λh3=>?_,λh3 _=>?_⟩
 ·intro e;subst e;omega
 ·have l:a.length=b.length:=by omega
  refine ah (X:=Unit) [0,1] [] a.length (λk _=>a.take k=b.take k) (λ_=>[]) (λ_=>[]) () (by simp) ?_ ?_
  ·intro k _ hk c;simp;refine⟨hk,λx j=>⟨by omega,λy d=>⟨λh=>?_,λh4 h5=>?_⟩⟩⟩
   ·intro e;subst e;rw[j]at d;cases d;simp at h
   ·rw[av j,av d,c,Span.ext' h4 h5]
  ·intro _ c;simp;rw[qGy (by omega),qGy (by omega)]at c;exact c
abbrev OC:Spc:=aG (a2 Span Span) (λ_=>True) enc λx y=>y=decide (C9 x.1 x.2)
def qa0:ak Ez Dw S (a2 Span Span) (λ_=>True) enc λx y=>y=decide (C9 x.1 x.2):=by
 rintro⟨a,b⟩ -;simp[Ez,Dw];unfold C9;refine⟨λh=>⟨λe=>⟨λh1=>by omega,λh1=>by omega⟩,λe h1=>by omega⟩,λh=>by omega⟩
end
section
open Go.Proofs
def ny:CC:=oX [oB 2 (.box aK true (oT 0)),oB 3 (.box aK true (oT 1)),oB 4 (.mv (oN 0))] [2,3] [] (.seq (.regd [oE 5 0 2,oC 6 1 5,oE 7 0 3,oC 8 1 7,oZ 9 cW [oT 6,oT 8],oE 10 1 2,oC 11 1 10,oE 12 1 3,oC 13 1 12] [oZ 14 cW [oT 11,oT 13],oB 15 (.bslice bj 1 [oT 9,oT 14]),oZ 16 mF [oT 15],oA 4 16])
 (.keep [4] [] (.ret)))
def mW:List aj:=[.tmp 4]
def rK:CC:=oX [oB 4 (.mv (.const on))] [0,1] [] (oX [oB 5 (.mv (.const on))] [0,1,5] [19] (.seq (oX [oA 8 0,oB 9 (.len (oT 8)),oB 10 (.mv (oN 0))] [1,5,8,9,10] [19] (gd 0 10 9 11 1 (oX [oB 12 (.iaddr 1 (oT 8) (oT 10)),oC 13 1 12,oA 7 13] [1,5,7,8,9,10] [19] (.reg [oA 14 5,oA 15 7,oA 16 1,oB 17 (.arith .add (oT 15) (oT 16)),oB 18 (.bslice bj 1 [oT 17]),
 oB 19 (.append none bj 1 8 (oT 14) (oT 18)),oA 5 19])) 20)) (.keep [5] [19] (oX [oA 21 5,oA 4 21] [4] [19] (.ret)))))
def qq:List aj:=[.tmp 4]
def rJ:CC:=oX [oB 2 (.box aC true (oT 0)),oB 4 (.mv (.const on))] [1,2] [] (.seq (oX [oE 9 10 2,oC 10 1 9,oB 11 (.eql false false [.int] (oT 10) (oN 0))] [1,2,11] [] (.ite (oT 11) (oX [oB 4 (.mv (.const on))] [4] [35] (.ret)) (.skip))) (.keep [1,2] [] (oX [oE 13 12 2,oC 14 1 13,oB 15 (.iaddr 13 (oT 14) (oN 0)),oD 16 13 15,oZ 17 hU [oT 16],oA 12 17,
 oB 18 (.ext (oT 12) 0),oB 19 (.ext (oT 12) 1),oA 5 18,oA 6 19] [1,2,5,6] [] (.seq (oX [oA 20 5,oA 21 6,oB 22 (.eql true false [.int] (oT 20) (oT 21))] [1,2,5,22] [] (.ite (oT 22) (oX [oA 23 1,oA 4 23] [4] [35] (.ret)) (.skip))) (.keep [1,2,5] [] (oX [oB 7 (.mv (.const on))] [1,2,5,7] [35] (.seq (oX [oE 24 10 2,oC 25 1 24,
 oB 26 (.mv (oN 0))] [1,5,7,25,26] [35] (gd 0 26 25 27 1 (oX [oA 28 26,oA 8 28] [1,5,7,8,25,26] [35] (.reg [oA 29 7,oA 30 1,oA 31 8,oA 32 5,oB 33 (.arith .mul (oT 31) (oT 32)),oZ 34 eC [oT 30,oT 33],oB 35 (.append none bj 1 8 (oT 29) (oT 34)),oA 7 35])) 36)) (.keep [7] [35] (oX [oA 37 7,oZ 38 qK [oT 37]] [7] [35] (oX [oA 39 7,
 oZ 40 gI [oT 39],oA 4 40] [4] [35] (.ret)))))))))))
def qp:List aj:=[.tmp 4]
def bD:CC:=oX [oB 4 (.box aC true (oT 1))] [0,2,4] [0,47] (oX [oE 14 0 4,oC 15 1 14] [0,2,4,15] [0,47] (.block 0 (oX [oB 28 (.eql false false [.int] (oT 15) (oN 1)),oA 27 28] [0,2,4,15,27] [0,47] (.ite (oT 27) (.seq (oX [oA 29 2,oB 30 (.len (oT 29)),oB 31 (.mv (oN 0))] [0,29,30,31] [0,47] (gd 3 31 30 32 4 (oX [oB 33 (.iaddr 1 (oT 29) (oT 31)),
 oC 34 1 33,oA 7 34] [0,7,29,30,31] [0,47] (.regd [oA 35 0,oA 36 0,oG 37 36,oE 38 1 37,oC 39 1 38,oA 40 0,oG 41 40,oE 42 0 41,oC 43 1 42,oA 44 7,oB 45 (.build [oi,oi] [(0,1,oT 43),(1,1,oT 44)]),oB 46 (.bslice aK 2 [oT 45]),oB 47 (.append (some 47) aK 2 16 (oT 39) (oT 46))] [oG 48 35,oE 49 1 48,.op none none (.store (some 0) 1 (oT 49) (oT 47))])) 50))
 (.keep [0] [0,47] (.reg [oA 51 0,oG 52 51,oE 53 0 52,oC 54 1 53,oB 55 (.arith .add (oT 54) (oN 1)),oG 56 51,oE 57 0 56,oF 1 57 55]))) (oX [oB 59 (.eql false false [.int] (oT 15) (oN 4)),oA 58 59] [0,2,4,15,58] [0,47] (.ite (oT 58) (oX [oE 60 12 4,oC 61 1 60,oB 62 (.len (oT 61)),oB 63 (.mv (oN 0))] [0,2,61,62,63] [0,47] (gd 5 63 62 64 6 (oX [oB 65 (.iaddr 13 (oT 61) (oT 63)),
 oD 66 13 65,oB 9 (.alloc aC [oi,oi,oe,oe,oe,oe,ob,on,oe,oe,oi,oi,on]),oF 13 9 66] [0,2,9,61,62,63] [0,9,47] (oX [oA 67 0,oD 68 13 9,oA 69 2,oZ 70 aM [oT 67,oT 68,oT 69]] [0,2,9,61,62,63] [0,9,47] (oX [oD 72 13 9,oZ 73 hU [oT 72],oA 71 73,oB 74 (.ext (oT 71) 0),oB 75 (.ext (oT 71) 1),oA 10 74,oA 11 75] [0,2,10,11,61,62,63] [0,47] (.seq (oX [
 oA 76 10,oA 77 11,oB 78 (.eql true false [.int] (oT 76) (oT 77))] [0,2,10,61,62,63,78] [0,47] (.ite (oT 78) (.reg [oB 2 (.mv (.const on))]) (.skip))) (.keep [0,2,10,61,62,63] [0,47] (.reg [oA 79 2,oA 80 10,oZ 81 eC [oT 79,oT 80],oA 2 81])))))) 82)) (oX [oB 84 (.eql false false [.int] (oT 15) (oN 6)),oA 83 84] [0,2,4,83] [0,47] (.ite (oT 83) (.regd [oA 85 0,oE 86 12 4,
 oC 87 1 86,oB 88 (.iaddr 13 (oT 87) (oN 0)),oD 89 13 88,oD 90 13 4,oA 91 2,oZ 92 iG [oT 90,oT 91]] [oZ 93 aM [oT 85,oT 89,oT 92]]) (oX [oE 16 12 4,oC 17 1 16,oB 18 (.len (oT 17)),oB 19 (.mv (oN 0))] [0,17,18,19] [0,47] (gd 1 19 18 20 2 (oX [oB 21 (.iaddr 13 (oT 17) (oT 19)),oD 22 13 21,
 oB 13 (.alloc aC [oi,oi,oe,oe,oe,oe,ob,on,oe,oe,oi,oi,on]),oF 13 13 22] [0,13,17,18,19] [0,13,47] (.reg [oA 23 0,oD 24 13 13,oZ 25 aM [oT 23,oT 24,.const on]])) 26))))))))))
def bB:List aj:=[]
def rL:CC:=oX [oB 1 (.box aC true (oT 0)),oB 2 (.mv (.const on))] [1] [] (.seq (oX [oD 5 13 1,oZ 6 vN [oT 5],oA 3 6] [1,3] [] (oX [oA 7 3,oB 8 (.cmp .lss (oT 7) (oN 1)),oA 9 8,oI 10 9 (.mv (oT 3)),oI 11 9 (.cmp .gtr (oT 10) (oN 256)),oB 12 (.pick (oT 9) (.const (.bool true)) (oT 11))] [1,12] [] (.ite (oT 12) (oX [
 oB 2 (.mv (.const on))] [2] [] (.ret)) (.skip)))) (.keep [1] [] (MI 5 (.reg [oB 13 (.build [oi,on] []),oB 14 (.box Ge false (oT 13)),oA 4 14]) (.keep [1,4] [14,47] (oX [oA 15 4,oD 16 13 1,oB 17 (.bslice bj 1 [oN 0]),oZ 18 aM [oT 15,oT 16,oT 17]] [4] [14,47] (oX [oA 19 4,oG 20 19,oE 21 1 20,oC 22 1 21,
 oZ 23 gX [oT 22,.func fV]] [4] [14,47] (oX [oA 24 4,oG 25 24,oE 26 1 25,oC 27 1 26,oZ 28 fl [oT 27],oA 2 28] [2] [47] (.ret))))))))
def qr:List aj:=[.tmp 2]
def kG:CC:=oX [oB 2 (.mv (.const on))] [0] [0] (.seq (oX [oA 6 0,oB 7 (.len (oT 6)),oB 8 (.cmp .lss (oT 7) (oN 2))] [0,8] [0] (.ite (oT 8) (oX [oA 9 0,oA 2 9] [2] [0] (.ret)) (.skip))) (.keep [0] [0] (.seq (oX [oB 3 (.mv (oN 1))] [0,3] [0] (.block 0 (.loop 1 (.seq (oX [oA 10 3,oA 11 0,oB 12 (.len (oT 11)),
 oB 13 (.cmp .lss (oT 10) (oT 12))] [0,3,13] [0] (.ite (oT 13) (.skip) (.exit 0))) (.keep [0,3] [0] (.seq (.block 1 (.seq (.regd [oA 16 0,oA 17 3,oB 18 (.iaddr 1 (oT 16) (oT 17)),oC 19 1 18,oA 20 0,oA 21 3,oB 22 (.arith .sub (oT 21) (oN 1)),oB 23 (.iaddr 1 (oT 20) (oT 22)),oC 24 1 23] [oB 25 (.eql false false [.int] (oT 19) (oT 24))]) (.keep [0,3,25] [0] (.ite (oT 25) (oX [oA 26 0,
 oA 27 3,oB 28 (.slice 1 (oT 26) (some (oT 27)) none),oA 4 28] [0,3,4] [0] (MI 11 (oX [oB 5 (.mv (oN 1))] [0,3,4,5] [0] (.block 2 (.loop 2 (.seq (oX [oA 29 5,oA 30 4,oB 31 (.len (oT 30)),oB 32 (.cmp .lss (oT 29) (oT 31))] [0,3,4,5,32] [0] (.ite (oT 32) (.skip) (.exit 2))) (.keep [0,3,4,5] [0] (.seq (.block 3 (.seq (.regd [oA 35 4,oA 36 5,oB 37 (.iaddr 1 (oT 35) (oT 36)),oC 38 1 37,
 oA 39 4,oA 40 5,oB 41 (.arith .sub (oT 40) (oN 1)),oB 42 (.iaddr 1 (oT 39) (oT 41)),oC 43 1 42] [oB 44 (.eql true false [.int] (oT 38) (oT 43))]) (.keep [0,3,4,5,44] [0] (.ite (oT 44) (oX [oA 45 0,oA 46 3,oA 47 4,oA 48 5,oB 49 (.iaddr 1 (oT 47) (oT 48)),oC 50 1 49,oB 51 (.iaddr 1 (oT 45) (oT 46)),oF 1 51 50] [0,3,4,5] [0] (.reg [oA 52 3,oB 53 (.arith .add (oT 52) (oN 1)),
 oA 3 53])) (.skip))))) (.keep [0,3,4,5] [0] (.reg [oA 33 5,oB 34 (.arith .add (oT 33) (oN 1)),oA 5 34])))))))) (.keep [0,3] [0] (oX [oA 54 0,oA 55 3,oB 56 (.slice 1 (oT 54) (some (oT 55)) none),.op none none (.clear 1 false [oi] (oT 56))] [0,3] [0] (oX [oA 57 0,oA 58 3,oB 59 (.slice 1 (oT 57) none (some (oT 58))),.frz 59 0,oA 2 59] [2] [0] (.ret)))))) (.skip)))))
 (.keep [0,3] [0] (.reg [oA 14 3,oB 15 (.arith .add (oT 14) (oN 1)),oA 3 15])))))))) (.keep [0] [0] (oX [oA 60 0,oA 2 60] [2] [0] (.ret))))))
def kj:List aj:=[.tmp 2]
def ic:CC:=oX [oB 2 (.mv (.const on))] [0] [0] (.seq (oX [oA 6 0,oB 7 (.len (oT 6)),oB 8 (.cmp .lss (oT 7) (oN 2))] [0,8] [0] (.ite (oT 8) (oX [oA 9 0,oA 2 9] [2] [0] (.ret)) (.skip))) (.keep [0] [0] (.seq (oX [oB 3 (.mv (oN 1))] [0,3] [0] (.block 0 (.loop 1 (.seq (oX [oA 10 3,oA 11 0,oB 12 (.len (oT 11)),
 oB 13 (.cmp .lss (oT 10) (oT 12))] [0,3,13] [0] (.ite (oT 13) (.skip) (.exit 0))) (.keep [0,3] [0] (.seq (.block 1 (.seq (.regd [oA 16 0,oA 17 3,oB 18 (.iaddr 2 (oT 16) (oT 17)),oD 19 2 18,oA 20 0,oA 21 3,oB 22 (.arith .sub (oT 21) (oN 1)),oB 23 (.iaddr 2 (oT 20) (oT 22)),oD 24 2 23] [oB 25 (.eql false true [.int,.int] (oT 19) (oT 24))]) (.keep [0,3,25] [0] (.ite (oT 25) (oX [oA 26 0,
 oA 27 3,oB 28 (.slice 2 (oT 26) (some (oT 27)) none),oA 4 28] [0,3,4] [0] (MI 11 (oX [oB 5 (.mv (oN 1))] [0,3,4,5] [0] (.block 2 (.loop 2 (.seq (oX [oA 29 5,oA 30 4,oB 31 (.len (oT 30)),oB 32 (.cmp .lss (oT 29) (oT 31))] [0,3,4,5,32] [0] (.ite (oT 32) (.skip) (.exit 2))) (.keep [0,3,4,5] [0] (.seq (.block 3 (.seq (.regd [oA 35 4,oA 36 5,oB 37 (.iaddr 2 (oT 35) (oT 36)),oD 38 2 37,
 oA 39 4,oA 40 5,oB 41 (.arith .sub (oT 40) (oN 1)),oB 42 (.iaddr 2 (oT 39) (oT 41)),oD 43 2 42] [oB 44 (.eql true true [.int,.int] (oT 38) (oT 43))]) (.keep [0,3,4,5,44] [0] (.ite (oT 44) (oX [oA 45 0,oA 46 3,oA 47 4,oA 48 5,oB 49 (.iaddr 2 (oT 47) (oT 48)),oD 50 2 49,oB 51 (.iaddr 2 (oT 45) (oT 46)),oF 2 51 50] [0,3,4,5] [0] (.reg [oA 52 3,oB 53 (.arith .add (oT 52) (oN 1)),
 oA 3 53])) (.skip))))) (.keep [0,3,4,5] [0] (.reg [oA 33 5,oB 34 (.arith .add (oT 33) (oN 1)),oA 5 34])))))))) (.keep [0,3] [0] (oX [oA 54 0,oA 55 3,oB 56 (.slice 2 (oT 54) (some (oT 55)) none),.op none none (.clear 2 true [oi,oi] (oT 56))] [0,3] [0] (oX [oA 57 0,oA 58 3,oB 59 (.slice 2 (oT 57) none (some (oT 58))),.frz 59 0,oA 2 59] [2] [0] (.ret)))))) (.skip)))))
 (.keep [0,3] [0] (.reg [oA 14 3,oB 15 (.arith .add (oT 14) (oN 1)),oA 3 15])))))))) (.keep [0] [0] (oX [oA 60 0,oA 2 60] [2] [0] (.ret))))))
def gV:List aj:=[.tmp 2]
def jz:CC:=oX [oB 4 (.box aC true (oT 0)),oB 8 (.mv (.const on))] [1,2,3,4] [] (.seq (oX [oE 16 0 4,oC 17 1 16] [1,2,3,4,17] [] (.block 0 (oX [oB 19 (.eql false false [.int] (oT 17) (oN 1)),oA 18 19] [1,2,3,4,17,18] [] (.ite (oT 18) (oX [oA 20 3,oA 21 2,oA 22 1,oB 23 (.build [oi,oi] [(0,1,oT 21),(1,1,oT 22)]),oZ 24 vK [oT 20,oT 23],
 oA 8 24] [8] [] (.ret)) (oX [oB 26 (.eql false false [.int] (oT 17) (oN 4)),oA 25 26] [1,2,3,4,17,25] [] (.ite (oT 25) (oX [oE 27 12 4,oC 28 1 27,oB 29 (.len (oT 28)),oB 30 (.mv (oN 0))] [1,2,3,28,29,30] [] (gd 1 30 29 31 2 (oX [oB 32 (.iaddr 13 (oT 28) (oT 30)),oD 33 13 32,oB 10 (.alloc aC [oi,oi,oe,oe,oe,oe,ob,on,oe,oe,oi,oi,on]),
 oF 13 10 33] [1,2,3,10,28,29,30] [10] (oX [oD 34 13 10,oA 35 1,oA 36 2,oA 37 3,oZ 38 iT [oT 34,oT 35,oT 36,oT 37],oA 3 38] [1,2,3,10,28,29,30] [10] (oX [oD 40 13 10,oZ 41 ud [oT 40],oA 39 41,oB 42 (.ext (oT 39) 0),oB 43 (.ext (oT 39) 1),oA 11 42,oA 12 43] [1,2,3,10,11,12,28,29,30] [10] (.seq (oX [oA 44 11,oA 45 12,
 oB 46 (.eql true false [.int] (oT 44) (oT 45))] [1,2,3,10,11,28,29,30,46] [10] (.ite (oT 46) (oX [oA 47 3,oA 8 47] [8] [] (.ret)) (.skip))) (.keep [1,2,3,10,11,28,29,30] [10] (.reg [oA 48 1,oA 49 11,oB 50 (.arith .add (oT 48) (oT 49)),oA 51 2,oD 52 13 10,oZ 53 vL [oT 52],oB 54 (.len (oT 53)),oB 55 (.arith .add (oT 51) (oT 54)),oA 1 50,oA 2 55])))))) 56)) (oX [
 oB 58 (.eql false false [.int] (oT 17) (oN 6)),oA 57 58] [1,2,3,4,57] [] (.ite (oT 57) (oX [oE 60 12 4,oC 61 1 60,oB 62 (.iaddr 13 (oT 61) (oN 0)),oD 63 13 62,oZ 64 ud [oT 63],oA 59 64,oB 65 (.ext (oT 59) 0),oB 66 (.ext (oT 59) 1),oA 13 65,oA 14 66] [1,2,3,4,13,14] [] (oX [oB 15 (.mv (oN 0))] [1,2,3,4,13,14,15] [] (.block 3 (.loop 1 (.seq (oX [oA 67 15,oE 68 10 4,
 oC 69 1 68,oB 70 (.cmp .lss (oT 67) (oT 69)),oA 71 70,oH 72 71 (.mv (oT 15)),oH 73 71 (.eql false false [.int] (oT 72) (oN 0)),oH 74 71 (.mv (oT 73)),oI 75 74 (.mv (oT 13)),oI 76 74 (.mv (oT 14)),oI 77 74 (.eql false false [.int] (oT 75) (oT 76)),oH 78 71 (.pick (oT 74) (.const (.bool true)) (oT 77)),
 oB 79 (.pick (oT 71) (oT 78) (.const ob))] [1,2,3,4,13,14,15,79] [] (.ite (oT 79) (.skip) (.exit 3))) (.keep [1,2,3,4,13,14,15] [] (.seq (.block 4 (.reg [oE 82 12 4,oC 83 1 82,oB 84 (.iaddr 13 (oT 83) (oN 0)),oD 85 13 84,oA 86 1,oA 87 15,oA 88 13,oB 89 (.arith .mul (oT 87) (oT 88)),oB 90 (.arith .add (oT 86) (oT 89)),oA 91 2,oA 92 3,oZ 93 iT [oT 85,oT 90,oT 91,oT 92],
 oA 3 93])) (.keep [1,2,3,4,13,14,15] [] (.reg [oA 80 15,oB 81 (.arith .add (oT 80) (oN 1)),oA 15 81]))))))))) (.skip))))))))) (.keep [3] [] (oX [oA 94 3,oA 8 94] [8] [] (.ret))))
def jg:List aj:=[.tmp 8]
def B2:CC:=oX [oB 1 (.box aC true (oT 0)),oB 2 (.mv (.const on))] [1] [] (.seq (oX [oD 3 13 1,oZ 4 dT [oT 3],oB 5 (.not (oT 4)),oA 6 5,oI 7 6 (.load true 13 (oT 1)),oI 8 6 (.call BP [oT 7]),oI 9 6 (.cmp .gtr (oT 8) (oN 256)),oB 10 (.pick (oT 6) (.const (.bool true)) (oT 9))] [1,10] [] (.ite (oT 10) (oX [oB 2 (.mv (.const on))] [2] [] (.ret))
 (.skip))) (.keep [1] [] (oX [oD 11 13 1,oZ 12 iT [oT 11,oN 0,oN 0,.const on],oA 2 12] [2] [] (.ret))))
def A2:List aj:=[.tmp 2]
def ok_estimate_compare:FO fV [2,3] ny mW 17:=fo
def IV:FO eC [] rK qq 22:=fo
def IU:FO iG [2] rJ qp 41:=fo
def zn:FO aM [4,1047047,2049000,1047047] bD bB 94:=fo
def IW:FO mE [1] rL qr 29:=fo
def CU:FO gI [] kG kj 61:=fo
def zj:FO fl [] ic gV 61:=fo
def Vi:FO iT [4] jz jg 95:=fo
def Vj:FO Ea [1] B2 A2 13:=fo
open Cod (enc dec)
variable {S S0:Nat->Spc}
abbrev Ii:Spc:=aG (a2 (List Span) Span) (λx=>SS x.1/\x.1.length<=1000000) enc λx y=>IsNorm (x.1++ [x.2]) y/\y.length<=x.1.length+1
theorem T0(h1:S BO=OC):ak zD yO S (a2 (List Span) Span) (λx=>SS x.1/\x.1.length<=1000000) enc λx y=>IsNorm (x.1++ [x.2]) y/\y.length<=x.1.length+1:=by
 rintro⟨l,s⟩ ⟨hl,hlen⟩;simp at hl hlen;simp[zD,yO];intro _;refine aS (X:=Nat) [0,3] [] (λk=>k<=l.length/\(∀x∈l.drop k,C9 s x)/\(k=0\/ ∃y,l[k -1]? =some y/\ ¬C9 s y)) (λk=>[(5,enc (k:Int))]) (λ_=>[]) ?_ ?_
 ·simp;refine au (X:=Nat) [0,3] [] (λk=>k<=l.length/\∀x∈l.drop k,C9 s x) (λk=>[(5,enc (k:Int))]) (λ_=>[]) (λk=>k) l.length (by simp) ?_;rintro k ⟨hk,b⟩;rcases qGU k with rfl|hk0
  ·simp;exact⟨0,by simpa using b,by simp⟩
  ·obtain⟨y,a⟩:=aQ (l:=l) (k:=k -1) (by omega);have c:(k:Int) -1=((k -1:Nat):Int):=by omega
   have d:l.drop (k -1)=y::l.drop k:=by
    have:=bw a;rwa [Nat.sub_add_cancel hk0]at this
   have j:¬C9 s y->∃x,(x<=l.length/\(∀p∈List.drop x l,C9 s p)/\(x=0\/ ∃y,l[x -1]? =some y/\ ¬C9 s y))/\(k:Int)=x:=λh=>⟨k,⟨hk,b, .inr ⟨y,a,h⟩⟩,rfl⟩
   have q:C9 s y->∃y,(y<=l.length/\∀x∈List.drop y l,C9 s x)/\(k:Int) -1=y/\y<k:=λh=>⟨k -1,⟨by omega,by rw[d];simpa using⟨h,b⟩⟩,c,by omega⟩
   simp[h1,hk0,a,InR];refine⟨⟨by omega,by omega⟩,by omega,by omega,λh=>⟨⟨by omega,by omega⟩,q h⟩,j⟩
 ·rintro k ⟨hk,h1,h2⟩;simp;have u:=Zb hl hk h1 h2;refine aS (X:=Unit) [0,3,5] [] (λ_=>∀y,0<k->l[k -1]? =some y->y≠s) (λ_=>[]) (λ_=>[]) ?_ ?_
  ·simp;rcases qGU k with rfl|hk0
   ·simp
   ·obtain⟨y,a⟩:=aQ (l:=l) (k:=k -1) (by omega);simp[hk0,a,InR];refine⟨⟨⟨by omega,by omega⟩,by omega,by omega,λc d=>aL l (.same _) ⟨u.1 y hk0 a (Span.ext' c d),by simp⟩,?_⟩,by omega⟩;rintro h rfl;exact h rfl rfl
  ·intro _ r;have t:=u.2 r;simp;refine⟨hk,by omega,by omega,by omega,by omega,hk,by omega,by omega,λv=>aL (l.take k++s::l.drop k) (fA aK (by simp)) ⟨t,by simp;omega⟩⟩
def qaP(n:Nat)(x:Pat×Int×Int×List Span):Prop:=PPat n x.1/\0<=x.2.1/\x.2.1+200000*dm x.1<=1000000000000000/\0<=x.2.2.1/\x.2.2.1+dm x.1<=100000000/\SS x.2.2.2/\x.2.2.2.length+jS x.1<=100000
def qaL(x:Pat×Int×Int×List Span)(y:List Span):Prop:=SS y/\(∀s,s∈y↔s∈x.2.2.2\/SrcE x.1 x.2.1 x.2.2.1 s)/\y.length<=x.2.2.2.length+jS x.1
abbrev LL(n:Nat):Spc:=aG (a4 Pat Int Int (List Span)) (qaP n) enc qaL
theorem Xg(n:Nat)(h1:S vK=Ii)(h2:S iT=LL n)(h3:S ud=EY)(h4:S vL=Il):ak jz jg S (a4 Pat Int Int (List Span)) (qaP (n+1)) enc qaL:=by
 rintro⟨p,d,leaf,out⟩ ⟨hp,hd0,t,I,u,q,hlen⟩;simp only at hp hd0 t I u q hlen;have hk:∀k∈p.kids,PPat n k:=λk=>hp.kid
 have hs:∀k∈p.kids,dG (aO k):=λk h=>tu (v:=aB) k (hk k h).2
 have hn:=(cH hp.2).2.2;unfold lF at hn;rw[decide_eq_true_eq]at hn;rcases mA (cH hp.2).1 with⟨ho,l⟩|⟨ho,l⟩|⟨ho,c,ks,l⟩|⟨ho,c,l⟩
 ·simp[jz,jg,h1,ho,q];rw[kV,if_pos l]at hlen;refine⟨by omega,λy hy hy2=>aL y (by simp) ⟨hy.1,λs=>?_,by rw[kV,if_pos l];exact hy2⟩⟩;rw[hy.2 s];simp[qfF ho]
 ·have e:p.op≠1/\p.op≠4/\p.op≠6:=by omega
  simp[jz,jg,h1,e];exact aL out (by simp) ⟨q,λs=>⟨.inl,λh=>h.elim id λh=>absurd h (qbI e _ _ _)⟩,by simp⟩
 ·by_cases w:p.op=4
  ·simp[jz,jg,w];intro _;rw[cI]at t u;rw[kV,if_neg (by rw[l];simp),if_neg (by omega)]at hlen;refine ah (X:=Int×Int×List Span) [28] [] p.kids.length (λk x=>(0<=x.1/\x.1+200000*bu (p.kids.drop k)<=1000000000000000)/\(0<=x.2.1/\x.2.1+bu (p.kids.drop k)<=100000000)/\SS x.2.2/\x.2.2.length+lQ (p.kids.drop k)<=out.length+lQ p.kids/\∀s,(s∈x.2.2\/pK (p.kids.drop k) x.1 x.2.1 s) ↔ (s∈out\/pK p.kids d leaf s)) (λx=>[(1,enc x.1),(2,enc x.2.1),(3,enc x.2.2)]) (λ_=>[]) (d,leaf,out) ⟨by simp;omega,by simp;omega,q,by simp,by simp⟩ ?_ ?_
   ·rintro k ⟨Z,lf,o⟩ J ⟨⟨b0,b1⟩,⟨b2,A⟩,K,C,E⟩;simp only at b0 b1 b2 A K C E;obtain⟨x,F⟩:=aQ J;have L:=aU F;obtain⟨_,hgx⟩:=qFB.1 F;rw[bw F,bu]at b1 A;rw[bw F,lQ]at C;have M:=hk x L;have N:=hs x L;have q3:qaP n (x,Z,lf,o):=⟨M,b0,by show Z+200000* (dm x:Int)<=_;omega,b2,by show lf+ (dm x:Int)<=_;omega,K,by show o.length+jS x<=_;omega⟩
    have q4:=sJ x;have q5:1<=dm x:=by rw[cI];omega
    have q6:(aq x).length<=100000000:=by omega
    simp[h2,h3,h4,J,F,hgx,M.2,q3,q6,kZ];clear h1 h2 h3 h4;rintro y ⟨c1,c2,c3⟩;simp only at c2 c3;unfold dG at N;have O:∀s,(s∈y\/((aO x).1=(aO x).2/\pK (p.kids.drop (k+1)) (Z+ (aO x).1) (lf+ (aq x).length) s)) ↔ (s∈out\/pK p.kids d leaf s):=by
     intro s;rw[<-E s,bw F,pK,c2 s,or_assoc]
    refine⟨λhne=>aL y (by simp) ⟨c1,λs=>?_,?_⟩,λhe=>⟨by simp only[InR];omega,λ_=>⟨by simp only[InR];omega,_,_,_,⟨⟨by omega,by omega⟩,⟨by omega,by omega⟩,c1,by omega,λs=>?_⟩,rfl,rfl,rfl⟩⟩⟩
    ·rw[qfE w];show s∈y↔s∈out\/pK p.kids d leaf s;rw[<-O s];exact⟨.inl,λh=>h.elim id λh=>absurd h.1 hne⟩
    ·show y.length<=out.length+jS p;rw[kV,if_neg (by rw[l];simp),if_neg (by omega)];omega
    ·rw[<-O s];simp[he]
   ·rintro⟨Z,lf,o⟩ ⟨⟨b0,b1⟩,⟨b2,A⟩,K,C,E⟩;simp only at K C E;rw[qGr]at C E;simp;refine aL o (by simp) ⟨K,λs=>?_,?_⟩
    ·rw[qfE w];show s∈o↔s∈out\/pK p.kids d leaf s;rw[<-E s,pK,or_false]
    ·show o.length<=out.length+jS p;rw[kV,if_neg (by rw[l];simp),if_neg (by omega)];rw[lQ]at C;omega
  ·have e:p.op≠1/\p.op≠4/\p.op≠6:=by omega
   simp[jz,jg,h1,e];exact aL out (by simp) ⟨q,λs=>⟨.inl,λh=>h.elim id λh=>absurd h (qbI e _ _ _)⟩,by simp⟩
 ·have M:=hk c (by rw[l];simp);have N:=hs c (by rw[l];simp);have hn:=hn ho;simp[jz,jg,ho,l,h3,M.2,kZ];have Q:jS p=(max 1 p.mn).toNat*jS c:=by rw[kV,l,if_neg (by simp),if_pos ho,lQ,lQ,qGN]
  have hpn:dm p=dm c+1:=by rw[cI,l,bu,bu]
  rw[hpn]at t u;rw[Q]at hlen;have hc1:=Qm c;refine au (X:=Nat×List Span) [1,2,4,13,14] [] (λx=>(x.1:Int)<=p.mn/\SS x.2/\x.2.length<=out.length+x.1*jS c/\(∀s,s∈x.2↔s∈out\/ ∃i:Int,0<=i/\i<x.1/\(i=0\/(aO c).1=(aO c).2)/\SrcE c (d+i* (aO c).1) leaf s)) (λx=>[(3,enc x.2),(15,enc (x.1:Int))]) (λ_=>[]) (λx=>p.mn.toNat -x.1) (0,out) ?_ ?_
  ·refine⟨by simp;omega,q,by simp,λs=>⟨.inl,λh=>h.elim id ?_⟩⟩;rintro⟨i,h0,h1,_⟩;simp only at h1;omega
  rintro⟨j,o⟩ ⟨b0,b1,b2,A⟩;simp only at b0 b1 b2 A;simp[h2,ho,l];clear h1 h2 h3 h4;have r:(∀i:Int,0<=i->i<p.mn->(i=0\/(aO c).1=(aO c).2)->i<j)->Fin enc (qaL (p,d,leaf,out)) (D.list 2 (List.map enc o)) λx=>none:=λhi=>by
   refine aL o (by simp) ⟨b1,λs=>?_,?_⟩
   ·show s∈o↔s∈out\/SrcE p d leaf s;rw[A s,qhZ ho l];refine or_congr_right (exists_congr λi=>⟨λ⟨a1,a2,a3,a4⟩=>⟨a1,by omega,a3,a4⟩,λ⟨a1,a2,a3,a4⟩=>⟨a1,hi i a1 a2 a3,a3,a4⟩⟩)
   ·show o.length<=out.length+jS p;rw[Q];have:=qF2 (jS c) (show j<=(max 1 p.mn).toNat by omega);omega
  have U:(j:Int)<p.mn->(j=0\/(aO c).1=(aO c).2)->InR IntKind.i64 (↑j* (aO c).fst)/\InR IntKind.i64 (d+ ↑j* (aO c).fst)/\qaP n (c,d+ ↑j* (aO c).fst,leaf,o)/\
   ∀ (y:List Span),qaL (c,d+ ↑j* (aO c).fst,leaf,o) y->InR IntKind.i64 (↑j+1)/\∃(a:Nat) (b:List Span),(↑a<=p.mn/\SS b/\b.length<=out.length+a*jS c/\∀(s:Span),s∈b↔s∈out\/ ∃i:Int,0<=i/\i< ↑a/\(i=0\/(aO c).fst=(aO c).snd)/\SrcE c (d+i* (aO c).fst) leaf s)/\
    (y=b/\(↑j+1:Int)= ↑a)/\p.mn.toNat -a<p.mn.toNat -j:=λhj W=>by
   unfold dG at N;have hm:=qD (show(0:Int)<=j by omega) (show(j:Int)<=16 by omega) N.1 N.2.1;have hm2:=qF2 (jS c) (show j+1<=(max 1 p.mn).toNat by omega);rw[qGG]at hm2;refine⟨by simp only[InR];omega,by simp only[InR];omega,⟨M,by show 0<=d+ ↑j* (aO c).1;omega,by show d+ ↑j* (aO c).1+200000* (dm c:Int)<=_;omega,I,by show leaf+ (dm c:Int)<=_;omega,b1,by show o.length+jS c<=_;omega⟩,?_⟩;rintro y ⟨c1,c2,c3⟩;simp only at c2 c3;refine⟨by simp only[InR];omega,j+1,y,⟨by omega,c1,by rw[qGG];omega,λs=>?_⟩,⟨rfl,by omega⟩,by omega⟩;rw[c2 s,A s,or_assoc];refine or_congr_right ⟨λh=>?_,λh=>?_⟩
   ·rcases h with⟨i,a1,a2,a3,a4⟩|h
    ·exact⟨i,a1,by omega,a3,a4⟩
    ·exact⟨j,by omega,by omega,W.imp (λh=>by omega) id,h⟩
   ·obtain⟨i,a1,a2,a3,a4⟩:=h;by_cases e:i<j
    ·exact .inl ⟨i,a1,e,a3,a4⟩
    ·have:i=j:=by omega
     subst this;exact .inr a4
  exact⟨λhj=>⟨λY=>⟨λW=>U hj (.inr W),λW=>r λi i0 i1 i2=>by rcases i2 with i2|i2;omega;exact absurd i2 W⟩,λY=>U hj (.inl Y)⟩,λhj=>r λi i0 i1 i2=>by omega⟩
abbrev Ij:Spc:=aG (a4 Pat Int Int (List Span)) (λx=>∃n,qaP n x) enc qaL
def oc(p:Pat):Prop:=dm p<=1000000/\jS p<=100000
def jF(p:Pat)(y:List Span):Prop:=if fy aB p=true/\fM p<=256 then SrcsOf p y else y=[]
end
end Go.Gv
