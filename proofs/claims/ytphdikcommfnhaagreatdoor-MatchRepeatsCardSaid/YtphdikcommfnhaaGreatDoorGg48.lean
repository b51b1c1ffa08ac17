/- A part of the framework and of the walks: W80 V68 V69 C72 W200 C73 Asm25 W206 V72 C76 W202 W203 C75 W43 W81 W82 V73 W207. -/
import Derived.Test.YtphdikcommfnhaaGreatDoorGg47
import Derived.Test.YtphdikcommfnhaaGreatDoorGg37
import Derived.Test.YtphdikcommfnhaaGreatDoorGg46
import Derived.Test.YtphdikcommfnhaaGreatDoorGg38
import Derived.Test.YtphdikcommfnhaaGreatDoorGg20
import Derived.Test.YtphdikcommfnhaaGreatDoorGg24
import Derived.Test.YtphdikcommfnhaaGreatDoorGg25
import Derived.Test.YtphdikcommfnhaaGreatDoorGg45
import Derived.Test.YtphdikcommfnhaaGreatDoorGg36
import Derived.Test.YtphdikcommfnhaaGreatDoorGg43
import Derived.Test.YtphdikcommfnhaaGreatDoorGg27
set_option linter.unusedSimpArgs false
set_option linter.unusedVariables false
set_option linter.unusedSectionVars false
set_option maxRecDepth 100000
set_option maxHeartbeats 0

namespace Go.Gv
open Cod (enc dec)
variable {S S0:Nat->Spc}
def Ss(x:List Int×Int×List B)(y:Cond):Prop:=GI x.2.2 x.2.1.toNat y
abbrev G8(n:Nat):Spc:=aS (aT (a2 Int (List B))) (Ll n) (enc (X:=Cond)) Ss
theorem qtA{i:Nat}{a:B}(h:[(⟨#[119,111,114,100]⟩:B),⟨#[119,111,114,100]⟩,⟨#[116,97,103]⟩][i]? =some a):a∈Attr2:=by
 have:=dO h
 simpa [Attr2,Xx,Xy]using this
theorem qeG{i:Nat}{a:B}(h:[(⟨#[119,111,114,100]⟩:B),⟨#[116,97,103]⟩][i]? =some a):a∈Attr2:=dO h
theorem qra{i:Nat}{a:B}(h:[(⟨#[112]⟩:B),⟨#[113]⟩][i]? =some a):a∈FeatL:=dO h
theorem qq9{i:Nat}{a:B}(h:[(⟨#[49]⟩:B),⟨#[50]⟩][i]? =some a):a∈NumL:=dO h
theorem qsN{i:Nat}{a:B}(h:[(⟨#[97]⟩:B),⟨#[98]⟩,⟨#[97,46,42]⟩,⟨#[91,97,98,93]⟩][i]? =some a):a∈ValsT:=dO h
theorem qtz{i:Nat}{a:B}(h:[(⟨#[97]⟩:B),⟨#[98]⟩,⟨#[97,46,42]⟩,⟨#[91,97,98,93]⟩,⟨#[88]⟩,⟨#[]⟩,⟨#[99,63]⟩,⟨#[97,124,98]⟩][i]? =some a):a∈ValsI:=by
 have:=dO h
 simp only[ValsI,qtM,quc,or_false]at this ⊢
 rcases this with h|h|h|h|h|h|h|h <;> simp[h]
theorem QM(n:Nat)(h1:S dq=s_m_Next)(h2:S uY=DU)(h3:S iR=G8 n):aq qs pT S (aT (a2 Int (List B))) (Ll (n+1)) (enc (X:=Cond)) Ss:=by
 rintro⟨L,deep,lb⟩ ⟨hn,hd0,hd1,hlb⟩
 simp only at hn hd0 hd1 hlb
 simp[qs,pT,h1]
 intro b6 k0 hk0 hk1
 refine ba (X:=Int) [0,1,2,6] [6] (fun k=>0<=k/\k < 12/\(deep < 1->k < 8)) (fun k=>[(7,enc k)]) (fun _=>[]) ?_ ?_
 ·simp
  have:k0.tmod 8=k0 % 8:=Int.tmod_eq_emod_of_nonneg hk0
  rw[this]
  omega
 rintro k ⟨q0,q1,q2⟩
 refine ba (X:=Unit) [0,1,2,6,7] [6] (fun _=>10<=k) (fun _=>[]) (fun _=>[]) ?_ ?_
 ·simp
  refine ba (X:=Bool) [0,1,2,6,7,15] [6] (fun b=>b=decide (k < 4)) (fun b=>[(16,enc b)]) (fun _=>[]) ?_ ?_
  ·simp
   repeat' first|apply And.intro|intro _
   all_goals first|omega|(rw[qum];simp;omega)
  rintro b hb
  simp[h1,N9,XB,qiM,qd7,pq,sS, -Bool.forall_bool]
  refine⟨fun _ y hy0 hy1=>⟨hy0,hy1,fun a ha y hy0 hy1=>⟨hy0,hy1,fun a' ha' y hy0 hy1=>iK [] (.nil _) (.atom _ _ (.val a a' _ (qtA ha) (qtz ha')))⟩⟩,fun hb0=>?_⟩
  rw[hb0]at hb
  have hb:4<=k:=by simpa using hb.symm
  refine⟨fun _ y hy0 hy1=>⟨hy0,hy1,fun a ha=>iK [] (.nil _) (.atom _ _ (.feat a (qra ha)))⟩,fun k4=>⟨fun _ _=>⟨fun hl y hy0 hy1=>⟨hy0,hy1,fun a ha _=>⟨by omega,fun y hy=>⟨by omega,by omega,fun a' ha' y hy0 hy1=>⟨hy0,hy1,fun a'' ha''=>iK [] (.nil _) (.atom _ _ (.same a a' a'' (qeG ha) (dO ha') (qeG ha'')))⟩⟩⟩⟩,fun _=>iK [] (.nil _) (.atom _ _ (.val Xy _ false (by simp[Attr2]) (by simp[ValsI])))⟩,fun k5=>?_⟩⟩
  refine ba (X:=Bool) [0,1,2,6,7,15] [6] (fun b=>b=decide (k=6\/k=7)) (fun b=>[(67,enc b)]) (fun _=>[]) ?_ ?_
  ·simp
   repeat' first|apply And.intro|intro _
   all_goals first|omega|(rw[qum];simp;omega)
  rintro b hb2
  simp[h1,h2, -Bool.forall_bool]
  refine⟨fun _ y hy0 hy1=>⟨trivial,fun t ht b8=>?_⟩,fun hb0=>?_⟩
  ·refine ba (X:=B×B) [6,8] [6] (fun x=>(x.1=E0/\x.2=E0)\/(x.1=qlo/\x.2∈NumL)) (fun _=>[]) (fun x=>[(8, .box b8 [.v (.int .i64 5), .v (.string t), .v (.string x.1), .v (.string x.2), .v (.string ⟨#[]⟩), .v (.bool false), .v (.slice none 0 0)])]) ?_ ?_
   ·simp[h1,N9,pq,sS]
    refine fun y hy0 hy1=>⟨fun _ z hz0 hz1=>⟨hz0,hz1,fun a ha=>⟨qlo,a, .inr ⟨rfl,qq9 ha⟩, .inl ⟨rfl,rfl⟩⟩⟩,fun _=>⟨E0,E0, .inl ⟨rfl,rfl⟩, .inl ⟨rfl,rfl⟩⟩⟩
   ·rintro⟨a,v⟩ hav
    simp
    refine iK [] (.nil _) (.atom _ _ ?_)
    rcases hav with⟨rfl,rfl⟩|⟨rfl,hv⟩
    ·exact .reg t ht
    ·exact .regk t v ht hv
  rw[hb0]at hb2
  have hb2:¬ (k=6\/k=7):=by simpa using hb2.symm
  refine ba (X:=Bool) [0,1,2,6,7,15] [6] (fun b=>b=decide (k=8\/k=9)) (fun b=>[(85,enc b)]) (fun _=>[]) ?_ ?_
  ·simp
   repeat' first|apply And.intro|intro _
   all_goals first|omega|(rw[qum];simp;omega)
  rintro b hb3
  simp[h3, -Bool.forall_bool]
  have hrec:1<=deep->Ll n (L,deep -1,lb):=fun h=>⟨by show(deep -1).toNat < n;omega,by show -10<=deep -1;omega,by show deep -1<=100;omega,hlb⟩
  refine⟨fun hb1=>?_,fun hb0=>?_⟩
  ·rw[hb1]at hb3
   have hb3:k=8\/k=9:=by simpa using hb3.symm
   have hdn:deep.toNat=(deep -1).toNat+1:=by omega
   refine⟨by simp only[InR];omega,hrec (by omega),fun y hy=>iK [y] (by simp) (by show GI lb deep.toNat _;rw[hdn];exact .not _ _ hy)⟩
  rw[hb0]at hb3
  have hb3:¬ (k=8\/k=9):=by simpa using hb3.symm
  omega
 ·rintro -hk
  have hrec:Ll n (L,deep -1,lb):=⟨by show(deep -1).toNat < n;omega,by show -10<=deep -1;omega,by show deep -1<=100;omega,hlb⟩
  have hdn:deep.toNat=(deep -1).toNat+1:=by omega
  simp[h3]
  refine⟨by simp only[InR];omega,by simp only[InR];omega,by simp only[InR];omega,hrec,fun y hy=>⟨by simp only[InR];omega,hrec,fun y' hy'=>iK [y,y'] (by simp) (by show GI lb deep.toNat _;rw[hdn];exact .two _ _ _ _ (by omega) hy hy')⟩⟩
def qeJ(x:List Int×Int×List B)(y:Cond):Prop:=GC x.2.2 x.2.1.toNat y
abbrev Km:Spc:=aS (aT (a2 Int (List B))) (fun x=> -10<=x.2.1/\x.2.1<=100/\x.2.2.length<=1000) (enc (X:=Cond)) qeJ
abbrev E4:Spc:=aS (aT (a2 Int (List B))) (fun x=>∃n,Ll n x) (enc (X:=Cond)) Ss
theorem UL(h1:S dq=s_m_Next)(h3:S iR=E4):aq sw rB S (aT (a2 Int (List B))) (fun x=> -10<=x.2.1/\x.2.1<=100/\x.2.2.length<=1000) (enc (X:=Cond)) qeJ:=by
 rintro⟨L,deep,lb⟩ ⟨hd0,hd1,hlb⟩
 simp only at hd0 hd1 hlb
 simp[sw,rB,h1]
 intro b6
 refine ba (X:=Unit) [0,1,2,6] [6] (fun _=>True) (fun _=>[]) (fun _=>[]) ?_ ?_
 ·simp[h1,qd7,pq,sS, -Bool.forall_bool]
  exact fun y _ _=>⟨fun _=>iK [] (.nil _) .any,fun _=>⟨fun _ z z0 z1=>⟨z0,z1,fun a ha u _ _=>iK [] (.nil _) (.top a _ (qsN ha))⟩,fun _ _ z z0 z1=>⟨z0,z1,fun a ha u _ _=>iK [] (.nil _) (.top a _ (qsN ha))⟩⟩⟩
 ·rintro - -
  have hrec:∃n,Ll n (L,deep,lb):=⟨deep.toNat+1,Nat.lt_succ_self _,hd0,hd1,hlb⟩
  simp[h3,hrec]
  exact fun y hy=>iK y.kids (.same _) (by show GC lb deep.toNat _;rw[Pt y];exact .inner _ hy)
theorem qga{p:Pat}{C:Pat->Prop}(h1:¬p.op=1)(h2:p.kids=[]):∀y∈aC p,C y:=by
 rw[cm,if_neg h1,h2]
 simp
theorem qf8{p:Pat}{C:Pat->Prop}(h1:p.op=1)(h:C p):∀y∈aC p,C y:=by
 rw[cm,if_pos h1]
 simpa using h
theorem qf9{p a:Pat}{C:Pat->Prop}(h1:¬p.op=1)(h2:p.kids=[a])(ha:∀y∈aC a,C y):∀y∈aC p,C y:=by
 rw[cm,if_neg h1,h2]
 simpa using ha
theorem Za{p a b:Pat}{C:Pat->Prop}(h1:¬p.op=1)(h2:p.kids=[a,b])(ha:∀y∈aC a,C y)(hb:∀y∈aC b,C y):∀y∈aC p,C y:=by
 rw[cm,if_neg h1,h2]
 simp only[quq,List.flatMap_nil,quE]
 intro y hy
 rcases qtK.1 hy with hy|hy
 ·exact ha y hy
 ·exact hb y hy
def Ns(x:List Int×Int×List B)(p:Pat):Prop:=qkT x p/\∀y∈aC p,GC x.2.2 1 y.cond
abbrev vw(n:Nat):Spc:=aS (aT (a2 Int (List B))) (Qx n) (enc (X:=Pat)) Ns
theorem LF(n:Nat)(h1:S dq=s_m_Next)(h2:S uY=DU)(h3:S ua=Km)(h4:S js=vw n):aq nk mj S (aT (a2 Int (List B))) (Qx (n+1)) (enc (X:=Pat)) Ns:=by
 rintro⟨L,deep,lb⟩ ⟨hn,hd0,hd1,hlb⟩
 simp only at hn hd0 hd1 hlb
 simp[nk,mj,h1]
 intro b6 k0 hk0 hk1
 refine ba (X:=Int) [0,1,2,6] [6] (fun k=>0<=k/\k < 14/\(deep < 1->k < 7)) (fun k=>[(7,enc k)]) (fun _=>[]) ?_ ?_
 ·simp
  have:k0.tmod 7=k0 % 7:=Int.tmod_eq_emod_of_nonneg hk0
  rw[this]
  omega
 rintro k ⟨q0,q1,q2⟩
 refine ba (X:=Unit) [0,1,2,6] [6] (fun _=>12<=k) (fun _=>[]) (fun _=>[]) ?_ ?_
 ·have hrec:1<=deep->Qx n (L,deep -1,lb):=fun h=>⟨by show(deep -1).toNat < n;omega,by show -10<=deep -1;omega,by show deep -1<=100;omega,hlb⟩
  have hdn:1<=deep->deep.toNat=(deep -1).toNat+1:=fun h=>by omega
  simp[h1,h2,h3,h4, -Bool.forall_bool]
  refine⟨fun hk=>⟨hlb,fun c hc b8=>?_⟩,fun hk=>⟨fun hk7=>⟨by simp only[InR];omega,by simp only[InR];omega,fun y _ _=>⟨trivial,fun t ht=>Da [] [] (.nil _) (.nil _) ⟨⟨qog (.inr ⟨by show(2+k -5=2\/2+k -5=3);omega,rfl,rfl,ht,rfl,rfl,rfl⟩),YH T0 rfl⟩,qga (by show ¬2+k -5=1;omega) rfl⟩⟩⟩,fun hk7=>⟨fun hk10=>⟨by simp only[InR];omega,hrec (by omega),fun y hy=>⟨by simp only[InR];omega,hrec (by omega),fun y' hy'=>?_⟩⟩,fun hk10 hk12=>⟨by simp only[InR];omega,hrec (by omega),fun y hy=>⟨by simp only[InR];omega,hrec (by omega),fun y' hy'=>?_⟩⟩⟩⟩⟩
  ·refine ba (X:=B) [6,8] [6] (fun x=>x=⟨#[]⟩\/x∈lb) (fun _=>[]) (fun x=>[(8, .box b8 [.v (.int .i64 1), .v (.int .i64 c.op), .v (.string c.name), .v (.string c.arg), .v (.string c.val), .v (.string c.lab), .v (.bool c.fold),enc c.kids, .v (.string x), .v (.string ⟨#[]⟩), .v (.int .i64 0), .v (.int .i64 0), .v (.slice none 0 0)])]) ?_ ?_
   ·simp[h1]
    exact fun _ h0 y _ _ _ _=>⟨by omega,fun z hz=>⟨by omega,by omega,fun a ha=> .inr ⟨a,dO ha, .inl rfl⟩⟩⟩
   ·rintro x hx
    simp
    exact Da c.kids [] (.same _) (.nil _) ⟨⟨qog (.inl ⟨rfl,hx,rfl,rfl,rfl,rfl⟩),YH ⟨_,qdt (d:=c) rfl (qjT hc)⟩ rfl⟩,qf8 rfl (by show GC lb 1 _;rw[Pt c];exact hc)⟩
  ·refine Da [] [y,y'] (.nil _) (by simp) ?_
   refine⟨⟨?_,YG (hdn (by omega)) T0 rfl hy.1.2 hy'.1.2⟩,Za (by show ¬ (4:Int)=1;decide) rfl hy.2 hy'.2⟩
   show WP lb deep.toNat _
   rw[hdn (by omega)]
   exact .inr (.inl ⟨.inl rfl,rfl,rfl,rfl,rfl,rfl,y,y',rfl,hy.1.1,hy'.1.1⟩)
  ·refine Da [] [y,y'] (.nil _) (by simp) ?_
   refine⟨⟨?_,YG (hdn (by omega)) T0 rfl hy.1.2 hy'.1.2⟩,Za (by show ¬ (5:Int)=1;decide) rfl hy.2 hy'.2⟩
   show WP lb deep.toNat _
   rw[hdn (by omega)]
   exact .inr (.inl ⟨.inr rfl,rfl,rfl,rfl,rfl,rfl,y,y',rfl,hy.1.1,hy'.1.1⟩)
 ·rintro -hk
  have hrec:Qx n (L,deep -1,lb):=⟨by show(deep -1).toNat < n;omega,by show -10<=deep -1;omega,by show deep -1<=100;omega,hlb⟩
  have hdn:deep.toNat=(deep -1).toNat+1:=by omega
  have fin:∀ (mn mx:Int) (y:Pat) (H:ab),(mn,mx) ∈Nr->Ns (L,deep -1,lb) y->Fin enc (Ns (L,deep,lb)) (.agg [.v (.int .i64 6), .v (.int .i64 0), .v (.string ⟨#[]⟩), .v (.string ⟨#[]⟩), .v (.string ⟨#[]⟩), .v (.string ⟨#[]⟩), .v (.bool false), .v (.slice none 0 0), .v (.string ⟨#[]⟩), .v (.string ⟨#[]⟩), .v (.int .i64 mn), .v (.int .i64 mx), .list 13 [enc y]]) H:=by
   intro mn mx y H hm hy
   refine Da [] [y] (.nil _) (by simp) ?_
   refine⟨⟨?_,qfT hdn T0 rfl hy.1.2⟩,qf9 (by show ¬ (6:Int)=1;decide) rfl hy.2⟩
   show WP lb deep.toNat _
   rw[hdn]
   exact .inr (.inr ⟨rfl,rfl,rfl,rfl,hm,y,rfl,hy.1.1⟩)
  simp only[M1]at fin
  simp[h1,h4]
  intro y hy0 hy1
  refine⟨hy0,hy1,fun d hd=>?_⟩
  have:y=0\/y=1\/y=2\/y=3\/y=4\/y=5\/y=6:=by omega
  rcases this with rfl|rfl|rfl|rfl|rfl|rfl|rfl
  all_goals (simp at hd;subst hd;simp[h4])
  all_goals exact⟨by simp only[InR];omega,hrec,fun y hy=>fin _ _ y _ (by simp[Nr]) hy⟩
end Go.Gv

namespace Go.Gv
open Go.Proofs
theorem In{f:Pat->Bool}(p:Pat)(h:eC f p=true):jv (fun q=>f q=true) p:=by
 induction p using kw with|_ p ih=>?_
 rw[eb,qtN,qtL]at h
 exact qcl h.1 fun k hk=>ih k hk (h.2 k hk)
theorem VB(p:Pat):jv uA p->∀q∈gO p,q.op=1->q∈aC p:=by
 induction p using kw with|_ p ih=>?_
 intro hN q hq h1
 have hp:=jl hN
 rw[cm]
 cases p with
 | mk op cond lab reg mn mx ks=>
   rw[gO]at hq
   rcases qtM.1 hq with rfl|hq
   ·rw[if_pos h1];simp
   ·obtain⟨k,hk,hq⟩:=sZ hq
    split
    ·rename_i e
     rcases hp with h|h|h|h
     ·have:=h.2.2.2.2;simp only at this;rw[this]at hk;cases hk
     ·have:=h.1;simp only at this e;omega
     ·have:=h.1;simp only at this e;omega
     ·have:=h.1;simp only at this e;omega
    ·exact quM.2 ⟨k,hk,ih k hk (pr hN hk) q hq h1⟩
def qbS:Prop:=bT qnV=true/\bT qdK=true/\bT qnU=true/\bT Sk=true/\bT qq8=true
theorem xS{b:B}(h:(decide (1<=b.size) && decide (b.size<=32) && (b.data.toList.all fun c=>Ah c.toNat))=true):bT b=true:=by
 simp only[qtN,decide_eq_true_eq,qtL]at h
 have hm:∀ (k:Nat) (c:UInt8),b.data[k]? =some c->Ah c.toNat=true:=fun k c hc=>h.2 c (by rw[<-qt9]at hc;exact qtJ hc)
 rw[vr]
 exact⟨h.1.1,h.1.2,hm 0,fun k c hc=>by unfold Wy;rw[hm k c hc];rfl⟩
theorem qfj:qbS:=⟨xS (by decide),xS (by decide),xS (by decide),xS (by decide),xS (by decide)⟩
theorem MB{lb:List B} :∀ {n:Nat} {c:Cond},GI lb n c->FR (n+1) c
 | n,_, .atom _ c h=>⟨by rw[C9 h];decide,fun k hk=>by rw[C9 h]at hk;cases hk⟩
 | _,_, .not n k h=>⟨qtF rfl,fun z hz=>by rw[qvi]at hz;subst hz;exact MB h⟩
 | _,_, .two n op a b _ h1 h2=>⟨qtF rfl,fun z hz=>by
    simp only[qtM,quc,or_false]at hz
    rcases hz with rfl|rfl
    ·exact MB h1
    ·exact MB h2⟩
theorem qf5{lb:List B}{n:Nat}{c:Cond}(h:GC lb n c):∃m,FR m c:=by
 cases h with
 | any=>exact⟨1,by decide,fun k hk=>by cases hk⟩
 | top v f h=>exact⟨1,qtF rfl,fun k hk=>by cases hk⟩
 | inner c h=>exact⟨_,MB h⟩
structure qeR (c:Corpus):Prop where
 ok:OkCorp c
 few:c.toks.length<=60
def qoZ(p:Pat):Qry:=⟨p,nt, [],0⟩
end Go.Gv

namespace Go.Gv
end Go.Gv

namespace Go.Gv
open Go.Proofs
end Go.Gv

namespace Go.Gv
open Go.Proofs
open Cod (enc dec)
variable {S S0:Nat->Spc}
theorem qju{c:Corpus}(h:Qr c)(hk:J8 c)(hl:(c.toks.length:Int)<=3*5):qeR c:=⟨qfY h hk,by omega⟩
end Go.Gv

namespace Go.Gv
open Go.Proofs
theorem CT:am Tryz.prog js [2006006] nk mj 103:=fo
end Go.Gv

namespace Go.Gv
open Go.Proofs Cod
theorem Qb:Tri Tryz.prog uY (DU).pt:=
 ae (ag (aa LW ac)) KF (fun _=>qtF rfl) (UK rfl)
theorem xk:∀n,Tri Tryz.prog iR (G8 n).pt
 | 0=>gl fun x h=>by have:=h.1;omega
 | n+1=>ae (ag (aa eY (aa Qb (aa (xk n) ac)))) FN (fun _=>qtF rfl) (QM n rfl rfl rfl)
theorem IN:Tri Tryz.prog iR (E4).pt:=tz (fun n=>xk n) (xY (fun x h=>h))
theorem J0:Tri Tryz.prog ua (Km).pt:=
 ae (ag (aa eY (aa IN ac))) HL (fun _=>qtF rfl) (UL rfl rfl)
theorem vh:∀n,Tri Tryz.prog js (vw n).pt
 | 0=>gl fun x h=>by have:=h.1;omega
 | n+1=>ae (ag (aa eY (aa Qb (aa J0 (aa (vh n) ac))))) CT (fun _=>qtF rfl) (LF n rfl rfl rfl rfl)
end Go.Gv

namespace Go.Gv
open Go.Proofs
open Cod (enc dec)
variable {S S0:Nat->Spc}
def Do(lb:List B)(x:Cond):Bool:=decide (x.op=4) && !kb lb x.lab
mutual
def uw(lb:List B):Cond->Bool| .mk op n a v l f ks=>Do lb ⟨op,n,a,v,l,f,ks⟩||Qj lb ks
def Qj(lb:List B):List Cond->Bool|[]=>false|k::ks=>uw lb k||Qj lb ks
end
theorem Lk(lb:List B):∀ks:List Cond,Qj lb ks=ks.any (uw lb)
 | []=>by rw[Qj];rfl
 | k::ks=>by rw[Qj,Lk lb ks,List.any_cons]
theorem Gk(lb:List B)(x:Cond):uw lb x=(Do lb x||x.kids.any (uw lb)):=by cases x;rw[uw,Lk]
def eL(b:Bool):Int:=if b then 16 else 0
@[simp] theorem qtx:eL true=16:=rfl
@[simp] theorem qty:eL false=0:=rfl
abbrev Ku:Spc:=aS (a3 Cond (List Attr) (List B)) (fun x=>(∃L,iH x.2.1 L x.1=true)/\x.2.1.length<=1000) (enc (X:=Int)) fun x y=>y=eL (Do x.2.2 x.1)
theorem AF(h1:S ij=DV)(h2:S il=Ha)(h3:S pd=Ov)(h4:S bv=zI)(h5:S kS=s_sConB)(h6:S br=AO)(h7:S aP=Rj):
 aq aI aG S (a3 Cond (List Attr) (List B)) (fun x=>(∃L,iH x.2.1 L x.1=true)/\x.2.1.length<=1000) (enc (X:=Int)) fun x y=>y=eL (Do x.2.2 x.1):=by
 rintro⟨x,a,lb⟩ ⟨⟨L,hx⟩,hl⟩
 have hx:iH a L x=true:=hx
 have hl:a.length<=1000:=hl
 unfold iH at hx
 simp only[qtN]at hx
 obtain⟨⟨hs,hn⟩,hc⟩:=hx
 obtain⟨op,name,arg,val,lab,fold,ks⟩:=x
 unfold qkv at hc
 simp only at hc
 split at hc
 ·rename_i e;subst e
  obtain⟨r,hr⟩:=quB.1 hc
  simp[aI,aG,h1,h2,h3,hs,hn,hl,hr,Do, -Bool.forall_bool, -Bool.exists_bool]
 rename_i e2
 split at hc
 ·rename_i e;subst e
  simp only[qtN]at hc
  obtain⟨⟨⟨c1,c2⟩,c3⟩,c4⟩:=hc
  have hn':0<=je a name:=by simpa [qcy]using hn
  have hrg:=(uU (fun x:Attr=>decide (x.nm=name)) a).2
  have hlt:je a name < a.length:=hrg
  obtain⟨b,hb⟩:=sE (show(je a name).toNat < a.length by omega)
  obtain⟨_,hgb⟩:=qtG.1 hb
  rw[hb]at c1
  have c1:b.st=true:=c1
  have c2:¬val=⟨#[]⟩:=of_decide_eq_true c2
  have c3:qaD val=false:=by simpa using c3
  simp[aI,aG,h1,h2,h4,h5,h6,hs,hn,hl,hn',hlt,hb,hgb,c1,c2,c3,c4,Do, -Bool.forall_bool, -Bool.exists_bool]
 rename_i e3
 split at hc
 ·rename_i e;subst e
  cases hq:kb lb lab <;> simp[aI,aG,h1,h2,h7,hs,hn,hl,hq,Do, -Bool.forall_bool, -Bool.exists_bool]
 rename_i e4
 split at hc
 ·rename_i e;subst e
  simp[aI,aG,h1,h2,h6,hs,hn,hl,hc,Do, -Bool.forall_bool, -Bool.exists_bool]
 rename_i e5
 simp[aI,aG,h1,h2,hs,hn,hl,e2,e3,e4,e5,Do, -Bool.forall_bool, -Bool.exists_bool]
noncomputable abbrev OC:Spc:=aS aVd (fun x=>(∃L,iH x.2.1 L x.1=true)/\x.2.1.length<=1000) (enc (X:=Int)) fun x y=>y=eL (Do x.2.2 x.1)
theorem uE(h1:S eT=Ku):aq cz cq S aVd (fun x=>(∃L,iH x.2.1 L x.1=true)/\x.2.1.length<=1000) (enc (X:=Int)) fun x y=>y=eL (Do x.2.2 x.1):=by
 rintro⟨x,a,lb⟩ ⟨hx,hl⟩
 simp only at hx hl
 rw[wR]
 simp[qbV,cz,cq,h1,hx,hl, -Bool.forall_bool, -Bool.exists_bool]
def qbd(n:Nat)(x:Cond×D×Unit):Prop:=∃ (a:List Attr) (lb:List B),x.2.1= .clo au [.cptr [enc a] 0, .cptr [enc lb] 0]/\(∃L,nA a L n x.1=true)/\a.length<=1000/\kR x.1<=60
def qdT(x:Cond×D×Unit)(y:Int):Prop:=∀ (a:List Attr) (lb:List B),x.2.1= .clo au [.cptr [enc a] 0, .cptr [enc lb] 0]->y=eL (uw lb x.1)
noncomputable abbrev Ks(n:Nat):Spc:=aS (aE Cond (aD a0)) (qbd n) (enc (X:=Int)) qdT
noncomputable abbrev Kr:Spc:=aS (aE Cond (aD a0)) (fun x=>∃n,qbd n x) (enc (X:=Int)) qdT
theorem AC(n:Nat)(h1:S au=OC)(h2:S bO=Ks n):aq dL dG S (aE Cond (aD a0)) (qbd (n+1)) (enc (X:=Int)) qdT:=by
 rintro⟨x,d,⟨⟩⟩ ⟨a,lb,hd,⟨L,hx⟩,hl,hn⟩
 simp only at hd hx hn
 subst hd
 simp only[nA,qtN]at hx
 obtain⟨hx1,hx2⟩:=hx
 have hx1:∃L,iH a L x=true:=⟨L,hx1⟩
 have hQ:∀y:Int,y=eL (uw lb x)->qdT (x, .clo au [.cptr [.list 2 (a.map enc)] 0, .cptr [.list 1 (lb.map enc)] 0],()) y:=fun y hy a' lb' h=>by
  simp at h
  rw[<-h.2]
  exact hy
 have hb:=Gk lb x
 cases hq:Do lb x with
 | true=>
   rw[hq]at hb
   simp[dL,dG,h1,hx1,hl,hq, -Bool.forall_bool, -Bool.exists_bool]
   exact hQ _ (by rw[hb];rfl)
 | false=>
   rw[hq]at hb
   simp[dL,dG,h1,hx1,hl,hq, -Bool.forall_bool, -Bool.exists_bool]
   intro hkl
   refine ai (X:=Unit) [1,16] [] x.kids.length (fun k _=>∀y∈x.kids.take k,uw lb y=false) (fun _=>[]) (fun _=>[]) () (by simp) (by simp) (by omega) (by simp) (by simp) (by simp) (by simp) (by simp) ?_ ?_
   ·rintro k -hk hK
    obtain⟨y,hy⟩:=sE hk
    obtain⟨_,hgy⟩:=qtG.1 hy
    have hm:=qtJ hy
    have hny:=Ee hm
    have hnx:=CX x
    have hp:qbd n (y, .clo au [.cptr [.list 2 (a.map enc)] 0, .cptr [.list 1 (lb.map enc)] 0],()):=⟨a,lb,rfl,⟨L,qtL.1 hx2 y hm⟩,hl,by show kR y<=60;omega⟩
    simp[h2,hk,hy,hgy,hp, -Bool.forall_bool, -Bool.exists_bool]
    intro z hz
    have hz:z=eL (uw lb y):=hz a lb rfl
    subst hz
    cases hq2:uw lb y with
    | true=>
      simp
      exact hQ _ (by rw[hb,show x.kids.any (uw lb)=true from quN.2 ⟨y,hm,hq2⟩];rfl)
    | false=>
      simp
      intro w hw
      rw[bM hy]at hw
      rcases qtK.1 hw with hw|hw
      ·exact hK w hw
      ·simp at hw;subst hw;exact hq2
   ·rintro -hK
    simp[-Bool.forall_bool, -Bool.exists_bool]
    rw[quj]at hK
    exact hQ _ (by rw[hb,show x.kids.any (uw lb)=false from List.any_eq_false.2 fun y hy=>by rw[hK y hy];simp];rfl)
abbrev Nu(x:Cond×List Attr×List B):Prop:=(∃L,qbr x.2.1 L x.1=true)/\x.2.1.length<=1000
abbrev Tc:Spc:=aS (a3 Cond (List Attr) (List B)) Nu (enc (X:=Int)) fun x y=>y=eL (uw x.2.2 x.1)
theorem xo(h1:S cH=Hb)(h2:S bO=Kr):aq cU cQ S (a3 Cond (List Attr) (List B)) Nu (enc (X:=Int)) fun x y=>y=eL (uw x.2.2 x.1):=by
 rintro⟨x,a,lb⟩ ⟨⟨L,hx⟩,hl⟩
 simp only at hx hl
 unfold qbr at hx
 simp at hx
 obtain⟨⟨hn,hd⟩,ha⟩:=hx
 have hp:∃n,qim n (x,0,1):=⟨jd x,qtP _,qvv _,by show(0:Int) +kR x<=60;omega,by show(0:Int)<=1;omega,by show(1:Int) +jd x<=1000;omega,by show jd x<=60;omega⟩
 have hw:∃n,qbd n (x, .clo au [.cptr [.list 2 (a.map enc)] 0, .cptr [.list 1 (lb.map enc)] 0],()):=⟨20,a,lb,rfl,⟨L,ha⟩,hl,hn⟩
 have q1:¬ (60:Int) < (kR x:Int):=by omega
 have q2:¬ (20:Int) < 1+ (jd x:Int) -1:=by omega
 simp[cU,cQ,h1,h2,hp,hw,q1,q2, -Bool.forall_bool, -Bool.exists_bool]
 exact fun y hy=>hy a lb rfl
end Go.Gv

namespace Go.Gv
variable {S S0:Nat->Spc}
end Go.Gv

namespace Go.Gv
open Go.Proofs
end Go.Gv

namespace Go.Gv
open Go.Proofs
open Cod (enc dec)
variable {S S0:Nat->Spc}
end Go.Gv

namespace Go.Gv
open Go.Proofs
open Cod (enc dec)
variable {S S0:Nat->Spc}
end Go.Gv

namespace Go.Gv
open Go.Proofs
end Go.Gv

namespace Go.Gv
open Cod (enc dec)
variable {S S0:Nat->Spc}
end Go.Gv

namespace Go.Gv
open Cod (enc dec)
variable {S S0:Nat->Spc}
end Go.Gv

namespace Go.Gv
open Cod (enc dec)
variable {S S0:Nat->Spc}
end Go.Gv

namespace Go.Gv
open Go.Proofs
theorem qcL{lb:List B} :∀n p,WP lb n p->∀out:List B,aw p out=J5 p out:=by
 refine Gl fun n p hp ih out=>?_
 have hk:∀ks:List Pat,(∀k∈ks,k∈p.kids)->∀o:List B,ks.foldl (fun o k=>aw k o) o=ks.foldl (fun o k=>J5 k o) o:=by
  intro ks
  induction ks with
  | nil=>intro _ o;rfl
  | cons k ks ihk=>
    intro h o
    obtain⟨m,_,_,hi⟩:=ih k (h k (by simp))
    rw[quR,quR,hi,ihk fun z hz=>h z (by simp[hz])]
 have hno:p.op≠1->p.lab=E0->aw p out=J5 p out:=fun h1 h2=>by
  rw[gu,Ng,lu,if_pos h2,if_neg (fun h=>h1 h.1)]
  exact hk _ (fun _ h=>h) _
 rcases xL hp with(⟨h1,h2,h3,h4,h5,h6⟩|⟨h1,h2,h3,h4,h5,h6,h7⟩)|⟨m,rfl,(⟨h1,h2,h3,h4,h5,h6,a,b,h7,_⟩|⟨h1,h2,h3,h4,h5,a,h7,_⟩)⟩
 ·rw[gu,Ng,h6,lu]
  by_cases h:p.lab=E0
  ·rw[if_pos h,if_neg (fun x=>x.2 h)];rfl
  ·rw[if_neg h,if_pos ⟨h1,h⟩];rfl
 ·exact hno (by omega) h3
 ·exact hno (by omega) h3
 ·exact hno (by omega) h3
theorem WM{out:List B}{x y:B}(h:y∈out):y∈lu out x:=by
 unfold lu EO
 split
 ·exact h
 ·split
  ·exact h
  ·simp[h]
theorem WL{out:List B}{x:B}(h:x≠E0):x∈lu out x:=by
 unfold lu EO
 rw[if_neg h]
 split
 ·assumption
 ·simp
theorem qdO{out:List B}{x:B}(h:out.Nodup):(lu out x).Nodup:=by
 unfold lu EO
 split
 ·exact h
 ·split
  ·exact h
  ·rename_i hx
   rw[quY]
   exact⟨h,by simp,fun a ha b hb=>by simp at hb;subst hb;exact fun e=>hx (e ▸ha)⟩
theorem VW(p:Pat):∀ (out:List B) (y:B),y∈out->y∈aw p out:=by
 induction p using kw with|_ p ih=>?_
 intro out y h
 rw[gu]
 have:∀ks:List Pat,(∀k∈ks,k∈p.kids)->∀o:List B,y∈o->y∈ks.foldl (fun o k=>aw k o) o:=by
  intro ks
  induction ks with
  | nil=>intro _ o h;exact h
  | cons k ks ihk=>intro hk o h;exact ihk (fun z hz=>hk z (by simp[hz])) _ (ih k (hk k (by simp)) o y h)
 exact this _ (fun _ h=>h) _ (WM h)
theorem qcK(p:Pat):∀ (out:List B),out.Nodup->(aw p out).Nodup:=by
 induction p using kw with|_ p ih=>?_
 intro out h
 rw[gu]
 have:∀ks:List Pat,(∀k∈ks,k∈p.kids)->∀o:List B,o.Nodup->(ks.foldl (fun o k=>aw k o) o).Nodup:=by
  intro ks
  induction ks with
  | nil=>intro _ o h;exact h
  | cons k ks ihk=>intro hk o h;exact ihk (fun z hz=>hk z (by simp[hz])) _ (ih k (hk k (by simp)) o h)
 exact this _ (fun _ h=>h) _ (qdO h)
theorem KP(p:Pat):∀q∈gO p,q.lab≠E0->∀out:List B,q.lab∈aw p out:=by
 induction p using kw with|_ p ih=>?_
 intro q hq hl out
 rw[gu]
 have hm:∀ks:List Pat,∀o:List B,q.lab∈o->q.lab∈ks.foldl (fun o k=>aw k o) o:=by
  intro ks
  induction ks with
  | nil=>intro o h;exact h
  | cons k ks ihk=>intro o h;exact ihk _ (VW k o _ h)
 cases p with
 | mk op cond lab reg mn mx ks=>
   rw[gO]at hq
   rcases qtM.1 hq with rfl|hq
   ·exact hm _ _ (WL hl)
   ·obtain⟨k,hk,hq⟩:=sZ hq
    have:∀l:List Pat,k∈l->∀o:List B,q.lab∈l.foldl (fun o k=>aw k o) o:=by
     intro l
     induction l with
     | nil=>intro h;cases h
     | cons z l ihl=>
       intro h o
       rw[quR]
       rcases qtM.1 h with rfl|h
       ·exact hm _ _ (ih k hk q hq hl _)
       ·exact ihl h _
    exact this _ hk _
end Go.Gv

namespace Go.Gv
open Go.Proofs
open Cod (enc dec)
variable {S S0:Nat->Spc}
structure qaX (a:List Attr) (q:Qry):Prop where
 glob:q.glob=nt
 filts:q.filts=[]
 strat:q.strat=0
 pat:pW bT q.pat=true
 size:jX q.pat<=256
 l3:(aw q.pat []).length<=3
 num:pY q.pat<=1000000
 att:a.length<=1000
 lv:∀x∈aC q.pat,(∃L,qbr a L x.cond=true)/\∃n,FR n x.cond
def Nj(p:Pat):Bool:=(aC p).any fun x=>uw (aw p []) x.cond
abbrev SR:Spc:=aS (a2 Qry (List Attr)) (fun x=>qaX x.2 x.1) (enc (X:=Int)) fun x y=>y=eL (Nj x.1.pat)
theorem qbC(h1:S eS=Rk)(h2:S cj=s_qlabels)(h3:S dA=s_leavesQ)(h4:S dB=Tc)(h5:S bp=Ma)(h6:S pa=L7)(h7:S jq=Rl):
 aq eW eN S (a2 Qry (List Attr)) (fun x=>qaX x.2 x.1) (enc (X:=Int)) fun x y=>y=eL (Nj x.1.pat):=by
 rintro⟨q,a⟩ hq
 have hq:qaX a q:=hq
 have hC:qof q:=⟨hq.filts,hq.strat,hq.pat,hq.size,hq.l3,hq.num⟩
 have hPb:WN q.pat []:=by show 0+pY q.pat<=1000000;have:=hq.num;omega
 have hlv:(aC q.pat).length<=pY q.pat:=H5 q.pat
 have hPq:qeQ q.pat []:=⟨by have:=hq.num;simp;omega,fun y hy=>(hq.lv y hy).2⟩
 simp[eW,eN,h1,hC,h2, -Bool.forall_bool, -Bool.exists_bool]
 refine .inl ⟨hPb,fun l hl=>?_⟩
 have hl:l=aw q.pat []:=hl
 subst hl
 simp[h3, -Bool.forall_bool, -Bool.exists_bool]
 refine .inl ⟨hPq,?_⟩
 intro hll
 refine ai (X:=Unit) [1,2,6,20] [] (cE q.pat).length (fun k _=>∀x∈ (cE q.pat).take k,uw (aw q.pat []) x.cond=false) (fun _=>[]) (fun _=>[]) () (by simp) (by simp) (by omega) (by simp) (by simp) (by simp) (by simp) (by simp) ?_ ?_
 ·rintro k ⟨⟩ hk hK
  obtain⟨x,hx⟩:∃x,(cE q.pat)[k]? =some x:=⟨_,qtH hk⟩
  obtain⟨_,hgx⟩:=qtG.1 hx
  have hxm:=qtJ hx
  obtain⟨y,hy,rfl⟩:=qtU.1 hxm
  have hP:Nu ((ug y).cond,a,aw q.pat []):=⟨(hq.lv y hy).1,hq.att⟩
  simp[hk,hx,hgx,h4,hP, -Bool.forall_bool, -Bool.exists_bool]
  refine⟨hP,?_⟩
  cases hb:uw (aw q.pat []) (ug y).cond with
  | true=>
    simp
    rw[show Nj q.pat=true from quN.2 ⟨y,hy,hb⟩]
    rfl
  | false=>
    simp
    intro w hw
    rw[bM hx]at hw
    rcases qtK.1 hw with hw|hw
    ·exact hK w hw
    ·simp at hw;subst hw;exact hb
 ·rintro⟨⟩ hK
  rw[quj]at hK
  have hb:Nj q.pat=false:=List.any_eq_false.2 fun y hy=>by
   have:=hK (ug y) (qtU.2 ⟨y,hy,rfl⟩)
   rw[show uw (aw q.pat []) y.cond=false from this]
   simp
  simp[h5,h6,h7,hq.glob,hq.filts,hb, -Bool.forall_bool, -Bool.exists_bool]
structure Uz (c:Corpus) (q:Qry):Prop where
 v:qaX c.attrs q
 f:Nj q.pat=false->QD c q.pat
def Qu(x:Corpus×Qry)(y:List Match×Int):Prop:=(Nj x.2.pat=true/\y=([],16))\/(Nj x.2.pat=false/\qdR x y)
abbrev Ya:Spc:=aS (a2 Corpus Qry) (fun x=>Uz x.1 x.2) (xb (Y:=List Match) (Z:=Int)) Qu
theorem qe9(h1:S fy=SR)(h2:S qK=L4):aq ed dZ S (a2 Corpus Qry) (fun x=>Uz x.1 x.2) (xb (Y:=List Match) (Z:=Int)) Qu:=by
 rintro⟨c,q⟩ hM
 have hM:Uz c q:=hM
 have hV:qaX c.attrs q:=hM.v
 cases hb:Nj q.pat with
 | true=>
   simp[ed,dZ,h1,hV,hb, -Bool.forall_bool, -Bool.exists_bool]
   exact .inl ⟨hb,rfl⟩
 | false=>
 have hF:=hM.f hb
 have hfew:=hF.few
 have htl:(c.toks.length:Int)<=9223372036854775807:=by omega
 have hR:∀y,qdR (c,q) y->Qu (c,q) y:=fun y h=> .inr ⟨hb,h⟩
 simp[ed,dZ,h1,hV,hb,htl, -Bool.forall_bool, -Bool.exists_bool]
 refine ai (X:=Value×List Match) [2,3] [] c.toks.length (fun k x=>QC c (aw q.pat []) q.pat k x.2/\x.2.length<=4096) (fun x=>[(7, .own 27 x.1)]) (fun x=>[(27, .row x.1 pj 3 (x.2.map enc))]) (.slice none 0 0, []) (by simp) (by simp) (by omega) (by simp) (by simp) ⟨KU _ _ _,by simp⟩ (by simp) (by simp[isNilRow]) ?_ ?_
 ·rintro k ⟨v,l⟩ hk ⟨g1,g2⟩
  simp only at g1 g2
  have hPf:Uw (c,q,(k:Int)):=⟨hF,by show(0:Int)<=k;omega,by show(k:Int) < c.toks.length;omega⟩
  simp[h2,hPf, -Bool.forall_bool, -Bool.exists_bool]
  rintro y ⟨hy1,hy2⟩
  have hst:=KV g1 hy1
  exact⟨by omega,by omega,fun v' hle=>⟨fun h=>hR _ (.inr ⟨rfl,rfl,_,_,hst,by simp;omega⟩),fun h=>⟨v',l++y,⟨hst,by simp;omega⟩,rfl, .inl ⟨rfl,by simp⟩⟩⟩⟩
 ·rintro⟨v,l⟩ ⟨g1,g2⟩
  simp only at g1 g2
  simp[-Bool.forall_bool, -Bool.exists_bool]
  exact⟨l,gP pj (by simp[ah]),hR _ (.inl ⟨rfl,O9 g1,g2⟩)⟩
end Go.Gv
