/- A part of the framework and of the walks: W80 V68 V69 C72 W200 C73 Asm25 Fr Fr2 Fr3. -/
import Derived.WalkKit
import Derived.ProofKit
import Derived.OpenShut
import Derived.ShutString
import Derived.ChangeOld
import Derived.Below
import Derived.Test.YtphdikcommfnhaaGreatDoorGb47
import Derived.Test.YtphdikcommfnhaaGreatDoorGb38
import Derived.Test.YtphdikcommfnhaaGreatDoorGb46
import Derived.Test.YtphdikcommfnhaaGreatDoorGb39
import Derived.Test.YtphdikcommfnhaaGreatDoorGb20
import Derived.Test.YtphdikcommfnhaaGreatDoorGb24
import Derived.Test.YtphdikcommfnhaaGreatDoorGb25
import Derived.Test.YtphdikcommfnhaaGreatDoorGb21
import Derived.Test.YtphdikcommfnhaaGreatDoorGb19
set_option linter.unusedSimpArgs false
set_option linter.unusedVariables false
set_option linter.unusedSectionVars false
set_option maxRecDepth 100000
set_option maxHeartbeats 0

namespace Go.Gv
open Cod (enc dec)
variable {S S0:Nat->Spc}
def Td(x:List Int×Int×List B)(y:Cond):Prop:=GI x.2.2 x.2.1.toNat y
abbrev AX(n:Nat):Spc:=bp (aT (a2 Int (List B))) (Lw n) (enc (X:=Cond)) Td
theorem qsN{i:Nat}{a:B}(h:[(⟨#[119,111,114,100]⟩:B),⟨#[119,111,114,100]⟩,⟨#[116,97,103]⟩][i]? =some a):a∈Attr2:=by
 have:=dY h
 simpa [Attr2,XA,XB]using this
theorem qd1{i:Nat}{a:B}(h:[(⟨#[119,111,114,100]⟩:B),⟨#[116,97,103]⟩][i]? =some a):a∈Attr2:=dY h
theorem qqm{i:Nat}{a:B}(h:[(⟨#[112]⟩:B),⟨#[113]⟩][i]? =some a):a∈FeatL:=dY h
theorem qql{i:Nat}{a:B}(h:[(⟨#[49]⟩:B),⟨#[50]⟩][i]? =some a):a∈NumL:=dY h
theorem qr2{i:Nat}{a:B}(h:[(⟨#[97]⟩:B),⟨#[98]⟩,⟨#[97,46,42]⟩,⟨#[91,97,98,93]⟩][i]? =some a):a∈ValsT:=dY h
theorem qsM{i:Nat}{a:B}(h:[(⟨#[97]⟩:B),⟨#[98]⟩,⟨#[97,46,42]⟩,⟨#[91,97,98,93]⟩,⟨#[88]⟩,⟨#[]⟩,⟨#[99,63]⟩,⟨#[97,124,98]⟩][i]? =some a):a∈ValsI:=by
 have:=dY h
 simp only[ValsI,qsY,qtp,or_false]at this ⊢
 rcases this with h|h|h|h|h|h|h|h <;> simp[h]
theorem QT(n:Nat)(h1:S bc=s_m_Next)(h2:S nk=vk)(h3:S eI=AX n):ar qK qs S (aT (a2 Int (List B))) (Lw (n+1)) (enc (X:=Cond)) Td:=by
 rintro⟨L,deep,lb⟩ ⟨hn,hd0,hd1,hlb⟩
 simp only at hn hd0 hd1 hlb
 simp[qK,qs,h1]
 intro b6 k0 hk0 hk1
 refine bB (X:=Int) [0,1,2,6] [6] (fun k=>0<=k/\k < 12/\(deep < 1->k < 8)) (fun k=>[(7,enc k)]) (fun _=>[]) ?_ ?_
 ·simp
  have:k0.tmod 8=k0 % 8:=Int.tmod_eq_emod_of_nonneg hk0
  rw[this]
  omega
 rintro k ⟨q0,q1,q2⟩
 refine bB (X:=Unit) [0,1,2,6,7] [6] (fun _=>10<=k) (fun _=>[]) (fun _=>[]) ?_ ?_
 ·simp
  refine bB (X:=Bool) [0,1,2,6,7,15] [6] (fun b=>b=decide (k < 4)) (fun b=>[(16,enc b)]) (fun _=>[]) ?_ ?_
  ·simp
   repeat' first|apply And.intro|intro _
   all_goals first|omega|(rw[qtA];simp;omega)
  rintro b hb
  simp[h1,Ov,XF,qh1,qdx,pQ,tw, -Bool.forall_bool]
  refine⟨fun _ y hy0 hy1=>⟨hy0,hy1,fun a ha y hy0 hy1=>⟨hy0,hy1,fun a' ha' y hy0 hy1=>jr [] (.nil _) (.atom _ _ (.val a a' _ (qsN ha) (qsM ha')))⟩⟩,fun hb0=>?_⟩
  rw[hb0]at hb
  have hb:4<=k:=by simpa using hb.symm
  refine⟨fun _ y hy0 hy1=>⟨hy0,hy1,fun a ha=>jr [] (.nil _) (.atom _ _ (.feat a (qqm ha)))⟩,fun k4=>⟨fun _ _=>⟨fun hl y hy0 hy1=>⟨hy0,hy1,fun a ha _=>⟨by omega,fun y hy=>⟨by omega,by omega,fun a' ha' y hy0 hy1=>⟨hy0,hy1,fun a'' ha''=>jr [] (.nil _) (.atom _ _ (.same a a' a'' (qd1 ha) (dY ha') (qd1 ha'')))⟩⟩⟩⟩,fun _=>jr [] (.nil _) (.atom _ _ (.val XB _ false (by simp[Attr2]) (by simp[ValsI])))⟩,fun k5=>?_⟩⟩
  refine bB (X:=Bool) [0,1,2,6,7,15] [6] (fun b=>b=decide (k=6\/k=7)) (fun b=>[(67,enc b)]) (fun _=>[]) ?_ ?_
  ·simp
   repeat' first|apply And.intro|intro _
   all_goals first|omega|(rw[qtA];simp;omega)
  rintro b hb2
  simp[h1,h2, -Bool.forall_bool]
  refine⟨fun _ y hy0 hy1=>⟨trivial,fun t ht b8=>?_⟩,fun hb0=>?_⟩
  ·refine bB (X:=B×B) [6,8] [6] (fun x=>(x.1=E0/\x.2=E0)\/(x.1=qkB/\x.2∈NumL)) (fun _=>[]) (fun x=>[(8, .box b8 [.v (.int .i64 5), .v (.string t), .v (.string x.1), .v (.string x.2), .v (.string ⟨#[]⟩), .v (.bool false), .v (.slice none 0 0)])]) ?_ ?_
   ·simp[h1,Ov,pQ,tw]
    refine fun y hy0 hy1=>⟨fun _ z hz0 hz1=>⟨hz0,hz1,fun a ha=>⟨qkB,a, .inr ⟨rfl,qql ha⟩, .inl ⟨rfl,rfl⟩⟩⟩,fun _=>⟨E0,E0, .inl ⟨rfl,rfl⟩, .inl ⟨rfl,rfl⟩⟩⟩
   ·rintro⟨a,v⟩ hav
    simp
    refine jr [] (.nil _) (.atom _ _ ?_)
    rcases hav with⟨rfl,rfl⟩|⟨rfl,hv⟩
    ·exact .reg t ht
    ·exact .regk t v ht hv
  rw[hb0]at hb2
  have hb2:¬ (k=6\/k=7):=by simpa using hb2.symm
  refine bB (X:=Bool) [0,1,2,6,7,15] [6] (fun b=>b=decide (k=8\/k=9)) (fun b=>[(85,enc b)]) (fun _=>[]) ?_ ?_
  ·simp
   repeat' first|apply And.intro|intro _
   all_goals first|omega|(rw[qtA];simp;omega)
  rintro b hb3
  simp[h3, -Bool.forall_bool]
  have hrec:1<=deep->Lw n (L,deep -1,lb):=fun h=>⟨by show(deep -1).toNat < n;omega,by show -10<=deep -1;omega,by show deep -1<=100;omega,hlb⟩
  refine⟨fun hb1=>?_,fun hb0=>?_⟩
  ·rw[hb1]at hb3
   have hb3:k=8\/k=9:=by simpa using hb3.symm
   have hdn:deep.toNat=(deep -1).toNat+1:=by omega
   refine⟨by simp only[InR];omega,hrec (by omega),fun y hy=>jr [y] (by simp) (by show GI lb deep.toNat _;rw[hdn];exact .not _ _ hy)⟩
  rw[hb0]at hb3
  have hb3:¬ (k=8\/k=9):=by simpa using hb3.symm
  omega
 ·rintro -hk
  have hrec:Lw n (L,deep -1,lb):=⟨by show(deep -1).toNat < n;omega,by show -10<=deep -1;omega,by show deep -1<=100;omega,hlb⟩
  have hdn:deep.toNat=(deep -1).toNat+1:=by omega
  simp[h3]
  refine⟨by simp only[InR];omega,by simp only[InR];omega,by simp only[InR];omega,hrec,fun y hy=>⟨by simp only[InR];omega,hrec,fun y' hy'=>jr [y,y'] (by simp) (by show GI lb deep.toNat _;rw[hdn];exact .two _ _ _ _ (by omega) hy hy')⟩⟩
def qd4(x:List Int×Int×List B)(y:Cond):Prop:=GC x.2.2 x.2.1.toNat y
abbrev D9:Spc:=bp (aT (a2 Int (List B))) (fun x=> -10<=x.2.1/\x.2.1<=100/\x.2.2.length<=1000) (enc (X:=Cond)) qd4
abbrev yw:Spc:=bp (aT (a2 Int (List B))) (fun x=>∃n,Lw n x) (enc (X:=Cond)) Td
theorem UU(h1:S bc=s_m_Next)(h3:S eI=yw):ar sZ ss S (aT (a2 Int (List B))) (fun x=> -10<=x.2.1/\x.2.1<=100/\x.2.2.length<=1000) (enc (X:=Cond)) qd4:=by
 rintro⟨L,deep,lb⟩ ⟨hd0,hd1,hlb⟩
 simp only at hd0 hd1 hlb
 simp[sZ,ss,h1]
 intro b6
 refine bB (X:=Unit) [0,1,2,6] [6] (fun _=>True) (fun _=>[]) (fun _=>[]) ?_ ?_
 ·simp[h1,qdx,pQ,tw, -Bool.forall_bool]
  exact fun y _ _=>⟨fun _=>jr [] (.nil _) .any,fun _=>⟨fun _ z z0 z1=>⟨z0,z1,fun a ha u _ _=>jr [] (.nil _) (.top a _ (qr2 ha))⟩,fun _ _ z z0 z1=>⟨z0,z1,fun a ha u _ _=>jr [] (.nil _) (.top a _ (qr2 ha))⟩⟩⟩
 ·rintro - -
  have hrec:∃n,Lw n (L,deep,lb):=⟨deep.toNat+1,Nat.lt_succ_self _,hd0,hd1,hlb⟩
  simp[h3,hrec]
  exact fun y hy=>jr y.kids (.same _) (by show GC lb deep.toNat _;rw[PB y];exact .inner _ hy)
theorem qfr{p:Pat}{C:Pat->Prop}(h1:¬p.op=1)(h2:p.kids=[]):∀y∈bD p,C y:=by
 rw[du,if_neg h1,h2]
 simp
theorem qfp{p:Pat}{C:Pat->Prop}(h1:p.op=1)(h:C p):∀y∈bD p,C y:=by
 rw[du,if_pos h1]
 simpa using h
theorem qfq{p a:Pat}{C:Pat->Prop}(h1:¬p.op=1)(h2:p.kids=[a])(ha:∀y∈bD a,C y):∀y∈bD p,C y:=by
 rw[du,if_neg h1,h2]
 simpa using ha
theorem YM{p a b:Pat}{C:Pat->Prop}(h1:¬p.op=1)(h2:p.kids=[a,b])(ha:∀y∈bD a,C y)(hb:∀y∈bD b,C y):∀y∈bD p,C y:=by
 rw[du,if_neg h1,h2]
 simp only[qtE,List.flatMap_nil,qt1]
 intro y hy
 rcases qsZ.1 hy with hy|hy
 ·exact ha y hy
 ·exact hb y hy
def BP(x:List Int×Int×List B)(p:Pat):Prop:=qj5 x p/\∀y∈bD p,GC x.2.2 1 y.cond
abbrev mw(n:Nat):Spc:=bp (aT (a2 Int (List B))) (QD n) (enc (X:=Pat)) BP
theorem LQ(n:Nat)(h1:S bc=s_m_Next)(h2:S nk=vk)(h3:S pB=D9)(h4:S ew=mw n):ar nN mQ S (aT (a2 Int (List B))) (QD (n+1)) (enc (X:=Pat)) BP:=by
 rintro⟨L,deep,lb⟩ ⟨hn,hd0,hd1,hlb⟩
 simp only at hn hd0 hd1 hlb
 simp[nN,mQ,h1]
 intro b6 k0 hk0 hk1
 refine bB (X:=Int) [0,1,2,6] [6] (fun k=>0<=k/\k < 14/\(deep < 1->k < 7)) (fun k=>[(7,enc k)]) (fun _=>[]) ?_ ?_
 ·simp
  have:k0.tmod 7=k0 % 7:=Int.tmod_eq_emod_of_nonneg hk0
  rw[this]
  omega
 rintro k ⟨q0,q1,q2⟩
 refine bB (X:=Unit) [0,1,2,6] [6] (fun _=>12<=k) (fun _=>[]) (fun _=>[]) ?_ ?_
 ·have hrec:1<=deep->QD n (L,deep -1,lb):=fun h=>⟨by show(deep -1).toNat < n;omega,by show -10<=deep -1;omega,by show deep -1<=100;omega,hlb⟩
  have hdn:1<=deep->deep.toNat=(deep -1).toNat+1:=fun h=>by omega
  simp[h1,h2,h3,h4, -Bool.forall_bool]
  refine⟨fun hk=>⟨hlb,fun c hc b8=>?_⟩,fun hk=>⟨fun hk7=>⟨by simp only[InR];omega,by simp only[InR];omega,fun y _ _=>⟨trivial,fun t ht=>Dm [] [] (.nil _) (.nil _) ⟨⟨qqM (.inr ⟨by show(2+k -5=2\/2+k -5=3);omega,rfl,rfl,ht,rfl,rfl,rfl⟩),Yj Uk rfl⟩,qfr (by show ¬2+k -5=1;omega) rfl⟩⟩⟩,fun hk7=>⟨fun hk10=>⟨by simp only[InR];omega,hrec (by omega),fun y hy=>⟨by simp only[InR];omega,hrec (by omega),fun y' hy'=>?_⟩⟩,fun hk10 hk12=>⟨by simp only[InR];omega,hrec (by omega),fun y hy=>⟨by simp only[InR];omega,hrec (by omega),fun y' hy'=>?_⟩⟩⟩⟩⟩
  ·refine bB (X:=B) [6,8] [6] (fun x=>x=⟨#[]⟩\/x∈lb) (fun _=>[]) (fun x=>[(8, .box b8 [.v (.int .i64 1), .v (.int .i64 c.op), .v (.string c.name), .v (.string c.arg), .v (.string c.val), .v (.string c.lab), .v (.bool c.fold),enc c.kids, .v (.string x), .v (.string ⟨#[]⟩), .v (.int .i64 0), .v (.int .i64 0), .v (.slice none 0 0)])]) ?_ ?_
   ·simp[h1]
    exact fun _ h0 y _ _ _ _=>⟨by omega,fun z hz=>⟨by omega,by omega,fun a ha=> .inr ⟨a,dY ha, .inl rfl⟩⟩⟩
   ·rintro x hx
    simp
    exact Dm c.kids [] (.same _) (.nil _) ⟨⟨qqM (.inl ⟨rfl,hx,rfl,rfl,rfl,rfl⟩),Yj ⟨_,qcV (d:=c) rfl (qi8 hc)⟩ rfl⟩,qfp rfl (by show GC lb 1 _;rw[PB c];exact hc)⟩
  ·refine Dm [] [y,y'] (.nil _) (by simp) ?_
   refine⟨⟨?_,Yi (hdn (by omega)) Uk rfl hy.1.2 hy'.1.2⟩,YM (by show ¬ (4:Int)=1;decide) rfl hy.2 hy'.2⟩
   show WP lb deep.toNat _
   rw[hdn (by omega)]
   exact .inr (.inl ⟨.inl rfl,rfl,rfl,rfl,rfl,rfl,y,y',rfl,hy.1.1,hy'.1.1⟩)
  ·refine Dm [] [y,y'] (.nil _) (by simp) ?_
   refine⟨⟨?_,Yi (hdn (by omega)) Uk rfl hy.1.2 hy'.1.2⟩,YM (by show ¬ (5:Int)=1;decide) rfl hy.2 hy'.2⟩
   show WP lb deep.toNat _
   rw[hdn (by omega)]
   exact .inr (.inl ⟨.inr rfl,rfl,rfl,rfl,rfl,rfl,y,y',rfl,hy.1.1,hy'.1.1⟩)
 ·rintro -hk
  have hrec:QD n (L,deep -1,lb):=⟨by show(deep -1).toNat < n;omega,by show -10<=deep -1;omega,by show deep -1<=100;omega,hlb⟩
  have hdn:deep.toNat=(deep -1).toNat+1:=by omega
  have fin:∀ (mn mx:Int) (y:Pat) (H:ab),(mn,mx) ∈Tc->BP (L,deep -1,lb) y->Fin enc (BP (L,deep,lb)) (.agg [.v (.int .i64 6), .v (.int .i64 0), .v (.string ⟨#[]⟩), .v (.string ⟨#[]⟩), .v (.string ⟨#[]⟩), .v (.string ⟨#[]⟩), .v (.bool false), .v (.slice none 0 0), .v (.string ⟨#[]⟩), .v (.string ⟨#[]⟩), .v (.int .i64 mn), .v (.int .i64 mx), .list 13 [enc y]]) H:=by
   intro mn mx y H hm hy
   refine Dm [] [y] (.nil _) (by simp) ?_
   refine⟨⟨?_,qe8 hdn Uk rfl hy.1.2⟩,qfq (by show ¬ (6:Int)=1;decide) rfl hy.2⟩
   show WP lb deep.toNat _
   rw[hdn]
   exact .inr (.inr ⟨rfl,rfl,rfl,rfl,hm,y,rfl,hy.1.1⟩)
  simp only[Nm]at fin
  simp[h1,h4]
  intro y hy0 hy1
  refine⟨hy0,hy1,fun d hd=>?_⟩
  have:y=0\/y=1\/y=2\/y=3\/y=4\/y=5\/y=6:=by omega
  rcases this with rfl|rfl|rfl|rfl|rfl|rfl|rfl
  all_goals (simp at hd;subst hd;simp[h4])
  all_goals exact⟨by simp only[InR];omega,hrec,fun y hy=>fin _ _ y _ (by simp[Tc]) hy⟩
end Go.Gv

namespace Go.Gv
open Go.Proofs
theorem Xb{n:Nat}{p:Pat}(h:WP [] n p):p.lab=⟨#[]⟩:=by
 rcases GK h with(⟨_,h,_⟩|⟨_,_,h,_⟩)|⟨_,_,(⟨_,_,h,_⟩|⟨_,_,h,_⟩)⟩
 ·rcases h with h|h
  ·exact h
  ·simp at h
 ·exact h
 ·exact h
 ·exact h
theorem Ph:∀n p,WP [] n p->∀out:List B,bV p out=out:=by
 refine LC fun n p hp ih out=>?_
 rw[Dc,show uQ out p.lab=out by rw[uQ,if_pos (show p.lab=E0 from Xb hp)]]
 have:∀ks:List Pat,(∀k∈ks,∀o:List B,bV k o=o)->ks.foldl (fun o k=>bV k o) out=out:=by
  intro ks
  induction ks with
  | nil=>intro _;rfl
  | cons k ks ihk=>
    intro h
    rw[quv,h k (by simp)]
    exact ihk fun z hz=>h z (by simp[hz])
 exact this _ fun k hk o=>by obtain⟨m,_,_,h⟩:=ih k hk;exact h o
theorem qee{C:Pat->Prop}(h0:∀n p,WP [] n p->C p):∀n p,WP [] n p->kg C p:=by
 refine LC fun n p hp ih=>Ty (h0 n p hp) fun k hk=>?_
 obtain⟨m,_,_,h⟩:=ih k hk
 exact h
theorem IV{f:Pat->Bool}(p:Pat)(h:eT f p=true):kg (fun q=>f q=true) p:=by
 induction p using tD with|_ p ih=>?_
 rw[ez,qs1,qsX]at h
 exact Ty h.1 fun k hk=>ih k hk (h.2 k hk)
theorem VI(p:Pat):kg uS p->∀q∈uy p,q.op=1->q∈bD p:=by
 induction p using tD with|_ p ih=>?_
 intro hN q hq h1
 have hp:=jH hN
 rw[du]
 cases p with
 | mk op cond lab reg mn mx ks=>
   rw[uy]at hq
   rcases qsY.1 hq with rfl|hq
   ·rw[if_pos h1];simp
   ·obtain⟨k,hk,hq⟩:=yY hq
    split
    ·rename_i e
     rcases hp with h|h|h|h
     ·have:=h.2.2.2.2;simp only at this;rw[this]at hk;cases hk
     ·have:=h.1;simp only at this e;omega
     ·have:=h.1;simp only at this e;omega
     ·have:=h.1;simp only at this e;omega
    ·exact qtX.2 ⟨k,hk,ih k hk (pS hN hk) q hq h1⟩
def qbq:Prop:=cD qna=true/\cD qdc=true/\cD qm9=true/\cD qqk=true/\cD qqj=true
theorem ym{b:B}(h:(decide (1<=b.size) && decide (b.size<=32) && (b.data.toList.all fun c=>At c.toNat))=true):cD b=true:=by
 simp only[qs1,decide_eq_true_eq,qsX]at h
 have hm:∀ (k:Nat) (c:UInt8),b.data[k]? =some c->At c.toNat=true:=fun k c hc=>h.2 c (by rw[<-qtn]at hc;exact qsW hc)
 rw[vL]
 exact⟨h.1.1,h.1.2,hm 0,fun k c hc=>by unfold WC;rw[hm k c hc];rfl⟩
theorem qeB:qbq:=⟨ym (by decide),ym (by decide),ym (by decide),ym (by decide),ym (by decide)⟩
theorem MZ{lb:List B} :∀ {n:Nat} {c:Cond},GI lb n c->Iq (n+1) c
 | n,_, .atom _ c h=>⟨by rw[Dk h];decide,fun k hk=>by rw[Dk h]at hk;cases hk⟩
 | _,_, .not n k h=>⟨qsS rfl,fun z hz=>by rw[quw]at hz;subst hz;exact MZ h⟩
 | _,_, .two n op a b _ h1 h2=>⟨qsS rfl,fun z hz=>by
    simp only[qsY,qtp,or_false]at hz
    rcases hz with rfl|rfl
    ·exact MZ h1
    ·exact MZ h2⟩
theorem qfl{lb:List B}{n:Nat}{c:Cond}(h:GC lb n c):∃m,Iq m c:=by
 cases h with
 | any=>exact⟨1,by decide,fun k hk=>by cases hk⟩
 | top v f h=>exact⟨1,qsS rfl,fun k hk=>by cases hk⟩
 | inner c h=>exact⟨_,MZ h⟩
structure QG (p:Pat):Prop where
 wp:∃n,n<=5/\WP [] n p
 lv:∀y∈bD p,GC [] 1 y.cond
structure qaR (c:Corpus):Prop where
 ok:OkCorp c
 few:c.toks.length<=60
def qk8(p:Pat):Qry:=⟨p,nX, [],0⟩
theorem M1{c:Corpus}{p:Pat}(hc:qaR c)(hp:QG p):WQ c (qk8 p):=by
 obtain⟨n,hn,hw⟩:=hp.wp
 have hpat:qY cD p=true:=qa5 (fun l h=>by cases h) qeB n p hw (by omega)
 have hlab:bV p []=[]:=Ph n p hw []
 obtain⟨_,hs1,hs2⟩:=qa4 n p hw hn
 have h3:(3:Int) ^n<=243:=by
  rcases n with _|_|_|_|_|_|n
  all_goals first|decide|omega
 have h2:2^ (n+1)<=64:=by
  rcases n with _|_|_|_|_|_|n
  all_goals first|decide|omega
 have hpn:tq p<=1000000:=by
  omega
 have hl3:(bV p []).length<=3:=by rw[hlab];decide
 have he:eT yZ p=true/\eT xX p=true:=by
  unfold qY at hpat
  simp only[qs1]at hpat
  exact⟨hpat.1.1.2,hpat.2⟩
 have hN:kg uS p:=rG (IV p he.1) fun q h=>(zT q).1 h
 refine⟨⟨rfl,rfl,rfl,hpat,by show lY p<=256;omega,hl3,hpn,by rw[hc.ok.1];decide,fun x hx=>?_⟩,⟨hc.ok.sz,by have:=hc.few;omega,hpat,hl3,hpn,fun t ht=>?_⟩⟩
 ·have hg:=hp.lv x hx
  rw[show bV (qk8 p).pat []=[]from hlab,hc.ok.1]
  exact⟨qff hg (by omega),qfl hg⟩
 ·rw[show bV (qk8 p).pat []=[]from hlab]
  intro q hq
  refine⟨hN q hq,IV p he.2 q hq,fun h=>absurd (qee (C:=fun q=>q.lab=⟨#[]⟩) (fun n p h=>Xb h) n p hw q hq) h,fun h1 s hs hlt=>?_⟩
  have hg:=hp.lv q (VI p hN q hq h1)
  have hen:(Ag c [] t).en<=c.toks.length:=by show min t.e (c.toks.length:Int)<=_;omega
  exact qi4 (E:=⟨(Ag c [] t).c,s.p,(Ag c [] t).lb,NG (Ag c [] t) s⟩) ⟨hc.ok,hs.1,by show s.p < (c.toks.length:Int);omega,Uw _ s⟩ hg (by decide)
theorem Ma{l:List Match}(h:fR l):l.Nodup:=List.Pairwise.imp (fun {a b} hab e=>by
 subst e
 unfold NX at hab
 rw[jY.2 rfl]at hab
 omega) h
theorem qfm{c:Corpus}{p:Pat}{l:List Match}(hn:c.toks.length<=60)(h:fR l)(h':∀m∈l,NN c [] p m):l.length<=4096:=by
 have hm:∀m∈l,0<=m.b/\m.b < 60/\0<=m.e/\m.e<=60/\m.lbs=[]:=fun m hm=>by
  obtain⟨h0,h1,t,htx,s,hd,h2,h3,h4⟩:=h' m hm
  have hb:m.b < 60:=by omega
  refine⟨h0,hb,?_,?_,by rw[h4];exact qtw.1 (Uw _ s)⟩
  ·omega
  ·have hen:(Ag c [] t).en<=c.toks.length:=by show min t.e (c.toks.length:Int)<=_;omega
   have hle:m.b<=(Ag c [] t).en:=by
    have hf:=List.find?_some htx
    simp only[qs1,decide_eq_true_eq]at hf
    show m.b<=min t.e (c.toks.length:Int)
    omega
   have:=(qw _ p _ _ hd ⟨h0,hle,fun i=>by
    have:0<=(Ag c [] t).en:=Int.le_trans h0 hle
    rcases i with _|_|i <;> exact⟨quI 0,this⟩⟩).2.1
   omega
 refine qtF (K1 (f:=fun m:Match=>m.b.toNat*64+m.e.toNat) (n:=4096) (Ma h) (fun m h=>?_) fun x hx y hy e=>?_) (qs2 _)
 ·obtain⟨a,b,c,d,_⟩:=hm m h
  omega
 ·obtain⟨a,b,c,d,e1⟩:=hm x hx
  obtain⟨a',b',c',d',e2⟩:=hm y hy
  obtain⟨xb,xe,xl⟩:=x
  obtain⟨yb,ye,yl⟩:=y
  simp only at*
  have h1:xb=yb:=by omega
  have h2:xe=ye:=by omega
  rw[h1,h2,e1,e2]
end Go.Gv

namespace Go.Gv
def sB(a:List Match)(m:Match):Bool:=a.any fun z=>decide (mr z m=0)
theorem Df{a:List Match}{m:Match} :sB a m=true↔m∈a:=by
 unfold sB
 rw[qt3]
 constructor
 ·rintro⟨z,hz,h⟩
  rw[decide_eq_true_iff,jY]at h
  subst h
  exact hz
 ·exact fun h=>⟨m,h,decide_eq_true (jY.2 rfl)⟩
def sI(a u:List Match)(k:Nat):Nat:=((u.take k).filter (sB a)).length
theorem XE{a u:List Match}(ha:fR a)(hu:fR u)(h:∀x∈a,x∈u):a=u.filter (sB a):=
 zR ha (hu.filter _) fun x=>by
  rw[qt9,Df]
  exact⟨fun hx=>⟨h x hx,hx⟩,fun hx=>hx.2⟩
theorem Uo{a u:List Match}(ha:fR a)(hu:fR u)(h:∀x∈a,x∈u):sI a u u.length=a.length:=by
 unfold sI
 rw[qtD,<-XE ha hu h]
theorem Qa{a u:List Match}{k:Nat}{x:Match}(hx:u[k]? =some x):sI a u (k+1)=sI a u k+if sB a x then 1 else 0:=by
 unfold sI
 rw[quB,hx,quj,qtg]
 cases h:sB a x <;> simp[h]
theorem Ns{a u:List Match}(ha:fR a)(hu:fR u)(h:∀x∈a,x∈u){k:Nat}{x:Match}(hx:u[k]? =some x)(hi:sB a x=true):a[sI a u k]? =some x:=by
 have e:=XE ha hu h
 obtain⟨hk,hg⟩:=qsT.1 hx
 have e2:a=(u.take k).filter (sB a) ++x::(u.drop (k+1)).filter (sB a):=by
  conv=>lhs;rw[e,<-qtx k u,quj,qtr hk,hg,qt2,if_pos hi]
 unfold sI
 generalize hf:(u.take k).filter (sB a)=f at e2
 rw[e2,qs3 (qs2 _),qui]
 rfl
theorem ZY{a u:List Match}{k:Nat}{x z:Match}(hi:sB a x=false)(hz:a[sI a u k]? =some z):mr z x≠0:=fun h=>by
 rw[jY]at h
 subst h
 rw[Df.2 (qsW hz)]at hi
 cases hi
end Go.Gv

namespace Go.Gv
open Go.Proofs
def jy:CC:=by refine(fun(_:G.ap (G.gn Tryz.prog Tryz.f5 [] {})=?c)=>?c) ?h;case h=>conv=>lhs; (conv=>arg 1;reduce);dsimp only[G.ap]
def jh:List aj:=[.tmp 4]
theorem yR:aq Tryz.prog qS [] jy jh 115:=ai mixed (by kernel_rfl)
end Go.Gv

namespace Go.Gv
open Go.Proofs
open Cod (enc dec)
variable {S S0:Nat->Spc}
def qaq(p r:Pat):Pat:=⟨5,kV,E0,E0,0,0, [p,r]⟩
theorem qiJ{c:Corpus}(h:Qy c)(hk:KE c)(hl:(c.toks.length:Int)<=3*5):qaR c:=⟨qfd h hk,by omega⟩
theorem qdN{L:List Int}{p:Pat}(h:BP (L,2, []) p):QG p:=⟨⟨2,by decide,h.1.1⟩,h.2⟩
theorem qiK{L L':List Int}{p r:Pat}(h:BP (L,2, []) p)(h':BP (L',2, []) r):QG (qaq p r):=by
 refine⟨⟨3,by decide, .inr (.inl ⟨.inr rfl,rfl,rfl,rfl,rfl,rfl,p,r,rfl,h.1.1,h'.1.1⟩)⟩,fun y hy=>?_⟩
 rw[du,if_neg (show ¬ (qaq p r).op=1 by show ¬ (5:Int)=1;decide)]at hy
 have hy:y∈bD p++ (bD r++ []):=hy
 rw[qt1,qsZ]at hy
 rcases hy with hy|hy
 ·exact h.2 y hy
 ·exact h'.2 y hy
theorem O9{p:Pat}(h:QG p):bV p []=[]:=by obtain⟨n,_,hw⟩:=h.wp;exact Ph n p hw []
theorem qcd{c:Corpus}{p r:Pat}(m:Match):NN c [] (qaq p r) m↔NN c [] p m\/NN c [] r m:=by
 unfold NN
 have hd:∀t s,kU (Ag c [] t) (qaq p r) (FW m.b) s↔kU (Ag c [] t) p (FW m.b) s\/kU (Ag c [] t) r (FW m.b) s:=fun t s=>by
  rw[qdV rfl,show(qaq p r).kids=[p,r]from rfl,rJ,rJ,Ds,or_false]
 constructor
 ·rintro⟨h0,h1,t,ht,s,hs,h2⟩
  rcases(hd t s).1 hs with h|h
  ·exact .inl ⟨h0,h1,t,ht,s,h,h2⟩
  ·exact .inr ⟨h0,h1,t,ht,s,h,h2⟩
 ·rintro(⟨h0,h1,t,ht,s,hs,h2⟩|⟨h0,h1,t,ht,s,hs,h2⟩)
  ·exact⟨h0,h1,t,ht,s,(hd t s).2 (.inl hs),h2⟩
  ·exact⟨h0,h1,t,ht,s,(hd t s).2 (.inr hs),h2⟩
theorem Iv{c:Corpus}{p:Pat}(hc:qaR c)(hp:QG p){y:List Match×Int}(h:qgv (c,qk8 p) y):y.2=0/\NP c [] p y.1/\y.1.length<=4096:=by
 rcases h with⟨h1,h2,h3⟩|⟨_,_,k,l,h3,h4⟩
 ·have h2:NP c (bV p []) p y.1:=h2
  rw[O9 hp]at h2
  exact⟨h1,h2,h3⟩
 ·have h3:QJ c (bV p []) p k l:=h3
  rw[O9 hp]at h3
  have:=qfm hc.few h3.1 fun m hm=>((h3.2 m).1 hm).2
  omega
abbrev qeX:Spc:=bp (a2 (List Int) (List Int)) (fun _=>True) enc (fun(_:List Int×List Int) (y:Bool)=>y=true)
theorem qeu(h1:S GF=s_m_New)(h2:S lc=s_m_Corpus)(h3:S ew=mw 3)(h4:S eY=OK)(h5:S eb=s_cmpM)(h6:S pF=Ea):ar jy jh S (a2 (List Int) (List Int)) (fun _=>True) enc (fun(_:List Int×List Int) (y:Bool)=>y=true):=by
 rintro⟨l,m⟩ -
 simp[jy,jh,h1,h2,h3, -Bool.forall_bool, -Bool.exists_bool]
 have pp:∀L:List Int,QD 3 (L,2, []):=fun L=>⟨by show(2:Int).toNat < 3;decide,by show(-10:Int)<=2;decide,by show(2:Int)<=100;decide,qtl _⟩
 refine fun c hw hk hl b L=>⟨pp L,fun p hp=>⟨pp L,fun r hr b1 b2=>?_⟩⟩
 have hc:=qiJ hw hk hl
 have hP:=qdN hp
 have hR:=qdN hr
 have hA:=qiK hp hr
 clear h1 h2 h3 hw hk hl hp hr pp
 simp[h4, -Bool.forall_bool, -Bool.exists_bool]
 refine⟨M1 hc hP,fun a e hq=>?_⟩
 obtain⟨e0,ha,hla⟩:=Iv hc hP hq
 simp only at e0 ha hla
 subst e0
 clear hq
 simp[h4, -Bool.forall_bool, -Bool.exists_bool]
 refine⟨M1 hc hR,fun a2 e hq=>?_⟩
 obtain⟨e0,ha2,hla2⟩:=Iv hc hR hq
 simp only at e0 ha2 hla2
 subst e0
 clear hq
 refine⟨M1 hc hA,fun u e hq=>?_⟩
 obtain⟨e0,hu,hlu⟩:=Iv hc hA hq
 simp only at e0 hu hlu
 subst e0
 clear hq h4
 have hin:∀x,x∈u↔x∈a\/x∈a2:=fun x=>by rw[hu.2,ha.2,ha2.2,qcd]
 have hi1:∀x∈a,x∈u:=fun x h=>(hin x).2 (.inl h)
 have hi2:∀x∈a2,x∈u:=fun x h=>(hin x).2 (.inr h)
 simp[-Bool.forall_bool, -Bool.exists_bool]
 intro _
 refine ak (X:=Int×Int) [9,11,63] [] u.length (fun k x=>x=((sI a u k:Int),(sI a2 u k:Int))) (fun x=>[(15,enc x.1),(16,enc x.2)]) (fun _=>[]) (0,0) (by simp) (by simp) (by omega) (by simp) (by simp) (by simp[sI]) (by simp) (by simp) ?_ ?_
 ·rintro k ⟨i,j⟩ hk hij
  cases hij
  obtain⟨x,hx⟩:=dO hk
  obtain⟨_,hgx⟩:=qsT.1 hx
  have k1:∀z,a[sI a u k]? =some z->(mr z x=0↔sB a x=true):=fun z hz=>by
   cases hA:sB a x with
   | false=>exact⟨fun h=>absurd h (ZY hA hz),fun h=>by cases h⟩
   | true=>
     rw[Ns ha.1 hu.1 hi1 hx hA]at hz
     cases hz
     exact⟨fun _=>rfl,fun _=>jY.2 rfl⟩
  have k2:∀z,a2[sI a2 u k]? =some z->(mr z x=0↔sB a2 x=true):=fun z hz=>by
   cases hA:sB a2 x with
   | false=>exact⟨fun h=>absurd h (ZY hA hz),fun h=>by cases h⟩
   | true=>
     rw[Ns ha2.1 hu.1 hi2 hx hA]at hz
     cases hz
     exact⟨fun _=>rfl,fun _=>jY.2 rfl⟩
  have n1:a.length<=sI a u k->sB a x=false:=fun h=>by
   cases hA:sB a x with
   | false=>rfl
   | true=>have:=(qsT.1 (Ns ha.1 hu.1 hi1 hx hA)).1;omega
  have n2:a2.length<=sI a2 u k->sB a2 x=false:=fun h=>by
   cases hA:sB a2 x with
   | false=>rfl
   | true=>have:=(qsT.1 (Ns ha2.1 hu.1 hi2 hx hA)).1;omega
  have s1:=Qa (a:=a) hx
  have s2:=Qa (a:=a2) hx
  have ho:sB a x=true\/sB a2 x=true:=by
   rw[Df,Df]
   exact(hin x).1 (qsW hx)
  have hc1:sI a u k<=u.length:=by unfold sI;exact qtF (List.length_filter_le _ _) (by simp;omega)
  have hc2:sI a2 u k<=u.length:=by unfold sI;exact qtF (List.length_filter_le _ _) (by simp;omega)
  generalize sI a u k=i1 at*
  generalize sI a2 u k=i2 at*
  generalize sI a u (k+1)=i1' at*
  generalize sI a2 u (k+1)=i2' at*
  simp[hk,hx,hgx,h5, -Bool.forall_bool, -Bool.exists_bool]
  clear h5 h6 hin hi1 hi2 hu ha ha2 hx
  generalize sB a x=A at*
  generalize sB a2 x=B at*
  have r1:InR .i64 ((i1:Int) +1):=by simp only[InR];omega
  have r2:InR .i64 ((i2:Int) +1):=by simp only[InR];omega
  have e1:∀z,a[i1]? =some z->mr z x=0->(i1:Int) +1=i1':=fun z hz h=>by rw[s1,if_pos ((k1 z hz).1 h)];omega
  have e2:∀z,a2[i2]? =some z->mr z x=0->(i2:Int) +1=i2':=fun z hz h=>by rw[s2,if_pos ((k2 z hz).1 h)];omega
  have g1:∀z,a[i1]? =some z->¬mr z x=0->A=false:=fun z hz h=>by rw[k1 z hz]at h;simpa using h
  have g2:∀z,a2[i2]? =some z->¬mr z x=0->B=false:=fun z hz h=>by rw[k2 z hz]at h;simpa using h
  have f1:A=false->(i1:Int)=i1':=fun h=>by rw[s1,h];simp
  have f2:B=false->(i2:Int)=i2':=fun h=>by rw[s2,h];simp
  have o1:A=false->∀z,a2[i2]? =some z->mr z x=0:=fun h z hz=>(k2 z hz).2 (ho.resolve_left (by rw[h];simp))
  have o2:A=false->i2 < a2.length:=fun h=>by
   rcases Nat.lt_or_ge i2 a2.length with h'|h'
   ·exact h'
   ·rcases ho with h2|h2
    ·rw[h]at h2;cases h2
    ·rw[n2 h']at h2;cases h2
  have rest:A=false->(i2 < a2.length->i2 < a2.length/\∀z,a2[i2]? =some z->(mr z x=0->InR .i64 ((i2:Int) +1)/\(i1:Int)=i1'/\(i2:Int) +1=i2')/\mr z x=0)/\i2 < a2.length:=fun h=>
   ⟨fun hl=>⟨hl,fun z hz=>⟨fun h2=>⟨r2,f1 h,e2 z hz h2⟩,o1 h z hz⟩⟩,o2 h⟩
  exact fun _=>⟨fun hl=>⟨hl,fun z hz=>⟨fun h0=>⟨r1,fun _=>⟨fun hl2=>⟨hl2,fun y hy=>⟨fun h2=>⟨r2,e1 z hz h0,e2 y hy h2⟩,fun h2=>⟨e1 z hz h0,f2 (g2 y hy h2)⟩⟩⟩,fun hl2=>⟨e1 z hz h0,f2 (n2 hl2)⟩⟩⟩,fun h0 _=>rest (g1 z hz h0)⟩⟩,fun hl _=>rest (n1 hl)⟩
 ·rintro⟨i,j⟩ hij
  cases hij
  rw[Uo ha.1 hu.1 hi1,Uo ha2.1 hu.1 hi2]
  simp[h6, -Bool.forall_bool, -Bool.exists_bool]
end Go.Gv

namespace Go.Gv
open Go.Proofs
theorem C1:aq Tryz.prog ew [2006006] nN mQ 103:=ai mixed (by kernel_rfl)
end Go.Gv

namespace Go.Gv
open Go.Proofs Cod
theorem Ql:Tri Tryz.prog nk (vk).pt:=
 ae (S:=aJ [(pD,s_m_Mod)]) (ag (aa L9 ac)) KY (fun _=>qsS rfl) (UT rfl)
theorem xI:∀n,Tri Tryz.prog eI (AX n).pt
 | 0=>iZ fun x h=>by have:=h.1;omega
 | n+1=>ae (S:=aJ [(bc,s_m_Next),(nk,vk),(eI,AX n)]) (ag (aa fD (aa Ql (aa (xI n) ac)))) F8 (fun _=>qsS rfl) (QT n rfl rfl rfl)
theorem Jn:Tri Tryz.prog eI (yw).pt:=vN (fun n=>xI n) (AU (fun x h=>h))
theorem Kw:Tri Tryz.prog pB (D9).pt:=
 ae (S:=aJ [(bc,s_m_Next),(eI,yw)]) (ag (aa fD (aa Jn ac))) Ik (fun _=>qsS rfl) (UU rfl rfl)
theorem vC:∀n,Tri Tryz.prog ew (mw n).pt
 | 0=>iZ fun x h=>by have:=h.1;omega
 | n+1=>ae (S:=aJ [(bc,s_m_Next),(nk,vk),(pB,D9),(ew,mw n)]) (ag (aa fD (aa Ql (aa Kw (aa (vC n) ac))))) C1 (fun _=>qsS rfl) (LQ n rfl rfl rfl rfl)
theorem Hk:Tri Tryz.prog qS (qeX).pt:=
 ae (S:=aJ [(GF,s_m_New),(lc,s_m_Corpus),(ew,mw 3),(eY,OK),(eb,s_cmpM),(pF,Ea)]) (ag (aa qbz (aa FV (aa (vC 3) (aa xq (aa xG (aa J1 ac))))))) yR (fun _=>qsS rfl) (qeu rfl rfl rfl rfl rfl rfl)
end Go.Gv

namespace Go.Gv
open Go.ChangeShapes Go.WideShapes Go.ChangeAt Go.RowKit
section
variable {H:Type}{ec:TypeId×Value->H}{P:Program}{w:World}{base:Nat}{spare:Nat->Bool}{held:Bool}{tp I:Nat->Prop}
def OpR(tp I:Nat->Prop)(w:World)(cs:List Value)(d:D):Prop:=cs.length=d.cells.length/\∀ (k:Nat) (y:Value) (c:D),cs[k]? =some y->d.cells[k]? =some c->y.oneCell'=true/\R tp I w y c
theorem OpR.one{y:Value}{d:D}(h:OpR tp I w [y] d)(hd:d.cells=[d]):R tp I w y d:=(h.2 0 y d rfl (by rw[hd];rfl)).2
theorem Yl{t:TypeId}{fuel:Nat}{cs:List Value}{x:DataW H×List MemPlace}(ht:P.underlying t=some (.int .i64))(h:DataW.trod ec P w base spare held fuel t cs=some x):∃n:Int,OpR tp I w cs (Cod.enc n):=by
 obtain⟨n,rfl,_,_⟩:=DataW.trod_int ht h
 refine⟨n,rfl,fun k y c h1 h2=>?_⟩
 cases k with
 | zero=>cases h1;cases h2;exact⟨rfl, .v _ rfl (fun s h=>by cases h)⟩
 | succ k=>simp at h1
theorem OQ{Y:Type}[Cod Y]{t e:TypeId}(ht:P.underlying t=some (.slice e))(hc:P.cellsOf e=Cod.wd Y)(h0:0 < Cod.wd Y)
 (hel:∀ (n:Nat) (cs:List Value) (x:DataW H×List MemPlace),DataW.trod ec P w base spare held n e cs=some x->∃y:Y,OpR tp I w cs (Cod.enc y)) (hI:∀b,b < w.heap.size->I b)
 {fuel:Nat} {cs:List Value} {x:DataW H×List MemPlace} (h:DataW.trod ec P w base spare held fuel t cs=some x) (h1w:Cod.wd Y=1:=by rfl):∃l:List Y,OpR tp I w cs (Cod.enc l):=by
 have one:∀ (v:Value) (l:List Y),v.oneCell'=true->R tp I w v (.list (Cod.wd Y) (l.map Cod.enc))->OpR tp I w [v] (Cod.enc l):=fun v l h1 h2=>⟨rfl,fun k y c e1 e2=>by
  cases k with
  | zero=>cases e1;cases e2;exact⟨h1,h2⟩
  | succ k=>simp at e1⟩
 rcases DataW.trod_slice ht h with⟨rfl,_⟩|⟨a,len,cap,elems,rest,n,_,rfl,_,_,hl,hm,hlen,hel',_⟩
 ·exact⟨[],one _ [] rfl (.nolist none 0 _)⟩
 ·by_cases hz:len=0
  ·subst hz
   exact⟨[],one _ [] rfl (.nolist (some a) cap _)⟩
  ·have each:∀i:_root_.Fin len,∃p:List Value×Y,w.cells? base (a.add (i*P.cellsOf e)) (P.cellsOf e)=some p.1/\OpR tp I w p.1 (Cod.enc p.2):=fun i=>by
    have h1:=hel' i i.2
    rw[qsU (by omega)]at h1
    obtain⟨cs',h2,h3⟩:=qsR.1 h1
    obtain⟨y,hy⟩:=hel n cs' _ h3
    exact⟨(cs',y),h2,hy⟩
   obtain⟨g,hg⟩:=qu8 each
   obtain⟨b,off,spot⟩:=a
   have cellAt:∀ (i:_root_.Fin len) (j:Nat),j < Cod.wd Y->∃v,(g i).1[j]? =some v/\w.cell? ((Addr.add ⟨b,off,spot⟩ (i*Cod.wd Y)).add j)=some v:=fun i j hj=>by
    have h1:=World.cells?_some (hg i).1
    have h2:=h1.2.2 j (by rw[hc];exact hj)
    have h3:j < (g i).1.length:=by rw[h1.2.1,hc];exact hj
    refine⟨(g i).1[j],qsU h3,?_⟩
    rw[hc]at h2
    rw[h2,qsU h3]
   have hs:spot=none:=by
    obtain⟨v,_,h2⟩:=cellAt ⟨0,by omega⟩ 0 h0
    have:=World.cell?_spot h2
    simpa [Addr.add]using this
   subst hs
   have hadd:∀ (o n:Nat),Addr.add ⟨b,o,none⟩ n=⟨b,o+n,none⟩:=fun o n=>by
    unfold Addr.add
    split
    ·rename_i e;subst e;rfl
    ·rfl
   have cellAt':∀ (i:_root_.Fin len) (j:Nat),j < Cod.wd Y->∃v,(g i).1[j]? =some v/\w.cell? ⟨b,off+ (i*Cod.wd Y+j),none⟩=some v:=fun i j hj=>by
    obtain⟨v,h1,h2⟩:=cellAt i j hj
    refine⟨v,h1,?_⟩
    rw[hadd,hadd]at h2
    rw[<-qub]
    exact h2
   have hb:b < w.heap.size:=by
    obtain⟨v,_,h2⟩:=cellAt' ⟨0,by omega⟩ 0 h0
    unfold World.cell? at h2
    by_cases hlt:b < w.heap.size
    ·exact hlt
    ·simp only[quh (Nat.le_of_not_lt hlt)]at h2
     cases h2
   let es:List Y:=List.ofFn fun i=>(g i).2
   have hesl:es.length=len:=by simp[es]
   have hesi:∀i:_root_.Fin len,(es.map Cod.enc)[(i:Nat)]? =some (Cod.enc (g i).2):=fun i=>by
    rw[qta]
    have:es[(i:Nat)]? =some (g i).2:=by simp[es]
    rw[this];rfl
   have hw:∀d∈es.map Cod.enc,d.kn=true/\d.cells.length=Cod.wd Y:=fun d hd=>by
    obtain⟨y,_,rfl⟩:=qs7.1 hd
    exact⟨Cod.kn y,Cod.wid y⟩
   have flatAt:∀ (k:Nat) (c:D),(bq (es.map Cod.enc))[k]? =some c->∃v,w.cell? ⟨b,off+k,none⟩=some v/\v.oneCell'=true/\R tp I w v c:=fun k c hk=>by
    have hkl:=(qsT.1 hk).1
    rw[aR (fun d hd=>(hw d hd).2),qtJ,hesl]at hkl
    have hdm:k=(k/Cod.wd Y) *Cod.wd Y+k % Cod.wd Y:=by have:=qt8 k (Cod.wd Y);rw[qt5]at this;omega
    have hmod:k % Cod.wd Y < Cod.wd Y:=quf _ h0
    have hq:k/Cod.wd Y < len:=quZ (by rw[qt5];exact hkl)
    have g1:=di (es:=es.map Cod.enc) (fun d hd=>(hw d hd).2) (i:=k/Cod.wd Y) hmod
    rw[<-hdm,hk,hesi ⟨k/Cod.wd Y,hq⟩]at g1
    simp only[qtb]at g1
    obtain⟨v,h1,h2⟩:=cellAt' ⟨k/Cod.wd Y,hq⟩ (k % Cod.wd Y) hmod
    simp only at h2
    rw[<-hdm]at h2
    exact⟨v,h2,(hg ⟨k/Cod.wd Y,hq⟩).2.2 _ v c h1 g1.symm⟩
   have hR:R tp I w (.slice (some ⟨b,off,none⟩) len cap) (.list (Cod.wd Y) (es.map Cod.enc)):=by
    have hll:(es.map (Cod.enc (X:=Y))).length=len:=by simp[hesl]
    rw[<-hll]
    have rd:∀ (k:Nat) (c:D),(bq (es.map Cod.enc))[k]? =some c->w.cell? ⟨b,off+k,none⟩=some ((w.cell? ⟨b,off+k,none⟩).getD Go.undef):=fun k c hk=>by
     obtain⟨v,h1,_⟩:=flatAt k c hk
     rw[h1];rfl
    refine .list b off cap _ (es.map Cod.enc) (fun k=>(w.cell? ⟨b,off+k,none⟩).getD Go.undef) (hI b hb) (by rw[hll];exact hl) hm (fun h=>absurd h1w h) hw rd (fun k c hk=>?_) (fun k c hk=>?_)
    ·obtain⟨v,h1,h2,_⟩:=flatAt k c hk
     rw[h1];exact h2
    ·obtain⟨v,h1,_,h2⟩:=flatAt k c hk
     rw[h1];exact h2
   exact⟨es,one _ es rfl hR⟩
end
end Go.Gv

namespace Go.Gv
open Go.ChangeShapes Go.WideShapes Go.ChangeAt Go.RowKit
section
variable {H:Type}{ec:TypeId×Value->H}{P:Program}{w:World}{base:Nat}{spare:Nat->Bool}{held:Bool}{tp I:Nat->Prop}
end
abbrev qlg(w:World):Nat->Prop:=aP (fun _=>False) (fun _=>False) bU w
theorem Yz{w:World}{b:Nat}(h:b < w.heap.size):qlg w b:=⟨h,fun h=>h,fun h=>h,fun⟨i,r,h,_⟩=>by simp[bU]at h⟩
end Go.Gv

namespace Go.Gv
open Go.ChangeShapes Go.WideShapes Go.ChangeAt Go.RowKit
section
variable {H:Type}{ec:TypeId×Value->H}{P:Program}{w:World}{base:Nat}{spare:Nat->Bool}{held:Bool}{tp I:Nat->Prop}
end
end Go.Gv
