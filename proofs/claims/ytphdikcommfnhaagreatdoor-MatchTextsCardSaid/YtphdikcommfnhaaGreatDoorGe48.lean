/- A part of the framework and of the walks: W80 V68 V69 C72 W200 C73 Asm25 V70 V71 C74 W201 Asm26 V72 C76. -/
import Derived.Test.YtphdikcommfnhaaGreatDoorGe47
import Derived.Test.YtphdikcommfnhaaGreatDoorGe37
import Derived.Test.YtphdikcommfnhaaGreatDoorGe46
import Derived.Test.YtphdikcommfnhaaGreatDoorGe38
import Derived.Test.YtphdikcommfnhaaGreatDoorGe20
import Derived.Test.YtphdikcommfnhaaGreatDoorGe24
import Derived.Test.YtphdikcommfnhaaGreatDoorGe25
import Derived.Test.YtphdikcommfnhaaGreatDoorGe44
import Derived.Test.YtphdikcommfnhaaGreatDoorGe29
import Derived.Test.YtphdikcommfnhaaGreatDoorGe36
set_option linter.unusedSimpArgs false
set_option linter.unusedVariables false
set_option linter.unusedSectionVars false
set_option maxRecDepth 100000
set_option maxHeartbeats 0

namespace Go.Gv
open Cod (enc dec)
variable {S S0:Nat->Spc}
def Vn(x:List Int×Int×List B)(y:Cond):Prop:=GI x.2.2 x.2.1.toNat y
abbrev Jn(n:Nat):Spc:=aI (aT (a2 Int (List B))) (NC n) (enc (X:=Cond)) Vn
theorem qxs{i:Nat}{a:B}(h:[(⟨#[119,111,114,100]⟩:B),⟨#[119,111,114,100]⟩,⟨#[116,97,103]⟩][i]? =some a):a∈Attr2:=by
 have:=bj h
 simpa [Attr2,I1,qaw]using this
theorem qg9{i:Nat}{a:B}(h:[(⟨#[119,111,114,100]⟩:B),⟨#[116,97,103]⟩][i]? =some a):a∈Attr2:=bj h
theorem qu1{i:Nat}{a:B}(h:[(⟨#[112]⟩:B),⟨#[113]⟩][i]? =some a):a∈FeatL:=bj h
theorem qu0{i:Nat}{a:B}(h:[(⟨#[49]⟩:B),⟨#[50]⟩][i]? =some a):a∈NumL:=bj h
theorem qwG{i:Nat}{a:B}(h:[(⟨#[97]⟩:B),⟨#[98]⟩,⟨#[97,46,42]⟩,⟨#[91,97,98,93]⟩][i]? =some a):a∈ValsT:=bj h
theorem qxr{i:Nat}{a:B}(h:[(⟨#[97]⟩:B),⟨#[98]⟩,⟨#[97,46,42]⟩,⟨#[91,97,98,93]⟩,⟨#[88]⟩,⟨#[]⟩,⟨#[99,63]⟩,⟨#[97,124,98]⟩][i]? =some a):a∈ValsI:=by
 have:=bj h
 simp only[ValsI,qxD,qxY,or_false]at this ⊢
 rcases this with h|h|h|h|h|h|h|h <;> simp[h]
theorem Tz(n:Nat)(h1:S ca=s_m_Next)(h2:S qV=wC)(h3:S jH=Jn n):aq rW rz S (aT (a2 Int (List B))) (NC (n+1)) (enc (X:=Cond)) Vn:=by
 rintro⟨L,deep,lb⟩ ⟨hn,hd0,hd1,hlb⟩
 simp only at hn hd0 hd1 hlb
 simp[rW,rz,h1]
 intro b6 k0 hk0 hk1
 refine aR (X:=Int) [0,1,2,6] [6] (fun k=>0<=k/\k < 12/\(deep < 1->k < 8)) (fun k=>[(7,enc k)]) (fun _=>[]) ?_ ?_
 ·simp
  have:k0.tmod 8=k0 % 8:=Int.tmod_eq_emod_of_nonneg hk0
  rw[this]
  omega
 rintro k ⟨q0,q1,q2⟩
 refine aR (X:=Unit) [0,1,2,6,7] [6] (fun _=>10<=k) (fun _=>[]) (fun _=>[]) ?_ ?_
 ·simp
  refine aR (X:=Bool) [0,1,2,6,7,15] [6] (fun b=>b=decide (k < 4)) (fun b=>[(16,enc b)]) (fun _=>[]) ?_ ?_
  ·simp
   repeat' first|apply And.intro|intro _
   all_goals first|omega|(rw[qyi];simp;omega)
  rintro b hb
  simp[h1,MD,QD,qmx,qhx,lm,qs, -Bool.forall_bool]
  refine⟨fun _ y hy0 hy1=>⟨hy0,hy1,fun a ha y hy0 hy1=>⟨hy0,hy1,fun a' ha' y hy0 hy1=>fp [] (.nil _) (.atom _ _ (.val a a' _ (qxs ha) (qxr ha')))⟩⟩,fun hb0=>?_⟩
  rw[hb0]at hb
  have hb:4<=k:=by simpa using hb.symm
  refine⟨fun _ y hy0 hy1=>⟨hy0,hy1,fun a ha=>fp [] (.nil _) (.atom _ _ (.feat a (qu1 ha)))⟩,fun k4=>⟨fun _ _=>⟨fun hl y hy0 hy1=>⟨hy0,hy1,fun a ha _=>⟨by omega,fun y hy=>⟨by omega,by omega,fun a' ha' y hy0 hy1=>⟨hy0,hy1,fun a'' ha''=>fp [] (.nil _) (.atom _ _ (.same a a' a'' (qg9 ha) (bj ha') (qg9 ha'')))⟩⟩⟩⟩,fun _=>fp [] (.nil _) (.atom _ _ (.val qaw _ false (by simp[Attr2]) (by simp[ValsI])))⟩,fun k5=>?_⟩⟩
  refine aR (X:=Bool) [0,1,2,6,7,15] [6] (fun b=>b=decide (k=6\/k=7)) (fun b=>[(67,enc b)]) (fun _=>[]) ?_ ?_
  ·simp
   repeat' first|apply And.intro|intro _
   all_goals first|omega|(rw[qyi];simp;omega)
  rintro b hb2
  simp[h1,h2, -Bool.forall_bool]
  refine⟨fun _ y hy0 hy1=>⟨trivial,fun t ht b8=>?_⟩,fun hb0=>?_⟩
  ·refine aR (X:=B×B) [6,8] [6] (fun x=>(x.1=E0/\x.2=E0)\/(x.1=qpa/\x.2∈NumL)) (fun _=>[]) (fun x=>[(8, .box b8 [.v (.int .i64 5), .v (.string t), .v (.string x.1), .v (.string x.2), .v (.string ⟨#[]⟩), .v (.bool false), .v (.slice none 0 0)])]) ?_ ?_
   ·simp[h1,MD,lm,qs]
    refine fun y hy0 hy1=>⟨fun _ z hz0 hz1=>⟨hz0,hz1,fun a ha=>⟨qpa,a, .inr ⟨rfl,qu0 ha⟩, .inl ⟨rfl,rfl⟩⟩⟩,fun _=>⟨E0,E0, .inl ⟨rfl,rfl⟩, .inl ⟨rfl,rfl⟩⟩⟩
   ·rintro⟨a,v⟩ hav
    simp
    refine fp [] (.nil _) (.atom _ _ ?_)
    rcases hav with⟨rfl,rfl⟩|⟨rfl,hv⟩
    ·exact .reg t ht
    ·exact .regk t v ht hv
  rw[hb0]at hb2
  have hb2:¬ (k=6\/k=7):=by simpa using hb2.symm
  refine aR (X:=Bool) [0,1,2,6,7,15] [6] (fun b=>b=decide (k=8\/k=9)) (fun b=>[(85,enc b)]) (fun _=>[]) ?_ ?_
  ·simp
   repeat' first|apply And.intro|intro _
   all_goals first|omega|(rw[qyi];simp;omega)
  rintro b hb3
  simp[h3, -Bool.forall_bool]
  have hrec:1<=deep->NC n (L,deep -1,lb):=fun h=>⟨by show(deep -1).toNat < n;omega,by show -10<=deep -1;omega,by show deep -1<=100;omega,hlb⟩
  refine⟨fun hb1=>?_,fun hb0=>?_⟩
  ·rw[hb1]at hb3
   have hb3:k=8\/k=9:=by simpa using hb3.symm
   have hdn:deep.toNat=(deep -1).toNat+1:=by omega
   refine⟨by simp only[InR];omega,hrec (by omega),fun y hy=>fp [y] (by simp) (by show GI lb deep.toNat _;rw[hdn];exact .not _ _ hy)⟩
  rw[hb0]at hb3
  have hb3:¬ (k=8\/k=9):=by simpa using hb3.symm
  omega
 ·rintro -hk
  have hrec:NC n (L,deep -1,lb):=⟨by show(deep -1).toNat < n;omega,by show -10<=deep -1;omega,by show deep -1<=100;omega,hlb⟩
  have hdn:deep.toNat=(deep -1).toNat+1:=by omega
  simp[h3]
  refine⟨by simp only[InR];omega,by simp only[InR];omega,by simp only[InR];omega,hrec,fun y hy=>⟨by simp only[InR];omega,hrec,fun y' hy'=>fp [y,y'] (by simp) (by show GI lb deep.toNat _;rw[hdn];exact .two _ _ _ _ (by omega) hy hy')⟩⟩
def qia(x:List Int×Int×List B)(y:Cond):Prop:=GC x.2.2 x.2.1.toNat y
abbrev ML:Spc:=aI (aT (a2 Int (List B))) (fun x=> -10<=x.2.1/\x.2.1<=100/\x.2.2.length<=1000) (enc (X:=Cond)) qia
abbrev G1:Spc:=aI (aT (a2 Int (List B))) (fun x=>∃n,NC n x) (enc (X:=Cond)) Vn
theorem X0(h1:S ca=s_m_Next)(h3:S jH=G1):aq uh tm S (aT (a2 Int (List B))) (fun x=> -10<=x.2.1/\x.2.1<=100/\x.2.2.length<=1000) (enc (X:=Cond)) qia:=by
 rintro⟨L,deep,lb⟩ ⟨hd0,hd1,hlb⟩
 simp only at hd0 hd1 hlb
 simp[uh,tm,h1]
 intro b6
 refine aR (X:=Unit) [0,1,2,6] [6] (fun _=>True) (fun _=>[]) (fun _=>[]) ?_ ?_
 ·simp[h1,qhx,lm,qs, -Bool.forall_bool]
  exact fun y _ _=>⟨fun _=>fp [] (.nil _) .any,fun _=>⟨fun _ z z0 z1=>⟨z0,z1,fun a ha u _ _=>fp [] (.nil _) (.top a _ (qwG ha))⟩,fun _ _ z z0 z1=>⟨z0,z1,fun a ha u _ _=>fp [] (.nil _) (.top a _ (qwG ha))⟩⟩⟩
 ·rintro - -
  have hrec:∃n,NC n (L,deep,lb):=⟨deep.toNat+1,Nat.lt_succ_self _,hd0,hd1,hlb⟩
  simp[h3,hrec]
  exact fun y hy=>fp y.kids (.same _) (by show GC lb deep.toNat _;rw[EQ y];exact .inner _ hy)
theorem qjM{p:Pat}{C:Pat->Prop}(h1:¬p.op=1)(h2:p.kids=[]):∀y∈aM p,C y:=by
 rw[cW,if_neg h1,h2]
 simp
theorem qjK{p:Pat}{C:Pat->Prop}(h1:p.op=1)(h:C p):∀y∈aM p,C y:=by
 rw[cW,if_pos h1]
 simpa using h
theorem qjL{p a:Pat}{C:Pat->Prop}(h1:¬p.op=1)(h2:p.kids=[a])(ha:∀y∈aM a,C y):∀y∈aM p,C y:=by
 rw[cW,if_neg h1,h2]
 simpa using ha
theorem qcf{p a b:Pat}{C:Pat->Prop}(h1:¬p.op=1)(h2:p.kids=[a,b])(ha:∀y∈aM a,C y)(hb:∀y∈aM b,C y):∀y∈aM p,C y:=by
 rw[cW,if_neg h1,h2]
 simp only[qyd,List.flatMap_nil,qyI]
 intro y hy
 rcases qxE.1 hy with hy|hy
 ·exact ha y hy
 ·exact hb y hy
def Lf(x:List Int×Int×List B)(p:Pat):Prop:=qoy x p/\∀y∈aM p,GC x.2.2 1 y.cond
abbrev D4(n:Nat):Spc:=aI (aT (a2 Int (List B))) (XE n) (enc (X:=Pat)) Lf
theorem NZ(n:Nat)(h1:S ca=s_m_Next)(h2:S qV=wC)(h3:S vN=ML)(h4:S fZ=D4 n):aq oJ nq S (aT (a2 Int (List B))) (XE (n+1)) (enc (X:=Pat)) Lf:=by
 rintro⟨L,deep,lb⟩ ⟨hn,hd0,hd1,hlb⟩
 simp only at hn hd0 hd1 hlb
 simp[oJ,nq,h1]
 intro b6 k0 hk0 hk1
 refine aR (X:=Int) [0,1,2,6] [6] (fun k=>0<=k/\k < 14/\(deep < 1->k < 7)) (fun k=>[(7,enc k)]) (fun _=>[]) ?_ ?_
 ·simp
  have:k0.tmod 7=k0 % 7:=Int.tmod_eq_emod_of_nonneg hk0
  rw[this]
  omega
 rintro k ⟨q0,q1,q2⟩
 refine aR (X:=Unit) [0,1,2,6] [6] (fun _=>12<=k) (fun _=>[]) (fun _=>[]) ?_ ?_
 ·have hrec:1<=deep->XE n (L,deep -1,lb):=fun h=>⟨by show(deep -1).toNat < n;omega,by show -10<=deep -1;omega,by show deep -1<=100;omega,hlb⟩
  have hdn:1<=deep->deep.toNat=(deep -1).toNat+1:=fun h=>by omega
  simp[h1,h2,h3,h4, -Bool.forall_bool]
  refine⟨fun hk=>⟨hlb,fun c hc b8=>?_⟩,fun hk=>⟨fun hk7=>⟨by simp only[InR];omega,by simp only[InR];omega,fun y _ _=>⟨trivial,fun t ht=>Bn [] [] (.nil _) (.nil _) ⟨⟨qr3 (.inr ⟨by show(2+k -5=2\/2+k -5=3);omega,rfl,rfl,ht,rfl,rfl,rfl⟩),qbK Xk rfl⟩,qjM (by show ¬2+k -5=1;omega) rfl⟩⟩⟩,fun hk7=>⟨fun hk10=>⟨by simp only[InR];omega,hrec (by omega),fun y hy=>⟨by simp only[InR];omega,hrec (by omega),fun y' hy'=>?_⟩⟩,fun hk10 hk12=>⟨by simp only[InR];omega,hrec (by omega),fun y hy=>⟨by simp only[InR];omega,hrec (by omega),fun y' hy'=>?_⟩⟩⟩⟩⟩
  ·refine aR (X:=B) [6,8] [6] (fun x=>x=⟨#[]⟩\/x∈lb) (fun _=>[]) (fun x=>[(8, .box b8 [.v (.int .i64 1), .v (.int .i64 c.op), .v (.string c.name), .v (.string c.arg), .v (.string c.val), .v (.string c.lab), .v (.bool c.fold),enc c.kids, .v (.string x), .v (.string ⟨#[]⟩), .v (.int .i64 0), .v (.int .i64 0), .v (.slice none 0 0)])]) ?_ ?_
   ·simp[h1]
    exact fun _ h0 y _ _ _ _=>⟨by omega,fun z hz=>⟨by omega,by omega,fun a ha=> .inr ⟨a,bj ha, .inl rfl⟩⟩⟩
   ·rintro x hx
    simp
    exact Bn c.kids [] (.same _) (.nil _) ⟨⟨qr3 (.inl ⟨rfl,hx,rfl,rfl,rfl,rfl⟩),qbK ⟨_,qgQ (d:=c) rfl (qnB hc)⟩ rfl⟩,qjK rfl (by show GC lb 1 _;rw[EQ c];exact hc)⟩
  ·refine Bn [] [y,y'] (.nil _) (by simp) ?_
   refine⟨⟨?_,qbJ (hdn (by omega)) Xk rfl hy.1.2 hy'.1.2⟩,qcf (by show ¬ (4:Int)=1;decide) rfl hy.2 hy'.2⟩
   show WP lb deep.toNat _
   rw[hdn (by omega)]
   exact .inr (.inl ⟨.inl rfl,rfl,rfl,rfl,rfl,rfl,y,y',rfl,hy.1.1,hy'.1.1⟩)
  ·refine Bn [] [y,y'] (.nil _) (by simp) ?_
   refine⟨⟨?_,qbJ (hdn (by omega)) Xk rfl hy.1.2 hy'.1.2⟩,qcf (by show ¬ (5:Int)=1;decide) rfl hy.2 hy'.2⟩
   show WP lb deep.toNat _
   rw[hdn (by omega)]
   exact .inr (.inl ⟨.inr rfl,rfl,rfl,rfl,rfl,rfl,y,y',rfl,hy.1.1,hy'.1.1⟩)
 ·rintro -hk
  have hrec:XE n (L,deep -1,lb):=⟨by show(deep -1).toNat < n;omega,by show -10<=deep -1;omega,by show deep -1<=100;omega,hlb⟩
  have hdn:deep.toNat=(deep -1).toNat+1:=by omega
  have fin:∀ (mn mx:Int) (y:Pat) (H:ab),(mn,mx) ∈Vl->Lf (L,deep -1,lb) y->Fin enc (Lf (L,deep,lb)) (.agg [.v (.int .i64 6), .v (.int .i64 0), .v (.string ⟨#[]⟩), .v (.string ⟨#[]⟩), .v (.string ⟨#[]⟩), .v (.string ⟨#[]⟩), .v (.bool false), .v (.slice none 0 0), .v (.string ⟨#[]⟩), .v (.string ⟨#[]⟩), .v (.int .i64 mn), .v (.int .i64 mx), .list 13 [enc y]]) H:=by
   intro mn mx y H hm hy
   refine Bn [] [y] (.nil _) (by simp) ?_
   refine⟨⟨?_,qjr hdn Xk rfl hy.1.2⟩,qjL (by show ¬ (6:Int)=1;decide) rfl hy.2⟩
   show WP lb deep.toNat _
   rw[hdn]
   exact .inr (.inr ⟨rfl,rfl,rfl,rfl,hm,y,rfl,hy.1.1⟩)
  simp only[Po]at fin
  simp[h1,h4]
  intro y hy0 hy1
  refine⟨hy0,hy1,fun d hd=>?_⟩
  have:y=0\/y=1\/y=2\/y=3\/y=4\/y=5\/y=6:=by omega
  rcases this with rfl|rfl|rfl|rfl|rfl|rfl|rfl
  all_goals (simp at hd;subst hd;simp[h4])
  all_goals exact⟨by simp only[InR];omega,hrec,fun y hy=>fin _ _ y _ (by simp[Vl]) hy⟩
end Go.Gv

namespace Go.Gv
open Go.Proofs
theorem KD{f:Pat->Bool}(p:Pat)(h:eW f p=true):ll (fun q=>f q=true) p:=by
 induction p using fL with|_ p ih=>?_
 rw[eI,qxH,qxF]at h
 exact qfJ h.1 fun k hk=>ih k hk (h.2 k hk)
theorem YS(p:Pat):ll uv p->∀q∈rD p,q.op=1->q∈aM p:=by
 induction p using fL with|_ p ih=>?_
 intro hN q hq h1
 have hp:=jY hN
 rw[cW]
 cases p with
 | mk op cond lab reg mn mx ks=>
   rw[rD]at hq
   rcases qxD.1 hq with rfl|hq
   ·rw[if_pos h1];simp
   ·obtain⟨k,hk,hq⟩:=uN hq
    split
    ·rename_i e
     rcases hp with h|h|h|h
     ·have:=h.2.2.2.2;simp only at this;rw[this]at hk;cases hk
     ·have:=h.1;simp only at this e;omega
     ·have:=h.1;simp only at this e;omega
     ·have:=h.1;simp only at this e;omega
    ·exact qyE.2 ⟨k,hk,ih k hk (qM hN hk) q hq h1⟩
def qfb:Prop:=aZ qrI=true/\aZ qg8=true/\aZ qrH=true/\aZ qkM=true/\aZ qlU=true
theorem wu{b:B}(h:(decide (1<=b.size) && decide (b.size<=32) && (b.data.toList.all fun c=>A6 c.toNat))=true):aZ b=true:=by
 simp only[qxH,decide_eq_true_eq,qxF]at h
 have hm:∀ (k:Nat) (c:UInt8),b.data[k]? =some c->A6 c.toNat=true:=fun k c hc=>h.2 c (by rw[<-qx6]at hc;exact qxC hc)
 rw[xe]
 exact⟨h.1.1,h.1.2,hm 0,fun k c hc=>by unfold ZC;rw[hm k c hc];rfl⟩
theorem qiM:qfb:=⟨wu (by decide),wu (by decide),wu (by decide),wu (by decide),wu (by decide)⟩
theorem OY{lb:List B} :∀ {n:Nat} {c:Cond},GI lb n c->HW (n+1) c
 | n,_, .atom _ c h=>⟨by rw[EL h];decide,fun k hk=>by rw[EL h]at hk;cases hk⟩
 | _,_, .not n k h=>⟨qxy rfl,fun z hz=>by rw[qzc]at hz;subst hz;exact OY h⟩
 | _,_, .two n op a b _ h1 h2=>⟨qxy rfl,fun z hz=>by
    simp only[qxD,qxY,or_false]at hz
    rcases hz with rfl|rfl
    ·exact OY h1
    ·exact OY h2⟩
theorem qjG{lb:List B}{n:Nat}{c:Cond}(h:GC lb n c):∃m,HW m c:=by
 cases h with
 | any=>exact⟨1,by decide,fun k hk=>by cases hk⟩
 | top v f h=>exact⟨1,qxy rfl,fun k hk=>by cases hk⟩
 | inner c h=>exact⟨_,OY h⟩
structure qij (c:Corpus):Prop where
 ok:OkCorp c
 few:c.toks.length<=60
end Go.Gv

namespace Go.Gv
end Go.Gv

namespace Go.Gv
open Go.Proofs
end Go.Gv

namespace Go.Gv
open Go.Proofs
open Cod (enc dec)
variable {S S0:Nat->Spc}
end Go.Gv

namespace Go.Gv
open Go.Proofs
theorem Et:ak Tryz.prog fZ [2006006] oJ nq 103:=fo
end Go.Gv

namespace Go.Gv
open Go.Proofs Cod
theorem EZ:Tri Tryz.prog qV (wC).pt:=
 ae (ag (aa Oh ac)) M1 (fun _=>qxy rfl) (XZ rfl)
theorem yZ:∀n,Tri Tryz.prog jH (Jn n).pt
 | 0=>dj fun x h=>by have:=h.1;omega
 | n+1=>ae (ag (aa cU (aa EZ (aa (yZ n) ac)))) HR (fun _=>qxy rfl) (Tz n rfl rfl rfl)
theorem K4:Tri Tryz.prog jH (G1).pt:=iD (fun n=>yZ n) (lK (fun x h=>h))
theorem Mr:Tri Tryz.prog vN (ML).pt:=
 ae (ag (aa cU (aa K4 ac))) J0 (fun _=>qxy rfl) (X0 rfl rfl)
theorem wU:∀n,Tri Tryz.prog fZ (D4 n).pt
 | 0=>dj fun x h=>by have:=h.1;omega
 | n+1=>ae (ag (aa cU (aa EZ (aa Mr (aa (wU n) ac))))) Et (fun _=>qxy rfl) (NZ n rfl rfl rfl rfl)
end Go.Gv

namespace Go.Gv
open Go.Proofs
def WB(w:Int×Int)(d:Int):Prop:=0<=d/\w.1<=d/\(w.2= -1\/d<=w.2\/10000 < d)
theorem qiq{a b:Int×Int}{d e:Int}(ha:WB a d)(hb:WB b e):WB (Iy true a b) (d+e):=by
 unfold WB Iy at*
 rw[if_pos rfl]
 refine⟨by omega,by simp only;omega,?_⟩
 simp only
 split <;> omega
theorem qeL{a b:Int×Int}{d:Int}(ha:WB a d):WB (Iy false a b) d:=by
 unfold WB Iy at*
 rw[if_neg (by decide)]
 refine⟨by omega,by simp only;omega,?_⟩
 simp only
 split <;> omega
theorem qeK{a b:Int×Int}{d:Int}(ha:WB b d):WB (Iy false a b) d:=by
 unfold WB Iy at*
 rw[if_neg (by decide)]
 refine⟨by omega,by simp only;omega,?_⟩
 simp only
 split <;> omega
theorem NK{d:Int} :∀ (ks:List Pat) (w:Int×Int),WB w d->WB (jh false ks w) d
 | [],w,h=>by rw[jh];exact h
 | k::ks,w,h=>by rw[jh];exact NK ks _ (qeL h)
def WD(r:Rn)(p:Pat):Prop:=∀s t,lJ r p s t->WB (gx p) (t.p -s.p)
theorem VB{r:Rn} :∀ (ks:List Pat) (w:Int×Int) (d:Int) (s t:St3),(∀k∈ks,WD r k)->WB w d->uF r ks s t->WB (jh true ks w) (d+ (t.p -s.p))
 | [],w,d,s,t,_,h,hD=>by
   rw[tP]at hD
   rw[jh,hD,Int.sub_self,Int.add_zero]
   exact h
 | k::ks,w,d,s,t,hk,h,hD=>by
   rw[pU]at hD
   obtain⟨u,a,b⟩:=hD
   rw[jh]
   have:=VB ks _ _ u t (fun k h=>hk k (by simp[h])) (qiq h (hk k (by simp) s u a)) b
   rw[show d+ (t.p -s.p)=d+ (u.p -s.p) + (t.p -u.p) by omega]
   exact this
theorem VC{r:Rn} :∀ (ks:List Pat) (w:Int×Int) (s t:St3),(∀k∈ks,WD r k)->uG r ks s t->WB (jh false ks w) (t.p -s.p)
 | [],w,s,t,_,hD=>by rw[ET]at hD;exact hD.elim
 | k::ks,w,s,t,hk,hD=>by
   rw[sO]at hD
   rw[jh]
   rcases hD with h|h
   ·exact NK ks _ (qeK (hk k (by simp) s t h))
   ·exact VC ks _ s t (fun k h=>hk k (by simp[h])) h
theorem Tt{R:St3->St3->Prop}{w:Int×Int}(h:∀s t,R s t->WB w (t.p -s.p)):∀ (n:Nat) (s t:St3),Pow R n s t->0<=t.p -s.p/\w.1*n<=t.p -s.p/\(w.2= -1\/t.p -s.p<=w.2*n\/10000 < t.p -s.p)
 | 0,s,t,hp=>by
   have hp:s=t:=hp
   subst hp
   simp
 | n+1,s,t,⟨u,a,b⟩=>by
   have h1:=h s u a
   have h2:=Tt h n u t b
   unfold WB at h1
   rw[show((n+1:Nat):Int)=(n:Int) +1 by omega,Int.mul_add,Int.mul_add]
   omega
theorem qgO{r:Rn}{v:B->Bool}(p:Pat):kP v p=true->WD r p:=by
 induction p using fL with|_ p ih=>?_
 intro h s t hD
 obtain⟨h1,_,hn⟩:=sJ h
 unfold uB at hn
 rw[decide_eq_true_eq]at hn
 rcases F4 h1 with⟨ho,_⟩|⟨ho,_⟩|⟨ho,k,ks,hk⟩|⟨ho,k,hk⟩
 ·rw[Z7 ho]
  have hp:=((qdk ho s t).1 hD).2.2
  have:t.p=s.p+1:=by
   rw[hp]
   unfold Ez
   dsimp only
   split
   ·rfl
   ·generalize (fW r.lb fun z=>decide (z=p.lab)).toNat=i
    rcases i with _|_|i <;> rfl
  unfold WB
  simp only
  omega
 ·rw[Z6 ho,((KQ ho s t).1 hD).2]
  unfold WB
  simp only
  omega
 ·rw[Z5 ho hk]
  have hkk:∀x∈p.kids,WD r x:=fun x hx=>ih x hx (qL h hx)
  rcases ho with ho|ho
  ·rw[qh3 ho,hk,pU]at hD
   obtain⟨u,a,b⟩:=hD
   rw[show decide (p.op=4)=true from decide_eq_true ho,show t.p -s.p=(u.p -s.p) + (t.p -u.p) by omega]
   exact VB ks _ _ u t (fun x hx=>hkk x (by rw[hk];simp[hx])) (hkk k (by rw[hk];simp) s u a) b
  ·rw[qh2 ho,hk,sO]at hD
   rw[show decide (p.op=4)=false from decide_eq_false (by omega)]
   rcases hD with a|a
   ·exact NK ks _ (hkk k (by rw[hk];simp) s t a)
   ·exact VC ks _ s t (fun x hx=>hkk x (by rw[hk];simp[hx])) a
 ·rw[Z4 ho hk]
  have hw:=ih k (by rw[hk];simp) (qL h (by rw[hk];simp))
  have hn:=hn ho
  rw[qdj ho hk]at hD
  obtain⟨u,a,n,hm,b⟩:=hD
  have ok:=NJ k (qL h (by rw[hk];simp))
  have a1:=Tt hw _ s u a
  have b1:=Tt (fun s t q=>hw s t q.1) n u t b
  rw[Int.toNat_of_nonneg hn.1]at a1
  unfold rb at ok
  generalize gx k=w at*
  have e1:0<=w.1*n:=qzj ok.1 (by omega)
  refine⟨by omega,by simp only;omega,?_⟩
  simp only
  split
  ·rename_i h0
   rcases h0 with h0|h0
   ·have h2:p.mn=0:=by omega
    have h3:n=0:=by omega
    subst h3
    rw[h2]at a
    have a:s=u:=a
    have b:u=t:=b
    subst a;subst b
    omega
   ·rw[h0,Int.zero_mul]at a1 b1
    omega
  ·split
   ·exact .inl rfl
   ·rename_i h0 h2
    have h3:p.mn+n<=p.mx:=by omega
    have h4:w.2* (p.mn+n)<=w.2*p.mx:=Int.mul_le_mul_of_nonneg_left h3 (by omega)
    rw[Int.mul_add]at h4
    omega
end Go.Gv

namespace Go.Gv
open Go.Proofs
end Go.Gv

namespace Go.Gv
open Go.Proofs
end Go.Gv

namespace Go.Gv
open Go.Proofs
open Cod (enc dec)
variable {S S0:Nat->Spc}
def ZZ:oW:=⟨⟨#[]⟩,0,0, []⟩
def qlg(c:Corpus)(i:Int):oW×Bool:=match LW c i with
 | some t=>(t,true)
 | none=>(ZZ,false)
theorem R9{α:Type}{p:α->Bool} :∀ {l:List α} {k:Nat} {x:α},l[k]? =some x->p x=true->(∀y∈l.take k,p y=false)->l.find? p=some x
 | [],k,x,h,_,_=>by simp at h
 | a::l,0,x,h,h1,_=>by simp at h;subst h;simp[h1]
 | a::l,k+1,x,h,h1,h2=>by
   have ha:p a=false:=h2 a (by simp)
   rw[List.find?_cons_of_neg (by simp[ha])]
   exact R9 (k:=k) (by simpa using h) h1 fun y hy=>h2 y (by simp[hy])
abbrev s_rTextOf:Spc:=aI (a2 Corpus Int) (fun _=>True) (qW (Y:=oW) (Z:=Bool)) fun x y=>y=qlg x.1 x.2
theorem XV:aq vU vn S (a2 Corpus Int) (fun _=>True) (qW (Y:=oW) (Z:=Bool)) fun x y=>y=qlg x.1 x.2:=by
 rintro⟨c,p⟩ -
 simp[vU,vn]
 intro b hlen
 refine ai (X:=Unit) [1,4,9] [4] c.texts.length (fun k _=>∀y∈c.texts.take k,(decide (y.b<=p) && decide (p < y.e))=false) (fun _=>[]) (fun _=>[]) () (by simp) (by simp) (by omega) (by simp) (by simp) (by simp) (by simp) (by simp) ?_ ?_
 ·intro k _ hk hP
  replace hP:∀y∈c.texts.take k,(decide (y.b<=p) && decide (p < y.e))=false:=hP
  obtain⟨t,ht⟩:=bJ hk
  obtain⟨_,hgt⟩:=qxz.1 ht
  simp[ht,hk,hgt]
  refine⟨fun h1=>⟨fun h2=>?_,fun h2=>?_⟩,fun h1=>?_⟩
  ·refine⟨t, .same _,?_⟩
   simp[qlg,LW,R9 (p:=fun t:oW=>decide (t.b<=p) && decide (p < t.e)) ht (by simp;omega) hP]
  all_goals
   intro y hy
   rw[bc ht]at hy
   rcases qxE.1 hy with hy|hy
   ·have:=hP y hy
    simpa using this
   ·simp at hy;subst hy;omega
 ·intro _ hP
  rw[qx1]at hP
  simp
  refine⟨ZZ,?_,?_⟩
  ·rw[bE,bE,bE,bE]
   exact⟨.same _, .same _, .same _, .nil _, .same _⟩
  ·simp only[qlg,LW]
   rw[qzM.2 (fun y hy=>by simp[hP y hy])]
end Go.Gv

namespace Go.Gv
open Go.Proofs Cod
theorem BV:∀n,Tri Tryz.prog lr (VM n).pt
 | 0=>dj fun x h=>qju h.1
 | n+1=>ae (ag (aa (BV n) ac)) JR (fun _=>qxy rfl) (LA n rfl)
theorem LS:Tri Tryz.prog lr (QQ).pt:=
 iD (fun n=>BV n) (lK (fun x h=>⟨eD x,qxI _,h⟩))
theorem LU:Tri Tryz.prog vM (Wi).pt:=
 ae (ag (aa BR (aa LS ac))) JX (fun _=>qxy rfl) (LI rfl rfl)
theorem N5:Tri Tryz.prog ya s_rTextOf.pt:=
 ae (ag ac) L2 (fun _=>qxy rfl) XV
end Go.Gv

namespace Go.Gv
variable {S S0:Nat->Spc}
mutual
def lX:Glob->Nat| .mk _ _ _ _ _ _ _ _ _ _ ks=>mN ks+1
def mN:List Glob->Nat|[]=>0|k::ks=>max (lX k) (mN ks)
end
theorem Gc:∀ {ks:List Glob} {k:Glob},k∈ks->lX k<=mN ks
 | x::ks,k,h=>by
   rw[mN]
   rcases qxD.1 h with rfl|h
   ·omega
   ·have:=Gc h;omega
theorem R3{p k:Glob}(h:k∈p.kids):lX k < lX p:=by
 have:=Gc h
 cases p
 rw[lX]
 simp only at this
 omega
mutual
def CT:Glob->Nat| .mk _ _ _ _ _ _ _ _ _ _ ks=>mK ks+1
def mK:List Glob->Nat|[]=>0|k::ks=>CT k+mK ks
end
theorem Ww(x:Glob):CT x=mK x.kids+1:=by cases x;rw[CT]
theorem It(x:Glob):lX x=mN x.kids+1:=by cases x;rw[lX]
theorem F3:∀ (a b:List Glob),mK (a++b)=mK a+mK b
 | [],b=>by rw[qyq,mK];omega
 | k::a,b=>by rw[qyf,mK,mK,F3 a b];omega
theorem Nh:∀ (a b:List Glob),mN (a++b)=max (mN a) (mN b)
 | [],b=>by rw[qyq,mN];omega
 | k::a,b=>by rw[qyf,mN,mN,Nh a b];omega
theorem YP{ks:List Glob}{k:Nat}{x:Glob}(h:ks[k]? =some x):mK (ks.take (k+1))=mK (ks.take k) +CT x/\mN (ks.take (k+1))=max (mN (ks.take k)) (lX x)/\mK (ks.take (k+1))<=mK ks:=by
 have e:=bc h
 refine⟨by rw[e,F3,mK,mK];omega,by rw[e,Nh,mN,mN];omega,?_⟩
 conv=>rhs;rw[<-qyc (k+1) ks,F3]
 omega
theorem qj5{lb:List B}{n:Nat}{g:Glob}(h:GG lb n g):CT g < 2^ (n+1)/\lX g<=n+1:=by
 induction h with
 | not n k h ih=>rw[CT,lX,Nat.pow_succ];simp only[mK,mN];omega
 | two n op a b ho h1 h2 ih1 ih2=>rw[CT,lX,Nat.pow_succ];simp only[mK,mN];omega
 | bound n|val n|same n|dist n|reg n|head n|path n|node n|depth n=>have:=Nat.one_le_two_pow (n:=n);rw[CT,lX,Nat.pow_succ];simp only[mK,mN];omega
theorem qcK{lb:List B}{n:Nat}{g k:Glob}(h:GG lb n g)(hk:k∈g.kids):∃m,m<=n/\GG lb m k:=by
 cases h with
 | not n k' h=>
   simp at hk
   subst hk
   exact⟨n,by omega,h⟩
 | two n op a b ho h1 h2=>
   simp at hk
   rcases hk with rfl|rfl
   ·exact⟨n,by omega,h1⟩
   ·exact⟨n,by omega,h2⟩
 | _=>cases hk
end Go.Gv

namespace Go.Gv
open Go.Proofs
def pY:CC:=gq Tryz.f127 [3] {} _
def pj:List aj:=[.tmp 6, .tmp 7]
theorem FQ:ak Tryz.prog il [3] pY pj 40:=fo
def bD:CC:=gq Tryz.f129 [1,2029005,2028005,2027005,2026005,2037005,2036005,2045005,2044005,2068005,2067005,2066005] {} _
def bC:List aj:=[.tmp 2]
theorem Mc:ak Tryz.prog dN [1,2029005,2028005,2027005,2026005,2037005,2036005,2045005,2044005,2068005,2067005,2066005] bD bC 155:=fo
def ud:CC:=gq Tryz.f128 [3,2] {} _
def ti:List aj:=[.tmp 4]
theorem JW:ak Tryz.prog lu [3,2] ud ti 15:=fo
def qb:CC:=gq Tryz.f177 [2] {} _
def pn:List aj:=[.tmp 3]
theorem FS:ak Tryz.prog fb [2] qb pn 8:=fo
def cT:CC:=gq Tryz.f176 [] {} _
def cR:List aj:=[.tmp 4]
theorem mR:ak Tryz.prog cX [] cT cR 9:=fo
def dG:CC:=gq Tryz.f225 [] {} _
def dy:List aj:=[.tmp 4]
theorem pD:ak Tryz.prog dV [] dG dy 19:=fo
def jM:CC:=gq Tryz.f179 [] {} _
def jm:List aj:=[.tmp 2]
theorem Ah:ak Tryz.prog ew [] jM jm 10:=fo
def dZ:CC:=gq Tryz.f178 [] {} _
def dQ:List aj:=[.tmp 4]
theorem qO:ak Tryz.prog ep [] dZ dQ 9:=fo
def eQ:CC:=gq Tryz.f226 [] {} _
def eM:List aj:=[.tmp 4]
theorem tv:ak Tryz.prog eV [] eQ eM 19:=fo
end Go.Gv
