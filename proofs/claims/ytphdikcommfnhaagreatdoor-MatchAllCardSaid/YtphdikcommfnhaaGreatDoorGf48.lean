/- A part of the framework and of the walks: W80 V68 V69 C72 W200 C73 Asm25 V70 V71 C74 W201 Asm26 V72 C76 W202. -/
import Derived.Test.YtphdikcommfnhaaGreatDoorGf47
import Derived.Test.YtphdikcommfnhaaGreatDoorGf37
import Derived.Test.YtphdikcommfnhaaGreatDoorGf46
import Derived.Test.YtphdikcommfnhaaGreatDoorGf38
import Derived.Test.YtphdikcommfnhaaGreatDoorGf20
import Derived.Test.YtphdikcommfnhaaGreatDoorGf24
import Derived.Test.YtphdikcommfnhaaGreatDoorGf25
import Derived.Test.YtphdikcommfnhaaGreatDoorGf44
import Derived.Test.YtphdikcommfnhaaGreatDoorGf29
import Derived.Test.YtphdikcommfnhaaGreatDoorGf36
import Derived.Test.YtphdikcommfnhaaGreatDoorGf45
import Derived.Test.YtphdikcommfnhaaGreatDoorGf43
set_option linter.unusedSimpArgs false
set_option linter.unusedVariables false
set_option linter.unusedSectionVars false
set_option maxRecDepth 100000
set_option maxHeartbeats 0

namespace Go.Gv
open Cod (enc dec)
variable {S S0:Nat->Spc}
def U2(x:List Int×Int×List B)(y:Cond):Prop:=GI x.2.2 x.2.1.toNat y
abbrev I0(n:Nat):Spc:=aJ (aT (a2 Int (List B))) (Nk n) (enc (X:=Cond)) U2
theorem qwI{i:Nat}{a:B}(h:[(⟨#[119,111,114,100]⟩:B),⟨#[119,111,114,100]⟩,⟨#[116,97,103]⟩][i]? =some a):a∈Attr2:=by
 have:=bh h
 simpa [Attr2,II,ZX]using this
theorem qgs{i:Nat}{a:B}(h:[(⟨#[119,111,114,100]⟩:B),⟨#[116,97,103]⟩][i]? =some a):a∈Attr2:=bh h
theorem qui{i:Nat}{a:B}(h:[(⟨#[112]⟩:B),⟨#[113]⟩][i]? =some a):a∈FeatL:=bh h
theorem quh{i:Nat}{a:B}(h:[(⟨#[49]⟩:B),⟨#[50]⟩][i]? =some a):a∈NumL:=bh h
theorem qvX{i:Nat}{a:B}(h:[(⟨#[97]⟩:B),⟨#[98]⟩,⟨#[97,46,42]⟩,⟨#[91,97,98,93]⟩][i]? =some a):a∈ValsT:=bh h
theorem qwH{i:Nat}{a:B}(h:[(⟨#[97]⟩:B),⟨#[98]⟩,⟨#[97,46,42]⟩,⟨#[91,97,98,93]⟩,⟨#[88]⟩,⟨#[]⟩,⟨#[99,63]⟩,⟨#[97,124,98]⟩][i]? =some a):a∈ValsI:=by
 have:=bh h
 simp only[ValsI,qwT,qxe,or_false]at this ⊢
 rcases this with h|h|h|h|h|h|h|h <;> simp[h]
theorem Ti(n:Nat)(h1:S bX=s_m_Next)(h2:S qL=we)(h3:S jC=I0 n):aq rI rc S (aT (a2 Int (List B))) (Nk (n+1)) (enc (X:=Cond)) U2:=by
 rintro⟨L,deep,lb⟩ ⟨hn,hd0,hd1,hlb⟩
 simp only at hn hd0 hd1 hlb
 simp[rI,rc,h1]
 intro b6 k0 hk0 hk1
 refine aS (X:=Int) [0,1,2,6] [6] (fun k=>0<=k/\k < 12/\(deep < 1->k < 8)) (fun k=>[(7,enc k)]) (fun _=>[]) ?_ ?_
 ·simp
  have:k0.tmod 8=k0 % 8:=Int.tmod_eq_emod_of_nonneg hk0
  rw[this]
  omega
 rintro k ⟨q0,q1,q2⟩
 refine aS (X:=Unit) [0,1,2,6,7] [6] (fun _=>10<=k) (fun _=>[]) (fun _=>[]) ?_ ?_
 ·simp
  refine aS (X:=Bool) [0,1,2,6,7,15] [6] (fun b=>b=decide (k < 4)) (fun b=>[(16,enc b)]) (fun _=>[]) ?_ ?_
  ·simp
   repeat' first|apply And.intro|intro _
   all_goals first|omega|(rw[qxx];simp;omega)
  rintro b hb
  simp[h1,Mj,Qk,qlP,qgQ,kX,qi, -Bool.forall_bool]
  refine⟨fun _ y hy0 hy1=>⟨hy0,hy1,fun a ha y hy0 hy1=>⟨hy0,hy1,fun a' ha' y hy0 hy1=>fm [] (.nil _) (.atom _ _ (.val a a' _ (qwI ha) (qwH ha')))⟩⟩,fun hb0=>?_⟩
  rw[hb0]at hb
  have hb:4<=k:=by simpa using hb.symm
  refine⟨fun _ y hy0 hy1=>⟨hy0,hy1,fun a ha=>fm [] (.nil _) (.atom _ _ (.feat a (qui ha)))⟩,fun k4=>⟨fun _ _=>⟨fun hl y hy0 hy1=>⟨hy0,hy1,fun a ha _=>⟨by omega,fun y hy=>⟨by omega,by omega,fun a' ha' y hy0 hy1=>⟨hy0,hy1,fun a'' ha''=>fm [] (.nil _) (.atom _ _ (.same a a' a'' (qgs ha) (bh ha') (qgs ha'')))⟩⟩⟩⟩,fun _=>fm [] (.nil _) (.atom _ _ (.val ZX _ false (by simp[Attr2]) (by simp[ValsI])))⟩,fun k5=>?_⟩⟩
  refine aS (X:=Bool) [0,1,2,6,7,15] [6] (fun b=>b=decide (k=6\/k=7)) (fun b=>[(67,enc b)]) (fun _=>[]) ?_ ?_
  ·simp
   repeat' first|apply And.intro|intro _
   all_goals first|omega|(rw[qxx];simp;omega)
  rintro b hb2
  simp[h1,h2, -Bool.forall_bool]
  refine⟨fun _ y hy0 hy1=>⟨trivial,fun t ht b8=>?_⟩,fun hb0=>?_⟩
  ·refine aS (X:=B×B) [6,8] [6] (fun x=>(x.1=E0/\x.2=E0)\/(x.1=qos/\x.2∈NumL)) (fun _=>[]) (fun x=>[(8, .box b8 [.v (.int .i64 5), .v (.string t), .v (.string x.1), .v (.string x.2), .v (.string ⟨#[]⟩), .v (.bool false), .v (.slice none 0 0)])]) ?_ ?_
   ·simp[h1,Mj,kX,qi]
    refine fun y hy0 hy1=>⟨fun _ z hz0 hz1=>⟨hz0,hz1,fun a ha=>⟨qos,a, .inr ⟨rfl,quh ha⟩, .inl ⟨rfl,rfl⟩⟩⟩,fun _=>⟨E0,E0, .inl ⟨rfl,rfl⟩, .inl ⟨rfl,rfl⟩⟩⟩
   ·rintro⟨a,v⟩ hav
    simp
    refine fm [] (.nil _) (.atom _ _ ?_)
    rcases hav with⟨rfl,rfl⟩|⟨rfl,hv⟩
    ·exact .reg t ht
    ·exact .regk t v ht hv
  rw[hb0]at hb2
  have hb2:¬ (k=6\/k=7):=by simpa using hb2.symm
  refine aS (X:=Bool) [0,1,2,6,7,15] [6] (fun b=>b=decide (k=8\/k=9)) (fun b=>[(85,enc b)]) (fun _=>[]) ?_ ?_
  ·simp
   repeat' first|apply And.intro|intro _
   all_goals first|omega|(rw[qxx];simp;omega)
  rintro b hb3
  simp[h3, -Bool.forall_bool]
  have hrec:1<=deep->Nk n (L,deep -1,lb):=fun h=>⟨by show(deep -1).toNat < n;omega,by show -10<=deep -1;omega,by show deep -1<=100;omega,hlb⟩
  refine⟨fun hb1=>?_,fun hb0=>?_⟩
  ·rw[hb1]at hb3
   have hb3:k=8\/k=9:=by simpa using hb3.symm
   have hdn:deep.toNat=(deep -1).toNat+1:=by omega
   refine⟨by simp only[InR];omega,hrec (by omega),fun y hy=>fm [y] (by simp) (by show GI lb deep.toNat _;rw[hdn];exact .not _ _ hy)⟩
  rw[hb0]at hb3
  have hb3:¬ (k=8\/k=9):=by simpa using hb3.symm
  omega
 ·rintro -hk
  have hrec:Nk n (L,deep -1,lb):=⟨by show(deep -1).toNat < n;omega,by show -10<=deep -1;omega,by show deep -1<=100;omega,hlb⟩
  have hdn:deep.toNat=(deep -1).toNat+1:=by omega
  simp[h3]
  refine⟨by simp only[InR];omega,by simp only[InR];omega,by simp only[InR];omega,hrec,fun y hy=>⟨by simp only[InR];omega,hrec,fun y' hy'=>fm [y,y'] (by simp) (by show GI lb deep.toNat _;rw[hdn];exact .two _ _ _ _ (by omega) hy hy')⟩⟩
def qht(x:List Int×Int×List B)(y:Cond):Prop:=GC x.2.2 x.2.1.toNat y
abbrev Mr:Spc:=aJ (aT (a2 Int (List B))) (fun x=> -10<=x.2.1/\x.2.1<=100/\x.2.2.length<=1000) (enc (X:=Cond)) qht
abbrev GD:Spc:=aJ (aT (a2 Int (List B))) (fun x=>∃n,Nk n x) (enc (X:=Cond)) U2
theorem Xw(h1:S bX=s_m_Next)(h3:S jC=GD):aq tQ sW S (aT (a2 Int (List B))) (fun x=> -10<=x.2.1/\x.2.1<=100/\x.2.2.length<=1000) (enc (X:=Cond)) qht:=by
 rintro⟨L,deep,lb⟩ ⟨hd0,hd1,hlb⟩
 simp only at hd0 hd1 hlb
 simp[tQ,sW,h1]
 intro b6
 refine aS (X:=Unit) [0,1,2,6] [6] (fun _=>True) (fun _=>[]) (fun _=>[]) ?_ ?_
 ·simp[h1,qgQ,kX,qi, -Bool.forall_bool]
  exact fun y _ _=>⟨fun _=>fm [] (.nil _) .any,fun _=>⟨fun _ z z0 z1=>⟨z0,z1,fun a ha u _ _=>fm [] (.nil _) (.top a _ (qvX ha))⟩,fun _ _ z z0 z1=>⟨z0,z1,fun a ha u _ _=>fm [] (.nil _) (.top a _ (qvX ha))⟩⟩⟩
 ·rintro - -
  have hrec:∃n,Nk n (L,deep,lb):=⟨deep.toNat+1,Nat.lt_succ_self _,hd0,hd1,hlb⟩
  simp[h3,hrec]
  exact fun y hy=>fm y.kids (.same _) (by show GC lb deep.toNat _;rw[Ez y];exact .inner _ hy)
theorem qi5{p:Pat}{C:Pat->Prop}(h1:¬p.op=1)(h2:p.kids=[]):∀y∈aM p,C y:=by
 rw[cU,if_neg h1,h2]
 simp
theorem qi3{p:Pat}{C:Pat->Prop}(h1:p.op=1)(h:C p):∀y∈aM p,C y:=by
 rw[cU,if_pos h1]
 simpa using h
theorem qi4{p a:Pat}{C:Pat->Prop}(h1:¬p.op=1)(h2:p.kids=[a])(ha:∀y∈aM a,C y):∀y∈aM p,C y:=by
 rw[cU,if_neg h1,h2]
 simpa using ha
theorem qbF{p a b:Pat}{C:Pat->Prop}(h1:¬p.op=1)(h2:p.kids=[a,b])(ha:∀y∈aM a,C y)(hb:∀y∈aM b,C y):∀y∈aM p,C y:=by
 rw[cU,if_neg h1,h2]
 simp only[qxt,List.flatMap_nil,qxY]
 intro y hy
 rcases qwU.1 hy with hy|hy
 ·exact ha y hy
 ·exact hb y hy
def KW(x:List Int×Int×List B)(p:Pat):Prop:=qnT x p/\∀y∈aM p,GC x.2.2 1 y.cond
abbrev DO(n:Nat):Spc:=aJ (aT (a2 Int (List B))) (Xc n) (enc (X:=Pat)) KW
theorem NF(n:Nat)(h1:S bX=s_m_Next)(h2:S qL=we)(h3:S vt=Mr)(h4:S fW=DO n):aq om nf S (aT (a2 Int (List B))) (Xc (n+1)) (enc (X:=Pat)) KW:=by
 rintro⟨L,deep,lb⟩ ⟨hn,hd0,hd1,hlb⟩
 simp only at hn hd0 hd1 hlb
 simp[om,nf,h1]
 intro b6 k0 hk0 hk1
 refine aS (X:=Int) [0,1,2,6] [6] (fun k=>0<=k/\k < 14/\(deep < 1->k < 7)) (fun k=>[(7,enc k)]) (fun _=>[]) ?_ ?_
 ·simp
  have:k0.tmod 7=k0 % 7:=Int.tmod_eq_emod_of_nonneg hk0
  rw[this]
  omega
 rintro k ⟨q0,q1,q2⟩
 refine aS (X:=Unit) [0,1,2,6] [6] (fun _=>12<=k) (fun _=>[]) (fun _=>[]) ?_ ?_
 ·have hrec:1<=deep->Xc n (L,deep -1,lb):=fun h=>⟨by show(deep -1).toNat < n;omega,by show -10<=deep -1;omega,by show deep -1<=100;omega,hlb⟩
  have hdn:1<=deep->deep.toNat=(deep -1).toNat+1:=fun h=>by omega
  simp[h1,h2,h3,h4, -Bool.forall_bool]
  refine⟨fun hk=>⟨hlb,fun c hc b8=>?_⟩,fun hk=>⟨fun hk7=>⟨by simp only[InR];omega,by simp only[InR];omega,fun y _ _=>⟨trivial,fun t ht=>A9 [] [] (.nil _) (.nil _) ⟨⟨qrl (.inr ⟨by show(2+k -5=2\/2+k -5=3);omega,rfl,rfl,ht,rfl,rfl,rfl⟩),qbb WG rfl⟩,qi5 (by show ¬2+k -5=1;omega) rfl⟩⟩⟩,fun hk7=>⟨fun hk10=>⟨by simp only[InR];omega,hrec (by omega),fun y hy=>⟨by simp only[InR];omega,hrec (by omega),fun y' hy'=>?_⟩⟩,fun hk10 hk12=>⟨by simp only[InR];omega,hrec (by omega),fun y hy=>⟨by simp only[InR];omega,hrec (by omega),fun y' hy'=>?_⟩⟩⟩⟩⟩
  ·refine aS (X:=B) [6,8] [6] (fun x=>x=⟨#[]⟩\/x∈lb) (fun _=>[]) (fun x=>[(8, .box b8 [.v (.int .i64 1), .v (.int .i64 c.op), .v (.string c.name), .v (.string c.arg), .v (.string c.val), .v (.string c.lab), .v (.bool c.fold),enc c.kids, .v (.string x), .v (.string ⟨#[]⟩), .v (.int .i64 0), .v (.int .i64 0), .v (.slice none 0 0)])]) ?_ ?_
   ·simp[h1]
    exact fun _ h0 y _ _ _ _=>⟨by omega,fun z hz=>⟨by omega,by omega,fun a ha=> .inr ⟨a,bh ha, .inl rfl⟩⟩⟩
   ·rintro x hx
    simp
    exact A9 c.kids [] (.same _) (.nil _) ⟨⟨qrl (.inl ⟨rfl,hx,rfl,rfl,rfl,rfl⟩),qbb ⟨_,qf9 (d:=c) rfl (qmT hc)⟩ rfl⟩,qi3 rfl (by show GC lb 1 _;rw[Ez c];exact hc)⟩
  ·refine A9 [] [y,y'] (.nil _) (by simp) ?_
   refine⟨⟨?_,qba (hdn (by omega)) WG rfl hy.1.2 hy'.1.2⟩,qbF (by show ¬ (4:Int)=1;decide) rfl hy.2 hy'.2⟩
   show WP lb deep.toNat _
   rw[hdn (by omega)]
   exact .inr (.inl ⟨.inl rfl,rfl,rfl,rfl,rfl,rfl,y,y',rfl,hy.1.1,hy'.1.1⟩)
  ·refine A9 [] [y,y'] (.nil _) (by simp) ?_
   refine⟨⟨?_,qba (hdn (by omega)) WG rfl hy.1.2 hy'.1.2⟩,qbF (by show ¬ (5:Int)=1;decide) rfl hy.2 hy'.2⟩
   show WP lb deep.toNat _
   rw[hdn (by omega)]
   exact .inr (.inl ⟨.inr rfl,rfl,rfl,rfl,rfl,rfl,y,y',rfl,hy.1.1,hy'.1.1⟩)
 ·rintro -hk
  have hrec:Xc n (L,deep -1,lb):=⟨by show(deep -1).toNat < n;omega,by show -10<=deep -1;omega,by show deep -1<=100;omega,hlb⟩
  have hdn:deep.toNat=(deep -1).toNat+1:=by omega
  have fin:∀ (mn mx:Int) (y:Pat) (H:ab),(mn,mx) ∈U0->KW (L,deep -1,lb) y->Fin enc (KW (L,deep,lb)) (.agg [.v (.int .i64 6), .v (.int .i64 0), .v (.string ⟨#[]⟩), .v (.string ⟨#[]⟩), .v (.string ⟨#[]⟩), .v (.string ⟨#[]⟩), .v (.bool false), .v (.slice none 0 0), .v (.string ⟨#[]⟩), .v (.string ⟨#[]⟩), .v (.int .i64 mn), .v (.int .i64 mx), .list 13 [enc y]]) H:=by
   intro mn mx y H hm hy
   refine A9 [] [y] (.nil _) (by simp) ?_
   refine⟨⟨?_,qiM hdn WG rfl hy.1.2⟩,qi4 (by show ¬ (6:Int)=1;decide) rfl hy.2⟩
   show WP lb deep.toNat _
   rw[hdn]
   exact .inr (.inr ⟨rfl,rfl,rfl,rfl,hm,y,rfl,hy.1.1⟩)
  simp only[O5]at fin
  simp[h1,h4]
  intro y hy0 hy1
  refine⟨hy0,hy1,fun d hd=>?_⟩
  have:y=0\/y=1\/y=2\/y=3\/y=4\/y=5\/y=6:=by omega
  rcases this with rfl|rfl|rfl|rfl|rfl|rfl|rfl
  all_goals (simp at hd;subst hd;simp[h4])
  all_goals exact⟨by simp only[InR];omega,hrec,fun y hy=>fin _ _ y _ (by simp[U0]) hy⟩
end Go.Gv

namespace Go.Gv
open Go.Proofs
theorem Ki{f:Pat->Bool}(p:Pat)(h:eV f p=true):kW (fun q=>f q=true) p:=by
 induction p using iR with|_ p ih=>?_
 rw[eH,qwX,qwV]at h
 exact qe3 h.1 fun k hk=>ih k hk (h.2 k hk)
theorem Yp(p:Pat):kW vP p->∀q∈ri p,q.op=1->q∈aM p:=by
 induction p using iR with|_ p ih=>?_
 intro hN q hq h1
 have hp:=jT hN
 rw[cU]
 cases p with
 | mk op cond lab reg mn mx ks=>
   rw[ri]at hq
   rcases qwT.1 hq with rfl|hq
   ·rw[if_pos h1];simp
   ·obtain⟨k,hk,hq⟩:=ur hq
    split
    ·rename_i e
     rcases hp with h|h|h|h
     ·have:=h.2.2.2.2;simp only at this;rw[this]at hk;cases hk
     ·have:=h.1;simp only at this e;omega
     ·have:=h.1;simp only at this e;omega
     ·have:=h.1;simp only at this e;omega
    ·exact qxU.2 ⟨k,hk,ih k hk (qC hN hk) q hq h1⟩
def qev:Prop:=bw qq0=true/\bw qgr=true/\bw qqZ=true/\bw qj5=true/\bw qld=true
theorem vV{b:B}(h:(decide (1<=b.size) && decide (b.size<=32) && (b.data.toList.all fun c=>AR c.toNat))=true):bw b=true:=by
 simp only[qwX,decide_eq_true_eq,qwV]at h
 have hm:∀ (k:Nat) (c:UInt8),b.data[k]? =some c->AR c.toNat=true:=fun k c hc=>h.2 c (by rw[<-qxl]at hc;exact qwS hc)
 rw[wL]
 exact⟨h.1.1,h.1.2,hm 0,fun k c hc=>by unfold Y7;rw[hm k c hc];rfl⟩
theorem qh5:qev:=⟨vV (by decide),vV (by decide),vV (by decide),vV (by decide),vV (by decide)⟩
theorem OF{lb:List B} :∀ {n:Nat} {c:Cond},GI lb n c->HD (n+1) c
 | n,_, .atom _ c h=>⟨by rw[Eu h];decide,fun k hk=>by rw[Eu h]at hk;cases hk⟩
 | _,_, .not n k h=>⟨qwO rfl,fun z hz=>by rw[qyr]at hz;subst hz;exact OF h⟩
 | _,_, .two n op a b _ h1 h2=>⟨qwO rfl,fun z hz=>by
    simp only[qwT,qxe,or_false]at hz
    rcases hz with rfl|rfl
    ·exact OF h1
    ·exact OF h2⟩
theorem qi0{lb:List B}{n:Nat}{c:Cond}(h:GC lb n c):∃m,HD m c:=by
 cases h with
 | any=>exact⟨1,by decide,fun k hk=>by cases hk⟩
 | top v f h=>exact⟨1,qwO rfl,fun k hk=>by cases hk⟩
 | inner c h=>exact⟨_,OF h⟩
structure qhC (c:Corpus):Prop where
 ok:OkCorp c
 few:c.toks.length<=60
end Go.Gv

namespace Go.Gv
end Go.Gv

namespace Go.Gv
open Go.Proofs
end Go.Gv

namespace Go.Gv
open Go.Proofs
open Cod (enc dec)
variable {S S0:Nat->Spc}
theorem qmv{c:Corpus}(h:SN c)(hk:Mc c)(hl:(c.toks.length:Int)<=3*5):qhC c:=⟨qiT h hk,by omega⟩
end Go.Gv

namespace Go.Gv
open Go.Proofs
theorem Ec:ak Tryz.prog fW [2006006] om nf 103:=fo
end Go.Gv

namespace Go.Gv
open Go.Proofs Cod
theorem EG:Tri Tryz.prog qL (we).pt:=
 ae (ag (aa NV ac)) MI (fun _=>qwO rfl) (Xv rfl)
theorem yJ:∀n,Tri Tryz.prog jC (I0 n).pt
 | 0=>dN fun x h=>by have:=h.1;omega
 | n+1=>ae (ag (aa cS (aa EG (aa (yJ n) ac)))) Hy (fun _=>qwO rfl) (Ti n rfl rfl rfl)
theorem KL:Tri Tryz.prog jC (GD).pt:=jc (fun n=>yJ n) (mK (fun x h=>h))
theorem L5:Tri Tryz.prog vt (Mr).pt:=
 ae (ag (aa cS (aa KL ac))) JG (fun _=>qwO rfl) (Xw rfl rfl)
theorem wC:∀n,Tri Tryz.prog fW (DO n).pt
 | 0=>dN fun x h=>by have:=h.1;omega
 | n+1=>ae (ag (aa cS (aa EG (aa L5 (aa (wC n) ac))))) Ec (fun _=>qwO rfl) (NF n rfl rfl rfl rfl)
end Go.Gv

namespace Go.Gv
open Go.Proofs
end Go.Gv

namespace Go.Gv
open Go.Proofs
end Go.Gv

namespace Go.Gv
open Go.Proofs
end Go.Gv

namespace Go.Gv
open Go.Proofs
open Cod (enc dec)
variable {S S0:Nat->Spc}
end Go.Gv

namespace Go.Gv
open Go.Proofs Cod
end Go.Gv

namespace Go.Gv
variable {S S0:Nat->Spc}
mutual
def lM:Glob->Nat| .mk _ _ _ _ _ _ _ _ _ _ ks=>mC ks+1
def mC:List Glob->Nat|[]=>0|k::ks=>max (lM k) (mC ks)
end
theorem FR:∀ {ks:List Glob} {k:Glob},k∈ks->lM k<=mC ks
 | x::ks,k,h=>by
   rw[mC]
   rcases qwT.1 h with rfl|h
   ·omega
   ·have:=FR h;omega
theorem RL{p k:Glob}(h:k∈p.kids):lM k < lM p:=by
 have:=FR h
 cases p
 rw[lM]
 simp only at this
 omega
mutual
def CA:Glob->Nat| .mk _ _ _ _ _ _ _ _ _ _ ks=>mz ks+1
def mz:List Glob->Nat|[]=>0|k::ks=>CA k+mz ks
end
theorem VS(x:Glob):CA x=mz x.kids+1:=by cases x;rw[CA]
theorem Ib(x:Glob):lM x=mC x.kids+1:=by cases x;rw[lM]
theorem FJ:∀ (a b:List Glob),mz (a++b)=mz a+mz b
 | [],b=>by rw[qxG,mz];omega
 | k::a,b=>by rw[qxA,mz,mz,FJ a b];omega
theorem M1:∀ (a b:List Glob),mC (a++b)=max (mC a) (mC b)
 | [],b=>by rw[qxG,mC];omega
 | k::a,b=>by rw[qxA,mC,mC,M1 a b];omega
theorem Ym{ks:List Glob}{k:Nat}{x:Glob}(h:ks[k]? =some x):mz (ks.take (k+1))=mz (ks.take k) +CA x/\mC (ks.take (k+1))=max (mC (ks.take k)) (lM x)/\mz (ks.take (k+1))<=mz ks:=by
 have e:=br h
 refine⟨by rw[e,FJ,mz,mz];omega,by rw[e,M1,mC,mC];omega,?_⟩
 conv=>rhs;rw[<-qxs (k+1) ks,FJ]
 omega
theorem qjo{lb:List B}{n:Nat}{g:Glob}(h:GG lb n g):CA g < 2^ (n+1)/\lM g<=n+1:=by
 induction h with
 | not n k h ih=>rw[CA,lM,Nat.pow_succ];simp only[mz,mC];omega
 | two n op a b ho h1 h2 ih1 ih2=>rw[CA,lM,Nat.pow_succ];simp only[mz,mC];omega
 | bound n|val n|same n|dist n|reg n|head n|path n|node n|depth n=>have:=Nat.one_le_two_pow (n:=n);rw[CA,lM,Nat.pow_succ];simp only[mz,mC];omega
theorem qb9{lb:List B}{n:Nat}{g k:Glob}(h:GG lb n g)(hk:k∈g.kids):∃m,m<=n/\GG lb m k:=by
 cases h with
 | not n k' h=>
   simp at hk
   subst hk
   exact⟨n,by omega,h⟩
 | two n op a b ho h1 h2=>
   simp at hk
   rcases hk with rfl|rfl
   ·exact⟨n,by omega,h1⟩
   ·exact⟨n,by omega,h2⟩
 | _=>cases hk
end Go.Gv

namespace Go.Gv
open Go.Proofs
def pQ:CC:=gq Tryz.f127 [3] {} _
def oY:List aj:=[.tmp 6, .tmp 7]
theorem Fu:ak Tryz.prog ib [3] pQ oY 40:=fo
def bC:CC:=gq Tryz.f129 [1,2029005,2028005,2027005,2026005,2037005,2036005,2045005,2044005,2068005,2067005,2066005] {} _
def bB:List aj:=[.tmp 2]
theorem LO:ak Tryz.prog dL [1,2029005,2028005,2027005,2026005,2037005,2036005,2045005,2044005,2068005,2067005,2066005] bC bB 155:=fo
def tN:CC:=gq Tryz.f128 [3,2] {} _
def sU:List aj:=[.tmp 4]
theorem JD:ak Tryz.prog lc [3,2] tN sU 15:=fo
def pS:CC:=gq Tryz.f177 [2] {} _
def pb:List aj:=[.tmp 3]
theorem Fw:ak Tryz.prog fa [2] pS pb 8:=fo
def cR:CC:=gq Tryz.f176 [] {} _
def cP:List aj:=[.tmp 4]
theorem mH:ak Tryz.prog cV [] cR cP 9:=fo
def dE:CC:=gq Tryz.f225 [] {} _
def dw:List aj:=[.tmp 4]
theorem pu:ak Tryz.prog dU [] dE dw 19:=fo
def jH:CC:=gq Tryz.f179 [] {} _
def jh:List aj:=[.tmp 2]
theorem zR:ak Tryz.prog eu [] jH jh 10:=fo
def dY:CC:=gq Tryz.f178 [] {} _
def dP:List aj:=[.tmp 4]
theorem qE:ak Tryz.prog eo [] dY dP 9:=fo
def eP:CC:=gq Tryz.f226 [] {} _
def eL:List aj:=[.tmp 4]
theorem td:ak Tryz.prog eU [] eP eL 19:=fo
def oo:CC:=gq Tryz.f7 [] { fz:=[(52,3)] } _
def ng:List aj:=[.tmp 4]
theorem Ed:ak Tryz.prog wv [] oo ng 57:=fo
end Go.Gv

namespace Go.Gv
open Go.Proofs
open Cod (enc dec)
variable {S S0:Nat->Spc}
abbrev U9(x:Glob):Prop:=∃lb m,GG lb m x
abbrev VE:Spc:=aJ (a1 Glob) U9 (enc (X:=Bool)) fun x y=>y=true
set_option maxHeartbeats 1000000 in
theorem Ln:aq bC bB S (a1 Glob) U9 (enc (X:=Bool)) fun x y=>y=true:=by
 rintro x ⟨lb,m,h⟩
 cases h with
 | bound n a h=>simp[bC,bB,E0, -Bool.forall_bool, -Bool.exists_bool]
 | val n a v f h1 h2=>simp[bC,bB,E0, -Bool.forall_bool, -Bool.exists_bool]
 | same n a b g h1 h2 h3=>simp[bC,bB,E0, -Bool.forall_bool, -Bool.exists_bool]
 | dist n a b mn mx h1 h2 h3 h4 h5 h6=>simp[bC,bB,E0, -Bool.forall_bool, -Bool.exists_bool]
 | reg n a b t h1 h2 h3=>simp[bC,bB,E0, -Bool.forall_bool, -Bool.exists_bool]
 | path n a b l h1 h2 h3 h4=>simp[bC,bB,E0, -Bool.forall_bool, -Bool.exists_bool]
 | node n a b t h1 h2 h3=>simp[bC,bB,E0, -Bool.forall_bool, -Bool.exists_bool]
 | depth n a mn mx h1 h3 h4 h5 h6=>simp[bC,bB,E0, -Bool.forall_bool, -Bool.exists_bool]
 | head n op a b ho h1 h2=>rcases ho with rfl|rfl <;> simp[bC,bB,E0, -Bool.forall_bool, -Bool.exists_bool]
 | not n k h=>simp[bC,bB,E0, -Bool.forall_bool, -Bool.exists_bool]
 | two n op a b ho h1 h2=>rcases ho with rfl|rfl <;> simp[bC,bB,E0, -Bool.forall_bool, -Bool.exists_bool]
def qnZ(n:Nat)(x:Glob×Int×Int):Prop:=lM x.1<=n/\0<=x.2.1/\x.2.1+CA x.1<=60/\0<=x.2.2/\x.2.2+lM x.1<=1000/\lM x.1<=60
abbrev QC(n:Nat):Spc:=aJ (a3 Glob Int Int) (qnZ n) (ww (Y:=Int) (Z:=Int)) fun x y=>y=(x.2.1+CA x.1,x.2.2+lM x.1 -1)
abbrev QD:Spc:=aJ (a3 Glob Int Int) (fun x=>∃n,qnZ n x) (ww (Y:=Int) (Z:=Int)) fun x y=>y=(x.2.1+CA x.1,x.2.2+lM x.1 -1)
theorem E5(n:Nat)(h1:S ib=QC n):aq pQ oY S (a3 Glob Int Int) (qnZ (n+1)) (ww (Y:=Int) (Z:=Int)) fun x y=>y=(x.2.1+CA x.1,x.2.2+lM x.1 -1):=by
 rintro⟨x,nodes,deep⟩ ⟨hn,h0,h2,h3,h4,h5⟩
 simp only at hn h0 h2 h3 h4 h5
 have hd1:=Ib x
 have hn1:=VS x
 simp[pQ,oY]
 refine⟨by simp only[InR];omega,fun hkl=>?_⟩
 refine ai (X:=Int×Int) [2,17] [] x.kids.length (fun k z=>z.1=nodes+1+ (mz (x.kids.take k):Int)/\z.2=deep+ (mC (x.kids.take k):Int)) (fun z=>[(1,enc z.1),(8,enc z.2)]) (fun _=>[]) (nodes+1,deep) (by simp) (by simp) (by omega) (by simp) (by simp) (by simp[mz,mC]) (by simp) (by simp) ?_ ?_
 ·rintro k ⟨m,d⟩ hk ⟨e1,e2⟩
  simp only at e1 e2
  obtain⟨y,hy⟩:=cj hk
  obtain⟨_,hgy⟩:=qwP.1 hy
  have hm:=Ym hy
  have hd:=FR (bh hy)
  have hp:qnZ n (y,m,deep+1):=⟨by show lM y<=n;omega,by show 0<=m;omega,by show m+CA y<=60;omega,by show 0<=deep+1;omega,by show deep+1+lM y<=1000;omega,by show lM y<=60;omega⟩
  have hm60:¬60 < m:=by have:=VS y;omega
  simp[h1,hk,hy,hgy,hp,hm60]
  exact⟨by simp only[InR];omega,by omega,by rw[hm.2.1,e2];omega⟩
 ·rintro⟨m,d⟩ ⟨e1,e2⟩
  simp only at e1 e2
  rw[qxn]at e1 e2
  simp
  exact⟨by omega,by omega⟩
theorem qb8(x:Glob):D.agg [D.v (Value.int IntKind.i64 x.op),D.v (Value.string x.a),D.v (Value.string x.b),D.v (Value.string x.name),D.v (Value.string x.arg),D.v (Value.string x.val),D.v (Value.bool x.fold),D.v (Value.int IntKind.i64 x.mn),D.v (Value.int IntKind.i64 x.mx),D.list 1 (List.map enc x.args),D.list 11 (List.map enc x.kids)]=enc x:=by simp
def K0(S0:Nat->Spc)(x:List Glob×D×Unit):Prop:=FunOnP S0 x.2.1 x.1 fun _=>false
abbrev qaN(S0:Nat->Spc):Spc:=aJ (aE (List Glob) (aD a0)) (K0 S0) (enc (X:=Int)) fun x y=>y= -1
theorem qv:aq dE dw S (aE (List Glob) (aD a0)) (K0 S) (enc (X:=Int)) fun x y=>y= -1:=by
 rintro⟨l,d,⟨⟩⟩ hp
 replace hp:FunOnP S d l fun _=>false:=hp
 simp[dE,dw, -Bool.forall_bool, -Bool.exists_bool]
 intro hkl
 refine ai (X:=Unit) [0,1] [] l.length (fun k _=>True) (fun _=>[]) (fun _=>[]) () (by simp) (by simp) (by omega) (by simp) (by simp) (by simp) (by simp) (by simp) ?_ ?_
 ·rintro k -hk -
  obtain⟨y,hy⟩:=cj hk
  obtain⟨_,hgy⟩:=qwP.1 hy
  simp[hk,hy,hgy, -Bool.forall_bool, -Bool.exists_bool]
  rw[qb8 y]
  refine hp.useB y (bh hy) fun b hb=>?_
  obtain rfl:b=false:=hb _ hp
  simp
 ·rintro - -
  simp
abbrev qaQ(S0:Nat->Spc):Spc:=aJ (aE (List Glob) (aD a0)) (K0 S0) (enc (X:=Bool)) fun x y=>y=false
theorem mI(h1:S dU=qaN S0):aq cR cP S (aE (List Glob) (aD a0)) (K0 S0) (enc (X:=Bool)) fun x y=>y=false:=by
 rintro⟨l,d,⟨⟩⟩ hp
 simp[cR,cP,h1,hp, -Bool.forall_bool]
def qkj(n:Nat)(x:Glob):Prop:=lM x<=n/\U9 x
abbrev QQ(n:Nat):Spc:=aJ (aE Glob (aD a0)) (fun x=>qkj n x.1/\x.2.1= .clo dL []) (enc (X:=Bool)) fun x y=>y=true
abbrev QR:Spc:=aJ (aE Glob (aD a0)) (fun x=>(∃n,qkj n x.1)/\x.2.1= .clo dL []) (enc (X:=Bool)) fun x y=>y=true
abbrev Jb(n:Nat):Spc:=aJ (aE Glob (aD a0)) (fun x=>qkj n x.1/\x.2.1= .cptr [.clo dL []] 0) (enc (X:=Bool)) fun x y=>y=false
theorem G9(n:Nat)(h1:S lc=QQ n):aq pS pb S (aE Glob (aD a0)) (fun x=>qkj n x.1/\x.2.1= .cptr [.clo dL []] 0) (enc (X:=Bool)) fun x y=>y=false:=by
 rintro⟨x,d,⟨⟩⟩ ⟨hx,hd⟩
 simp only at hx hd
 subst hd
 simp[pS,pb,h1,hx, -Bool.forall_bool, -Bool.exists_bool]
theorem Lm(n:Nat)(h0:S0 fa=Jb n)(h1:S cV=qaQ S0)(h2:S dL=VE):aq tN sU S (aE Glob (aD a0)) (fun x=>qkj (n+1) x.1/\x.2.1= .clo dL []) (enc (X:=Bool)) fun x y=>y=true:=by
 rintro⟨x,d,⟨⟩⟩ ⟨⟨hn,hx⟩,hd⟩
 simp only at hn hx hd
 subst hd
 have hk:∀k∈x.kids,qkj n k:=fun k hk=>by
  have:=RL hk
  obtain⟨lb,m,h⟩:=hx
  obtain⟨m',_,h2⟩:=qb9 h hk
  exact⟨by omega,lb,m',h2⟩
 have hO:FunOnP S0 (.clo fa [.cptr [.clo dL []] 0]) x.kids fun _=>false:=
  FS h0 (fun k hk'=>⟨hk k hk',rfl⟩) (fun _ _ y hy=>hy)
 have hP:K0 S0 (x.kids, .clo fa [.cptr [.clo dL []] 0],()):=hO
 simp[tN,sU,h1,h2,hx,hP, -Bool.forall_bool, -Bool.exists_bool]
abbrev Vr:Spc:=aJ (a1 Glob) (fun g=>g=GlobE\/U9 g) (enc (X:=Bool)) fun x y=>y=decide (x.op=0)
set_option maxHeartbeats 1000000 in
theorem Li:aq iu iq S (a1 Glob) (fun g=>g=GlobE\/U9 g) (enc (X:=Bool)) fun x y=>y=decide (x.op=0):=by
 rintro x (rfl|⟨lb,m,h⟩)
 ·simp[iu,iq,GlobE,E0, -Bool.forall_bool]
 ·have:x.op≠0:=by cases h <;> simp <;> omega
  simp[iu,iq,this, -Bool.forall_bool, -Bool.exists_bool]
abbrev QS:Spc:=aJ (a1 Glob) (fun g=>g=GlobE\/ ∃lb,GG lb 2 g) (enc (X:=Bool)) fun x y=>y=true
theorem Ir(h1:S nH=Vr)(h2:S ib=QD)(h3:S lc=QR):aq gc fQ S (a1 Glob) (fun g=>g=GlobE\/ ∃lb,GG lb 2 g) (enc (X:=Bool)) fun x y=>y=true:=by
 rintro x (rfl|⟨lb,h⟩)
 ·have p0:GlobE=GlobE\/U9 GlobE:= .inl rfl
  have e0:GlobE.op=0:=rfl
  simp[gc,fQ,h1,p0,e0, -Bool.forall_bool, -Bool.exists_bool]
  exact .inl rfl
 ·have hnum:=qjo h
  have p0:x=GlobE\/U9 x:= .inr ⟨lb,2,h⟩
  have hop:x.op≠0:=by cases h <;> simp <;> omega
  have p1:∃n,qnZ n (x,0,1):=⟨lM x,qwY _,qyD _,by show(0:Int) +CA x<=60;omega,by show(0:Int)<=1;omega,by show(1:Int) +lM x<=1000;omega,by show lM x<=60;omega⟩
  have p2:∃n,qkj n x:=⟨lM x,qwY _,lb,2,h⟩
  have p5:(CA x:Int)<=60:=by omega
  have p6:(1:Int) +lM x -1<=20:=by omega
  simp[gc,fQ,h1,h2,h3,p0,hop,p1,p2,p5,p6, -Bool.forall_bool, -Bool.exists_bool]
theorem Eo{x:B} :(x∈Types\/x∈Xh\/(x∈SO/\x≠ ⟨#[]⟩))->bw x=true:=by
 have hv:∀b:B,(decide (1<=b.size) && decide (b.size<=32) && (b.data.toList.all fun c=>AR c.toNat))=true->bw b=true:=fun b h=>vV h
 rintro(h|h|⟨h,hn⟩)
 ·simp only[Types,qwT,qxe,or_false]at h
  rcases h with rfl|rfl|rfl <;> exact hv _ (by decide)
 ·simp only[Xh,qwT,qxe,or_false]at h
  rcases h with rfl|rfl|rfl <;> exact hv _ (by decide)
 ·simp only[SO,qwT,qxe,or_false]at h
  rcases h with rfl|rfl|rfl
  ·exact hv _ (by decide)
  ·exact hv _ (by decide)
  ·exact absurd rfl hn
theorem Uq{v:B}(h:v∈Xj):∃r,nl v=some r:=by
 have e:∀v∈Xj,(nl v).isSome=true:=by decide
 exact qxL.1 (e v h)
abbrev TT:Spc:=aJ (a1 B) (fun s=>s∈SO) (enc (X:=Bool)) fun _ y=>y=false
theorem qh2(h1:S bu=zy):aq jH jh S (a1 B) (fun s=>s∈SO) (enc (X:=Bool)) fun _ y=>y=false:=by
 rintro s hs
 have hs:s∈SO:=hs
 have hv:s≠ ⟨#[]⟩->bw s=true:=fun h=>Eo (.inr (.inr ⟨hs,h⟩))
 simp[jH,jh,h1, -Bool.forall_bool, -Bool.exists_bool]
 exact hv
theorem J6{X:Type}[Cod X]{S:Nat->Spc}{g:Nat}{l:List X}{pre:X->Prop}{q:X->Bool}{post:X->Bool->Prop}(h:S g=aJ (a1 X) pre enc post)(hp:∀x∈l,pre x)(hq:∀x∈l,∀y,post x y->y=q x):FunOnP S (.clo g []) l q:=by
 refine⟨g, [],_,rfl,h,fun x hx=>⟨⟨x,by simp,hp x hx⟩,fun r hr=>?_⟩⟩
 obtain⟨y,rfl,hy⟩:=hr x (by simp) (hp x hx)
 rw[hq x hx y hy]
def KZ(S0:Nat->Spc)(x:List B×D×Unit):Prop:=FunOnP S0 x.2.1 x.1 fun _=>false
abbrev qaM(S0:Nat->Spc):Spc:=aJ (aE (List B) (aD a0)) (KZ S0) (enc (X:=Int)) fun x y=>y= -1
theorem qh3:aq eP eL S (aE (List B) (aD a0)) (KZ S) (enc (X:=Int)) fun x y=>y= -1:=by
 rintro⟨l,d,⟨⟩⟩ hp
 replace hp:FunOnP S d l fun _=>false:=hp
 simp[eP,eL, -Bool.forall_bool, -Bool.exists_bool]
 intro hkl
 refine ai (X:=Unit) [0,1] [] l.length (fun k _=>True) (fun _=>[]) (fun _=>[]) () (by simp) (by simp) (by omega) (by simp) (by simp) (by simp) (by simp) (by simp) ?_ ?_
 ·rintro k -hk -
  obtain⟨y,hy⟩:=cj hk
  obtain⟨_,hgy⟩:=qwP.1 hy
  simp[hk,hy,hgy, -Bool.forall_bool, -Bool.exists_bool]
  refine hp.useB y (bh hy) fun b hb=>?_
  obtain rfl:b=false:=hb _ hp
  simp
 ·rintro - -
  simp
abbrev qaP(S0:Nat->Spc):Spc:=aJ (aE (List B) (aD a0)) (KZ S0) (enc (X:=Bool)) fun x y=>y=false
theorem qh4(h1:S eU=qaM S0):aq dY dP S (aE (List B) (aD a0)) (KZ S0) (enc (X:=Bool)) fun x y=>y=false:=by
 rintro⟨l,d,⟨⟩⟩ hp
 simp[dY,dP,h1,hp, -Bool.forall_bool]
def Bg(S0:Nat->Spc)(x:List sk×D×Unit):Prop:=FunOnP S0 x.2.1 x.1 fun _=>false
abbrev VI(S0:Nat->Spc):Spc:=aJ (aE (List sk) (aD a0)) (Bg S0) (enc (X:=Int)) fun x y=>y= -1
theorem qco(x:sk):D.agg [D.v (Value.int IntKind.i64 x.op),D.v (Value.bool x.neg),D.v (Value.string x.reg)]=enc x:=by simp
theorem qer:aq bT bL S (aE (List sk) (aD a0)) (Bg S) (enc (X:=Int)) fun x y=>y= -1:=by
 rintro⟨l,d,⟨⟩⟩ hp
 replace hp:FunOnP S d l fun _=>false:=hp
 simp[bT,bL, -Bool.forall_bool, -Bool.exists_bool]
 intro hkl
 refine ai (X:=Unit) [0,1] [] l.length (fun k _=>True) (fun _=>[]) (fun _=>[]) () (by simp) (by simp) (by omega) (by simp) (by simp) (by simp) (by simp) (by simp) ?_ ?_
 ·rintro k -hk -
  obtain⟨y,hy⟩:=cj hk
  obtain⟨_,hgy⟩:=qwP.1 hy
  simp[hk,hy,hgy, -Bool.forall_bool, -Bool.exists_bool]
  rw[qco y]
  refine hp.useB y (bh hy) fun b hb=>?_
  obtain rfl:b=false:=hb _ hp
  simp
 ·rintro - -
  simp
abbrev Oa(S0:Nat->Spc):Spc:=aJ (aE (List sk) (aD a0)) (Bg S0) (enc (X:=Bool)) fun x y=>y=false
theorem qes(h1:S cg=VI S0):aq bq bj S (aE (List sk) (aD a0)) (Bg S0) (enc (X:=Bool)) fun x y=>y=false:=by
 rintro⟨l,d,⟨⟩⟩ hp
 simp[bq,bj,h1,hp, -Bool.forall_bool]
abbrev N5:Spc:=aJ (a1 sk) GF (enc (X:=Bool)) fun _ y=>y=false
theorem qei:aq vH uW S (a1 sk) GF (enc (X:=Bool)) fun _ y=>y=false:=by
 rintro f ⟨h,_⟩
 have h1:¬f.op < 1:=by omega
 have h2:¬3 < f.op:=by omega
 simp[vH,uW,h1,h2, -Bool.forall_bool, -Bool.exists_bool]
abbrev N7:Spc:=aJ (a1 sk) GF (enc (X:=Bool)) fun _ y=>y=false
theorem qel(h1:S bu=zy):aq ga fP S (a1 sk) GF (enc (X:=Bool)) fun _ y=>y=false:=by
 rintro f ⟨_,h⟩
 have hv:=Eo (.inl h)
 simp[ga,fP,h1,hv, -Bool.forall_bool, -Bool.exists_bool]
def C5(x:Glob×List Attr×List B):Prop:=x.2.1=ge/\(x.1=GlobE\/ ∃n,GG x.2.2 n x.1)
abbrev QL:Spc:=aJ (a3 Glob (List Attr) (List B)) C5 (enc (X:=Int)) fun _ y=>y=0
theorem qdc{g:B}(h:g∈Attr2):0<=kA ge g:=by
 simp only[Attr2,qwT,qxe,or_false]at h
 rcases h with rfl|rfl <;> decide
theorem fK{l:List B}{x:B}(h:x∈l):qH l x=true:=by
 unfold qH
 simpa using h
set_option maxHeartbeats 4000000 in
theorem ZF(h1:S aR=TS)(h2:S bE=A2)(h3:S bu=zy)(h4:S eo=qaP S0)(h5:S qt=Vw)(h0:S0 eu=TT):
 aq ax aw S (a3 Glob (List Attr) (List B)) C5 (enc (X:=Int)) fun _ y=>y=0:=by
 rintro⟨g,a,lb⟩ ⟨ha,hg⟩
 simp only at ha hg
 subst ha
 have hw:(0:Int)<=kA ge II:=by decide
 rcases hg with rfl|⟨n,hg⟩
 ·simp[ax,aw,GlobE, -Bool.forall_bool, -Bool.exists_bool]
 cases hg with
 | bound n a h=>simp[ax,aw,h1,fK h, -Bool.forall_bool, -Bool.exists_bool]
 | val n a v f k1 k2=>
   have hx:=Uq k2
   simp[ax,aw,h1,h2,h5,fK k1,hw,hx, -Bool.forall_bool, -Bool.exists_bool]
 | same n a b g k1 k2 k3=>simp[ax,aw,h1,h2,fK k1,fK k2,hw,qdc k3, -Bool.forall_bool, -Bool.exists_bool]
 | dist n a b mn mx k1 k2 k3 k4 k5 k6=>
   have e:¬mx < mn:=by omega
   simp[ax,aw,h1,fK k1,fK k2,e, -Bool.forall_bool, -Bool.exists_bool]
 | reg n a b t k1 k2 k3=>simp[ax,aw,h1,h3,fK k1,fK k2,Eo (.inl k3), -Bool.forall_bool, -Bool.exists_bool]
 | path n a b l k1 k2 k3 k4=>
   have hP:KZ S0 (l, .clo eu [],()):=J6 h0 (fun x hx=>k4 x hx) fun _ _ y hy=>hy
   simp[ax,aw,h1,h4,fK k1,fK k2,hP, -Bool.forall_bool, -Bool.exists_bool]
 | node n a b t k1 k2 k3=>simp[ax,aw,h1,h3,fK k1,fK k2,Eo (.inr (.inl k3)), -Bool.forall_bool, -Bool.exists_bool]
 | depth n a mn mx k1 k3 k4 k5 k6=>
   have e1:¬mx < mn:=by omega
   have e2:¬mn < 0:=by omega
   simp[ax,aw,h1,fK k1,e1,e2, -Bool.forall_bool, -Bool.exists_bool]
 | head n op a b ho k1 k2=>rcases ho with rfl|rfl <;> simp[ax,aw,h1,fK k1,fK k2, -Bool.forall_bool, -Bool.exists_bool]
 | not n k h=>simp[ax,aw, -Bool.forall_bool, -Bool.exists_bool]
 | two n op a b ho k1 k2=>rcases ho with rfl|rfl <;> simp[ax,aw, -Bool.forall_bool, -Bool.exists_bool]
abbrev VB(n:Nat):Spc:=aJ (a3 Glob (List Attr) (List B)) (fun x=>lM x.1<=n/\C5 x) (enc (X:=Int)) fun _ y=>y=0
abbrev QM:Spc:=aJ (a3 Glob (List Attr) (List B)) C5 (enc (X:=Int)) fun _ y=>y=0
theorem qen(n:Nat)(h1:S ft=QL)(h2:S dC=VB n):aq fA fj S (a3 Glob (List Attr) (List B)) (fun x=>lM x.1<=n+1/\C5 x) (enc (X:=Int)) fun _ y=>y=0:=by
 rintro⟨g,a,lb⟩ ⟨hn,hg⟩
 simp only at hn
 have hg':=hg
 obtain⟨ha,hgg⟩:=hg'
 simp only at ha hgg
 subst ha
 have hk:∀k∈g.kids,lM k<=n/\C5 (k,ge,lb):=fun k hk=>by
  have:=RL hk
  rcases hgg with rfl|⟨m,h⟩
  ·cases hk
  ·obtain⟨m',_,h2⟩:=qb9 h hk
   exact⟨by omega,rfl, .inr ⟨m',h2⟩⟩
 simp[fA,fj,h1,hg, -Bool.forall_bool, -Bool.exists_bool]
 intro hkl
 refine ai (X:=Unit) [1,2,19] [] g.kids.length (fun _ _=>True) (fun _=>[]) (fun _=>[]) () (by simp) (by simp) (by omega) (by simp) (by simp) trivial (by simp) (by simp) ?_ ?_
 ·rintro k ⟨⟩ hkk -
  obtain⟨y,hy⟩:=cj hkk
  obtain⟨_,hgy⟩:=qwP.1 hy
  have hP:=hk y (bh hy)
  simp[hkk,hy,hgy,h2,hP, -Bool.forall_bool, -Bool.exists_bool]
 ·rintro⟨⟩ -
  simp
end Go.Gv
