/- A part of the framework and of the walks: W42 W80 V68 V69 C72 W200 C73 Asm25 V70 V71 C74. -/
import Derived.Test.YtphdikcommfnhaaGreatDoorGd48
import Derived.Test.YtphdikcommfnhaaGreatDoorGd45
import Derived.Test.YtphdikcommfnhaaGreatDoorGd37
import Derived.Test.YtphdikcommfnhaaGreatDoorGd25
import Derived.Test.YtphdikcommfnhaaGreatDoorGd22
import Derived.Test.YtphdikcommfnhaaGreatDoorGd38
import Derived.Test.YtphdikcommfnhaaGreatDoorGd47
import Derived.Test.YtphdikcommfnhaaGreatDoorGd39
import Derived.Test.YtphdikcommfnhaaGreatDoorGd20
import Derived.Test.YtphdikcommfnhaaGreatDoorGd24
import Derived.Test.YtphdikcommfnhaaGreatDoorGd29
set_option linter.unusedSimpArgs false
set_option linter.unusedVariables false
set_option linter.unusedSectionVars false
set_option maxRecDepth 100000
set_option maxHeartbeats 0

namespace Go.Gv
open Cod (enc dec)
variable {S S0:Nat->Spc}
abbrev vI:Spc:=bj (a1 Int) cb (enc (X:=B)) (fun _ y=>y∈Types)
theorem VI(h1:S pU=s_m_Mod):ar vX vJ S (a1 Int) cb (enc (X:=B)) (fun _ y=>y∈Types):=by
 rintro n -
 simp[vX,vJ,h1]
 have h3:=IY n 3 (by omega)
 refine⟨h3.1,h3.2,?_⟩
 have:EW n 3=0\/EW n 3=1\/EW n 3=2:=by omega
 rcases this with h|h|h <;> simp[h,Types,qob,qec,qoa]
def L5(n:Nat)(x:List Int×Int×List B):Prop:=x.2.1.toNat < n/\ -10<=x.2.1/\x.2.1<=100/\x.2.2.length<=1000
theorem jA{q:Cond->Prop}{H:ab}{op:Int}{n a v l:B}{f:Bool}{d:D}(ks:List Cond)(hd:FrzTo H d (enc ks))(hq:q ⟨op,n,a,v,l,f,ks⟩):Fin enc q (.agg [.v (.int .i64 op), .v (.string n), .v (.string a), .v (.string v), .v (.string l), .v (.bool f),d]) H:=by
 refine cX (⟨op,n,a,v,l,f,ks⟩:Cond) ?_ hq
 rw[qat]
 refine .agg rfl fun k x y hx hy=>?_
 rcases k with _|_|_|_|_|_|_|k
 ·cases hx;cases hy;exact .same _
 ·cases hx;cases hy;exact .same _
 ·cases hx;cases hy;exact .same _
 ·cases hx;cases hy;exact .same _
 ·cases hx;cases hy;exact .same _
 ·cases hx;cases hy;exact .same _
 ·cases hx;cases hy;exact hd
 ·simp at hx
theorem qi2(a b c d e f g h:B):D.list 1 [.v (.string a), .v (.string b), .v (.string c), .v (.string d), .v (.string e), .v (.string f), .v (.string g), .v (.string h)]= .list 1 (Pb [a,b,c,d,e,f,g,h]):=id rfl
theorem qex(a b c d:B):D.list 1 [.v (.string a), .v (.string b), .v (.string c), .v (.string d)]= .list 1 (Pb [a,b,c,d]):=id rfl
theorem DF{q:Pat->Prop}{H:ab}{op o:Int}{n a v l lb rg:B}{f:Bool}{cd d:D}{mn mx:Int}(cks:List Cond)(ks:List Pat)(hc:FrzTo H cd (enc cks))(hd:FrzTo H d (enc ks))(hq:q ⟨op,⟨o,n,a,v,l,f,cks⟩,lb,rg,mn,mx,ks⟩):
 Fin enc q (.agg [.v (.int .i64 op), .v (.int .i64 o), .v (.string n), .v (.string a), .v (.string v), .v (.string l), .v (.bool f),cd, .v (.string lb), .v (.string rg), .v (.int .i64 mn), .v (.int .i64 mx),d]) H:=by
 refine cX (⟨op,⟨o,n,a,v,l,f,cks⟩,lb,rg,mn,mx,ks⟩:Pat) ?_ hq
 rw[NZ]
 refine .agg rfl fun k x y hx hy=>?_
 rcases k with _|_|_|_|_|_|_|_|_|_|_|_|_|k
 ·cases hx;cases hy;exact .same _
 ·cases hx;cases hy;exact .same _
 ·cases hx;cases hy;exact .same _
 ·cases hx;cases hy;exact .same _
 ·cases hx;cases hy;exact .same _
 ·cases hx;cases hy;exact .same _
 ·cases hx;cases hy;exact .same _
 ·cases hx;cases hy;exact hc
 ·cases hx;cases hy;exact .same _
 ·cases hx;cases hy;exact .same _
 ·cases hx;cases hy;exact .same _
 ·cases hx;cases hy;exact .same _
 ·cases hx;cases hy;exact hd
 ·simp at hx
def Rh(n:Nat)(x:List Int×Int×List B):Prop:=x.2.1.toNat < n/\ -10<=x.2.1/\x.2.1<=100/\x.2.2.length<=1000
def qk4(x:List Int×Int×List B)(p:Pat):Prop:=WP x.2.2 x.2.1.toNat p/\PD x.2.1.toNat p
end Go.Gv

namespace Go.Gv
open Cod (enc dec)
variable {S S0:Nat->Spc}
def TS(x:List Int×Int×List B)(y:Cond):Prop:=GI x.2.2 x.2.1.toNat y
abbrev Bf(n:Nat):Spc:=bj (aT (a2 Int (List B))) (L5 n) (enc (X:=Cond)) TS
theorem qtP{i:Nat}{a:B}(h:[(⟨#[119,111,114,100]⟩:B),⟨#[119,111,114,100]⟩,⟨#[116,97,103]⟩][i]? =some a):a∈Attr2:=by
 have:=dM h
 simpa [Attr2,Yt,Yu]using this
theorem qeY{i:Nat}{a:B}(h:[(⟨#[119,111,114,100]⟩:B),⟨#[116,97,103]⟩][i]? =some a):a∈Attr2:=dM h
theorem qro{i:Nat}{a:B}(h:[(⟨#[112]⟩:B),⟨#[113]⟩][i]? =some a):a∈FeatL:=dM h
theorem qrn{i:Nat}{a:B}(h:[(⟨#[49]⟩:B),⟨#[50]⟩][i]? =some a):a∈NumL:=dM h
theorem qs4{i:Nat}{a:B}(h:[(⟨#[97]⟩:B),⟨#[98]⟩,⟨#[97,46,42]⟩,⟨#[91,97,98,93]⟩][i]? =some a):a∈ValsT:=dM h
theorem qtO{i:Nat}{a:B}(h:[(⟨#[97]⟩:B),⟨#[98]⟩,⟨#[97,46,42]⟩,⟨#[91,97,98,93]⟩,⟨#[88]⟩,⟨#[]⟩,⟨#[99,63]⟩,⟨#[97,124,98]⟩][i]? =some a):a∈ValsI:=by
 have:=dM h
 simp only[ValsI,qt1,qus,or_false]at this ⊢
 rcases this with h|h|h|h|h|h|h|h <;> simp[h]
theorem RA(n:Nat)(h1:S bc=s_m_Next)(h2:S nA=vI)(h3:S eI=Bf n):ar rb qM S (aT (a2 Int (List B))) (L5 (n+1)) (enc (X:=Cond)) TS:=by
 rintro⟨L,deep,lb⟩ ⟨hn,hd0,hd1,hlb⟩
 simp only at hn hd0 hd1 hlb
 simp[rb,qM,h1]
 intro b6 k0 hk0 hk1
 refine bD (X:=Int) [0,1,2,6] [6] (fun k=>0<=k/\k < 12/\(deep < 1->k < 8)) (fun k=>[(7,enc k)]) (fun _=>[]) ?_ ?_
 ·simp
  have:k0.tmod 8=k0 % 8:=Int.tmod_eq_emod_of_nonneg hk0
  rw[this]
  omega
 rintro k ⟨q0,q1,q2⟩
 refine bD (X:=Unit) [0,1,2,6,7] [6] (fun _=>10<=k) (fun _=>[]) (fun _=>[]) ?_ ?_
 ·simp
  refine bD (X:=Bool) [0,1,2,6,7,15] [6] (fun b=>b=decide (k < 4)) (fun b=>[(16,enc b)]) (fun _=>[]) ?_ ?_
  ·simp
   repeat' first|apply And.intro|intro _
   all_goals first|omega|(rw[quD];simp;omega)
  rintro b hb
  simp[h1,Pa,Yx,qi2,qex,qh,tR, -Bool.forall_bool]
  refine⟨fun _ y hy0 hy1=>⟨hy0,hy1,fun a ha y hy0 hy1=>⟨hy0,hy1,fun a' ha' y hy0 hy1=>jA [] (.nil _) (.atom _ _ (.val a a' _ (qtP ha) (qtO ha')))⟩⟩,fun hb0=>?_⟩
  rw[hb0]at hb
  have hb:4<=k:=by simpa using hb.symm
  refine⟨fun _ y hy0 hy1=>⟨hy0,hy1,fun a ha=>jA [] (.nil _) (.atom _ _ (.feat a (qro ha)))⟩,fun k4=>⟨fun _ _=>⟨fun hl y hy0 hy1=>⟨hy0,hy1,fun a ha _=>⟨by omega,fun y hy=>⟨by omega,by omega,fun a' ha' y hy0 hy1=>⟨hy0,hy1,fun a'' ha''=>jA [] (.nil _) (.atom _ _ (.same a a' a'' (qeY ha) (dM ha') (qeY ha'')))⟩⟩⟩⟩,fun _=>jA [] (.nil _) (.atom _ _ (.val Yu _ false (by simp[Attr2]) (by simp[ValsI])))⟩,fun k5=>?_⟩⟩
  refine bD (X:=Bool) [0,1,2,6,7,15] [6] (fun b=>b=decide (k=6\/k=7)) (fun b=>[(67,enc b)]) (fun _=>[]) ?_ ?_
  ·simp
   repeat' first|apply And.intro|intro _
   all_goals first|omega|(rw[quD];simp;omega)
  rintro b hb2
  simp[h1,h2, -Bool.forall_bool]
  refine⟨fun _ y hy0 hy1=>⟨trivial,fun t ht b8=>?_⟩,fun hb0=>?_⟩
  ·refine bD (X:=B×B) [6,8] [6] (fun x=>(x.1=E0/\x.2=E0)\/(x.1=qlB/\x.2∈NumL)) (fun _=>[]) (fun x=>[(8, .box b8 [.v (.int .i64 5), .v (.string t), .v (.string x.1), .v (.string x.2), .v (.string ⟨#[]⟩), .v (.bool false), .v (.slice none 0 0)])]) ?_ ?_
   ·simp[h1,Pa,qh,tR]
    refine fun y hy0 hy1=>⟨fun _ z hz0 hz1=>⟨hz0,hz1,fun a ha=>⟨qlB,a, .inr ⟨rfl,qrn ha⟩, .inl ⟨rfl,rfl⟩⟩⟩,fun _=>⟨E0,E0, .inl ⟨rfl,rfl⟩, .inl ⟨rfl,rfl⟩⟩⟩
   ·rintro⟨a,v⟩ hav
    simp
    refine jA [] (.nil _) (.atom _ _ ?_)
    rcases hav with⟨rfl,rfl⟩|⟨rfl,hv⟩
    ·exact .reg t ht
    ·exact .regk t v ht hv
  rw[hb0]at hb2
  have hb2:¬ (k=6\/k=7):=by simpa using hb2.symm
  refine bD (X:=Bool) [0,1,2,6,7,15] [6] (fun b=>b=decide (k=8\/k=9)) (fun b=>[(85,enc b)]) (fun _=>[]) ?_ ?_
  ·simp
   repeat' first|apply And.intro|intro _
   all_goals first|omega|(rw[quD];simp;omega)
  rintro b hb3
  simp[h3, -Bool.forall_bool]
  have hrec:1<=deep->L5 n (L,deep -1,lb):=fun h=>⟨by show(deep -1).toNat < n;omega,by show -10<=deep -1;omega,by show deep -1<=100;omega,hlb⟩
  refine⟨fun hb1=>?_,fun hb0=>?_⟩
  ·rw[hb1]at hb3
   have hb3:k=8\/k=9:=by simpa using hb3.symm
   have hdn:deep.toNat=(deep -1).toNat+1:=by omega
   refine⟨by simp only[InR];omega,hrec (by omega),fun y hy=>jA [y] (by simp) (by show GI lb deep.toNat _;rw[hdn];exact .not _ _ hy)⟩
  rw[hb0]at hb3
  have hb3:¬ (k=8\/k=9):=by simpa using hb3.symm
  omega
 ·rintro -hk
  have hrec:L5 n (L,deep -1,lb):=⟨by show(deep -1).toNat < n;omega,by show -10<=deep -1;omega,by show deep -1<=100;omega,hlb⟩
  have hdn:deep.toNat=(deep -1).toNat+1:=by omega
  simp[h3]
  refine⟨by simp only[InR];omega,by simp only[InR];omega,by simp only[InR];omega,hrec,fun y hy=>⟨by simp only[InR];omega,hrec,fun y' hy'=>jA [y,y'] (by simp) (by show GI lb deep.toNat _;rw[hdn];exact .two _ _ _ _ (by omega) hy hy')⟩⟩
def qe1(x:List Int×Int×List B)(y:Cond):Prop:=GC x.2.2 x.2.1.toNat y
abbrev Et:Spc:=bj (aT (a2 Int (List B))) (fun x=> -10<=x.2.1/\x.2.1<=100/\x.2.2.length<=1000) (enc (X:=Cond)) qe1
abbrev yT:Spc:=bj (aT (a2 Int (List B))) (fun x=>∃n,L5 n x) (enc (X:=Cond)) TS
theorem VJ(h1:S bc=s_m_Next)(h3:S eI=yT):ar tt sL S (aT (a2 Int (List B))) (fun x=> -10<=x.2.1/\x.2.1<=100/\x.2.2.length<=1000) (enc (X:=Cond)) qe1:=by
 rintro⟨L,deep,lb⟩ ⟨hd0,hd1,hlb⟩
 simp only at hd0 hd1 hlb
 simp[tt,sL,h1]
 intro b6
 refine bD (X:=Unit) [0,1,2,6] [6] (fun _=>True) (fun _=>[]) (fun _=>[]) ?_ ?_
 ·simp[h1,qex,qh,tR, -Bool.forall_bool]
  exact fun y _ _=>⟨fun _=>jA [] (.nil _) .any,fun _=>⟨fun _ z z0 z1=>⟨z0,z1,fun a ha u _ _=>jA [] (.nil _) (.top a _ (qs4 ha))⟩,fun _ _ z z0 z1=>⟨z0,z1,fun a ha u _ _=>jA [] (.nil _) (.top a _ (qs4 ha))⟩⟩⟩
 ·rintro - -
  have hrec:∃n,L5 n (L,deep,lb):=⟨deep.toNat+1,Nat.lt_succ_self _,hd0,hd1,hlb⟩
  simp[h3,hrec]
  exact fun y hy=>jA y.kids (.same _) (by show GC lb deep.toNat _;rw[Ql y];exact .inner _ hy)
theorem qgo{p:Pat}{C:Pat->Prop}(h1:¬p.op=1)(h2:p.kids=[]):∀y∈bF p,C y:=by
 rw[dw,if_neg h1,h2]
 simp
theorem qgm{p:Pat}{C:Pat->Prop}(h1:p.op=1)(h:C p):∀y∈bF p,C y:=by
 rw[dw,if_pos h1]
 simpa using h
theorem qgn{p a:Pat}{C:Pat->Prop}(h1:¬p.op=1)(h2:p.kids=[a])(ha:∀y∈bF a,C y):∀y∈bF p,C y:=by
 rw[dw,if_neg h1,h2]
 simpa using ha
theorem ZG{p a b:Pat}{C:Pat->Prop}(h1:¬p.op=1)(h2:p.kids=[a,b])(ha:∀y∈bF a,C y)(hb:∀y∈bF b,C y):∀y∈bF p,C y:=by
 rw[dw,if_neg h1,h2]
 simp only[quG,List.flatMap_nil,qu4]
 intro y hy
 rcases qtZ.1 hy with hy|hy
 ·exact ha y hy
 ·exact hb y hy
def J1(x:List Int×Int×List B)(p:Pat):Prop:=qk4 x p/\∀y∈bF p,GC x.2.2 1 y.cond
abbrev mH(n:Nat):Spc:=bj (aT (a2 Int (List B))) (Rh n) (enc (X:=Pat)) J1
theorem Mq(n:Nat)(h1:S bc=s_m_Next)(h2:S nA=vI)(h3:S pT=Et)(h4:S ew=mH n):ar nZ na S (aT (a2 Int (List B))) (Rh (n+1)) (enc (X:=Pat)) J1:=by
 rintro⟨L,deep,lb⟩ ⟨hn,hd0,hd1,hlb⟩
 simp only at hn hd0 hd1 hlb
 simp[nZ,na,h1]
 intro b6 k0 hk0 hk1
 refine bD (X:=Int) [0,1,2,6] [6] (fun k=>0<=k/\k < 14/\(deep < 1->k < 7)) (fun k=>[(7,enc k)]) (fun _=>[]) ?_ ?_
 ·simp
  have:k0.tmod 7=k0 % 7:=Int.tmod_eq_emod_of_nonneg hk0
  rw[this]
  omega
 rintro k ⟨q0,q1,q2⟩
 refine bD (X:=Unit) [0,1,2,6] [6] (fun _=>12<=k) (fun _=>[]) (fun _=>[]) ?_ ?_
 ·have hrec:1<=deep->Rh n (L,deep -1,lb):=fun h=>⟨by show(deep -1).toNat < n;omega,by show -10<=deep -1;omega,by show deep -1<=100;omega,hlb⟩
  have hdn:1<=deep->deep.toNat=(deep -1).toNat+1:=fun h=>by omega
  simp[h1,h2,h3,h4, -Bool.forall_bool]
  refine⟨fun hk=>⟨hlb,fun c hc b8=>?_⟩,fun hk=>⟨fun hk7=>⟨by simp only[InR];omega,by simp only[InR];omega,fun y _ _=>⟨trivial,fun t ht=>DF [] [] (.nil _) (.nil _) ⟨⟨qrO (.inr ⟨by show(2+k -5=2\/2+k -5=3);omega,rfl,rfl,ht,rfl,rfl,rfl⟩),Zd U6 rfl⟩,qgo (by show ¬2+k -5=1;omega) rfl⟩⟩⟩,fun hk7=>⟨fun hk10=>⟨by simp only[InR];omega,hrec (by omega),fun y hy=>⟨by simp only[InR];omega,hrec (by omega),fun y' hy'=>?_⟩⟩,fun hk10 hk12=>⟨by simp only[InR];omega,hrec (by omega),fun y hy=>⟨by simp only[InR];omega,hrec (by omega),fun y' hy'=>?_⟩⟩⟩⟩⟩
  ·refine bD (X:=B) [6,8] [6] (fun x=>x=⟨#[]⟩\/x∈lb) (fun _=>[]) (fun x=>[(8, .box b8 [.v (.int .i64 1), .v (.int .i64 c.op), .v (.string c.name), .v (.string c.arg), .v (.string c.val), .v (.string c.lab), .v (.bool c.fold),enc c.kids, .v (.string x), .v (.string ⟨#[]⟩), .v (.int .i64 0), .v (.int .i64 0), .v (.slice none 0 0)])]) ?_ ?_
   ·simp[h1]
    exact fun _ h0 y _ _ _ _=>⟨by omega,fun z hz=>⟨by omega,by omega,fun a ha=> .inr ⟨a,dM ha, .inl rfl⟩⟩⟩
   ·rintro x hx
    simp
    exact DF c.kids [] (.same _) (.nil _) ⟨⟨qrO (.inl ⟨rfl,hx,rfl,rfl,rfl,rfl⟩),Zd ⟨_,qdV (d:=c) rfl (qj8 hc)⟩ rfl⟩,qgm rfl (by show GC lb 1 _;rw[Ql c];exact hc)⟩
  ·refine DF [] [y,y'] (.nil _) (by simp) ?_
   refine⟨⟨?_,Zc (hdn (by omega)) U6 rfl hy.1.2 hy'.1.2⟩,ZG (by show ¬ (4:Int)=1;decide) rfl hy.2 hy'.2⟩
   show WP lb deep.toNat _
   rw[hdn (by omega)]
   exact .inr (.inl ⟨.inl rfl,rfl,rfl,rfl,rfl,rfl,y,y',rfl,hy.1.1,hy'.1.1⟩)
  ·refine DF [] [y,y'] (.nil _) (by simp) ?_
   refine⟨⟨?_,Zc (hdn (by omega)) U6 rfl hy.1.2 hy'.1.2⟩,ZG (by show ¬ (5:Int)=1;decide) rfl hy.2 hy'.2⟩
   show WP lb deep.toNat _
   rw[hdn (by omega)]
   exact .inr (.inl ⟨.inr rfl,rfl,rfl,rfl,rfl,rfl,y,y',rfl,hy.1.1,hy'.1.1⟩)
 ·rintro -hk
  have hrec:Rh n (L,deep -1,lb):=⟨by show(deep -1).toNat < n;omega,by show -10<=deep -1;omega,by show deep -1<=100;omega,hlb⟩
  have hdn:deep.toNat=(deep -1).toNat+1:=by omega
  have fin:∀ (mn mx:Int) (y:Pat) (H:ab),(mn,mx) ∈TR->J1 (L,deep -1,lb) y->Fin enc (J1 (L,deep,lb)) (.agg [.v (.int .i64 6), .v (.int .i64 0), .v (.string ⟨#[]⟩), .v (.string ⟨#[]⟩), .v (.string ⟨#[]⟩), .v (.string ⟨#[]⟩), .v (.bool false), .v (.slice none 0 0), .v (.string ⟨#[]⟩), .v (.string ⟨#[]⟩), .v (.int .i64 mn), .v (.int .i64 mx), .list 13 [enc y]]) H:=by
   intro mn mx y H hm hy
   refine DF [] [y] (.nil _) (by simp) ?_
   refine⟨⟨?_,qf5 hdn U6 rfl hy.1.2⟩,qgn (by show ¬ (6:Int)=1;decide) rfl hy.2⟩
   show WP lb deep.toNat _
   rw[hdn]
   exact .inr (.inr ⟨rfl,rfl,rfl,rfl,hm,y,rfl,hy.1.1⟩)
  simp only[NZ]at fin
  simp[h1,h4]
  intro y hy0 hy1
  refine⟨hy0,hy1,fun d hd=>?_⟩
  have:y=0\/y=1\/y=2\/y=3\/y=4\/y=5\/y=6:=by omega
  rcases this with rfl|rfl|rfl|rfl|rfl|rfl|rfl
  all_goals (simp at hd;subst hd;simp[h4])
  all_goals exact⟨by simp only[InR];omega,hrec,fun y hy=>fin _ _ y _ (by simp[TR]) hy⟩
end Go.Gv

namespace Go.Gv
open Go.Proofs
theorem Rs{n:Nat}{p:Pat}(h:WP [] n p):p.lab=⟨#[]⟩:=by
 rcases Hb h with(⟨_,h,_⟩|⟨_,_,h,_⟩)|⟨_,_,(⟨_,_,h,_⟩|⟨_,_,h,_⟩)⟩
 ·rcases h with h|h
  ·exact h
  ·simp at h
 ·exact h
 ·exact h
 ·exact h
theorem PZ:∀n p,WP [] n p->∀out:List B,bZ p out=out:=by
 refine Mb fun n p hp ih out=>?_
 rw[Dv,show vv out p.lab=out by rw[vv,if_pos (show p.lab=E0 from Rs hp)]]
 have:∀ks:List Pat,(∀k∈ks,∀o:List B,bZ k o=o)->ks.foldl (fun o k=>bZ k o) out=out:=by
  intro ks
  induction ks with
  | nil=>intro _;rfl
  | cons k ks ihk=>
    intro h
    rw[qvx,h k (by simp)]
    exact ihk fun z hz=>h z (by simp[hz])
 exact this _ fun k hk o=>by obtain⟨m,_,_,h⟩:=ih k hk;exact h o
theorem X0{C:Pat->Prop}(h0:∀n p,WP [] n p->C p):∀n p,WP [] n p->kA C p:=by
 refine Mb fun n p hp ih=>Uq (h0 n p hp) fun k hk=>?_
 obtain⟨m,_,_,h⟩:=ih k hk
 exact h
theorem Ju{f:Pat->Bool}(p:Pat)(h:eT f p=true):kA (fun q=>f q=true) p:=by
 induction p using pH with|_ p ih=>?_
 rw[ez,qt2,qt0]at h
 exact Uq h.1 fun k hk=>ih k hk (h.2 k hk)
theorem WJ(p:Pat):kA tE p->∀q∈uU p,q.op=1->q∈bF p:=by
 induction p using pH with|_ p ih=>?_
 intro hN q hq h1
 have hp:=jP hN
 rw[dw]
 cases p with
 | mk op cond lab reg mn mx ks=>
   rw[uU]at hq
   rcases qt1.1 hq with rfl|hq
   ·rw[if_pos h1];simp
   ·obtain⟨k,hk,hq⟩:=zC hq
    split
    ·rename_i e
     rcases hp with h|h|h|h
     ·have:=h.2.2.2.2;simp only at this;rw[this]at hk;cases hk
     ·have:=h.1;simp only at this e;omega
     ·have:=h.1;simp only at this e;omega
     ·have:=h.1;simp only at this e;omega
    ·exact qu0.2 ⟨k,hk,ih k hk (ql hN hk) q hq h1⟩
def qcn:Prop:=bP qob=true/\bP qec=true/\bP qoa=true/\bP qrm=true/\bP qrl=true
theorem yI{b:B}(h:(decide (1<=b.size) && decide (b.size<=32) && (b.data.toList.all fun c=>AN c.toNat))=true):bP b=true:=by
 simp only[qt2,decide_eq_true_eq,qt0]at h
 have hm:∀ (k:Nat) (c:UInt8),b.data[k]? =some c->AN c.toNat=true:=fun k c hc=>h.2 c (by rw[<-quq]at hc;exact qtY hc)
 rw[wm]
 exact⟨h.1.1,h.1.2,hm 0,fun k c hc=>by unfold XC;rw[hm k c hc];rfl⟩
theorem Mv:qcn:=⟨yI (by decide),yI (by decide),yI (by decide),yI (by decide),yI (by decide)⟩
theorem NC{lb:List B} :∀ {n:Nat} {c:Cond},GI lb n c->IX (n+1) c
 | n,_, .atom _ c h=>⟨by rw[DD h];decide,fun k hk=>by rw[DD h]at hk;cases hk⟩
 | _,_, .not n k h=>⟨qtU rfl,fun z hz=>by rw[qu5]at hz;subst hz;exact NC h⟩
 | _,_, .two n op a b _ h1 h2=>⟨qtU rfl,fun z hz=>by
    simp only[qt1,qus,or_false]at hz
    rcases hz with rfl|rfl
    ·exact NC h1
    ·exact NC h2⟩
theorem qgi{lb:List B}{n:Nat}{c:Cond}(h:GC lb n c):∃m,IX m c:=by
 cases h with
 | any=>exact⟨1,by decide,fun k hk=>by cases hk⟩
 | top v f h=>exact⟨1,qtU rfl,fun k hk=>by cases hk⟩
 | inner c h=>exact⟨_,NC h⟩
structure Ah (p:Pat):Prop where
 wp:∃n,n<=5/\WP [] n p
 lv:∀y∈bF p,GC [] 1 y.cond
structure qbN (c:Corpus):Prop where
 ok:OkCorp c
 few:c.toks.length<=60
def ql8(p:Pat):Qry:=⟨p,ou, [],0⟩
theorem NE{c:Corpus}{p:Pat}(hc:qbN c)(hp:Ah p):qhz c (ql8 p):=by
 obtain⟨n,hn,hw⟩:=hp.wp
 have hpat:lO bP p=true:=GT (fun l h=>by cases h) Mv n p hw (by omega)
 have hlab:bZ p []=[]:=PZ n p hw []
 obtain⟨_,hs1,hs2⟩:=qb0 n p hw hn
 have h3:(3:Int) ^n<=243:=by
  rcases n with _|_|_|_|_|_|n
  all_goals first|decide|omega
 have h2:2^ (n+1)<=64:=by
  rcases n with _|_|_|_|_|_|n
  all_goals first|decide|omega
 have hpn:tJ p<=1000000:=by
  omega
 have hl3:(bZ p []).length<=3:=by rw[hlab];decide
 have he:eT xV p=true/\eT uT p=true:=by
  unfold lO at hpat
  simp only[qt2]at hpat
  exact⟨hpat.1.1.2,hpat.2⟩
 have hN:kA tE p:=oY (Ju p he.1) fun q h=>(vQ q).1 h
 refine⟨⟨rfl,rfl,rfl,hpat,by show ms p<=256;omega,hl3,hpn,by rw[hc.ok.1];decide,fun x hx=>?_⟩,⟨hc.ok.sz,by have:=hc.few;omega,hpat,hl3,hpn,fun t ht=>?_⟩⟩
 ·have hg:=hp.lv x hx
  rw[show bZ (ql8 p).pat []=[]from hlab,hc.ok.1]
  exact⟨qgc hg (by omega),qgi hg⟩
 ·rw[show bZ (ql8 p).pat []=[]from hlab]
  intro q hq
  refine⟨hN q hq,Ju p he.2 q hq,fun h=>absurd (X0 (C:=fun q=>q.lab=⟨#[]⟩) (fun n p h=>Rs h) n p hw q hq) h,fun h1 s hs hlt=>?_⟩
  have hg:=hp.lv q (WJ p hN q hq h1)
  have hen:(uO c [] t).en<=c.toks.length:=by show min t.e (c.toks.length:Int)<=_;omega
  exact qj4 (E:=⟨(uO c [] t).c,s.p,(uO c [] t).lb,Oh (uO c [] t) s⟩) ⟨hc.ok,hs.1,by show s.p < (c.toks.length:Int);omega,Vi _ s⟩ hg (by decide)
theorem CO{l:List Match}(h:qc l):l.Nodup:=List.Pairwise.imp (fun {a b} hab e=>by
 subst e
 unfold OB at hab
 rw[As.2 rfl]at hab
 omega) h
theorem qgj{c:Corpus}{p:Pat}{l:List Match}(hn:c.toks.length<=60)(h:qc l)(h':∀m∈l,Oo c [] p m):l.length<=4096:=by
 have hm:∀m∈l,0<=m.b/\m.b < 60/\0<=m.e/\m.e<=60/\m.lbs=[]:=fun m hm=>by
  obtain⟨h0,h1,t,htx,s,hd,h2,h3,h4⟩:=h' m hm
  have hb:m.b < 60:=by omega
  refine⟨h0,hb,?_,?_,by rw[h4];exact quA.1 (Vi _ s)⟩
  ·omega
  ·have hen:(uO c [] t).en<=c.toks.length:=by show min t.e (c.toks.length:Int)<=_;omega
   have hle:m.b<=(uO c [] t).en:=by
    have hf:=List.find?_some htx
    simp only[qt2,decide_eq_true_eq]at hf
    show m.b<=min t.e (c.toks.length:Int)
    omega
   have:=(pg _ p _ _ hd ⟨h0,hle,fun i=>by
    have:0<=(uO c [] t).en:=Int.le_trans h0 hle
    rcases i with _|_|i <;> exact⟨qvA 0,this⟩⟩).2.1
   omega
 refine quL (LA (f:=fun m:Match=>m.b.toNat*64+m.e.toNat) (n:=4096) (CO h) (fun m h=>?_) fun x hx y hy e=>?_) (qt4 _)
 ·obtain⟨a,b,c,d,_⟩:=hm m h
  omega
 ·obtain⟨a,b,c,d,e1⟩:=hm x hx
  obtain⟨a',b',c',d',e2⟩:=hm y hy
  obtain⟨xb,xe,xl⟩:=x
  obtain⟨yb,ye,yl⟩:=y
  simp only at*
  have h1:xb=yb:=by omega
  have h2:xe=ye:=by omega
  rw[h1,h2,e1,e2]
end Go.Gv

namespace Go.Gv
end Go.Gv

namespace Go.Gv
open Go.Proofs
end Go.Gv

namespace Go.Gv
open Go.Proofs
open Cod (enc dec)
variable {S S0:Nat->Spc}
theorem qjK{c:Corpus}(h:Rc c)(hk:Lf c)(hl:(c.toks.length:Int)<=3*5):qbN c:=⟨qga h hk,by omega⟩
theorem PR{p:Pat}(h:Ah p):bZ p []=[]:=by obtain⟨n,_,hw⟩:=h.wp;exact PZ n p hw []
theorem I2{c:Corpus}{p:Pat}(hc:qbN c)(hp:Ah p){y:List Match×Int}(h:qhs (c,ql8 p) y):y.2=0/\Ot c [] p y.1/\y.1.length<=4096:=by
 rcases h with⟨h1,h2,h3⟩|⟨_,_,k,l,h3,h4⟩
 ·have h2:Ot c (bZ p []) p y.1:=h2
  rw[PR hp]at h2
  exact⟨h1,h2,h3⟩
 ·have h3:Rl c (bZ p []) p k l:=h3
  rw[PR hp]at h3
  have:=qgj hc.few h3.1 fun m hm=>((h3.2 m).1 hm).2
  omega
end Go.Gv

namespace Go.Gv
open Go.Proofs
theorem Dm:aq Tryz.prog ew [2006006] nZ na 103:=ai mixed (by kernel_rfl)
end Go.Gv

namespace Go.Gv
open Go.Proofs Cod
theorem QZ:Tri Tryz.prog nA (vI).pt:=
 ae (S:=aJ [(pU,s_m_Mod)]) (ag (aa MK ac)) Lx (fun _=>qtU rfl) (VI rfl)
theorem yf:∀n,Tri Tryz.prog eI (Bf n).pt
 | 0=>gW fun x h=>by have:=h.1;omega
 | n+1=>ae (S:=aJ [(bc,s_m_Next),(nA,vI),(eI,Bf n)]) (ag (aa fE (aa QZ (aa (yf n) ac)))) Gx (fun _=>qtU rfl) (RA n rfl rfl rfl)
theorem JU:Tri Tryz.prog eI (yT).pt:=uz (fun n=>yf n) (yP (fun x h=>h))
theorem K8:Tri Tryz.prog pT (Et).pt:=
 ae (S:=aJ [(bc,s_m_Next),(eI,yT)]) (ag (aa fE (aa JU ac))) IR (fun _=>qtU rfl) (VJ rfl rfl)
theorem wa:∀n,Tri Tryz.prog ew (mH n).pt
 | 0=>gW fun x h=>by have:=h.1;omega
 | n+1=>ae (S:=aJ [(bc,s_m_Next),(nA,vI),(pT,Et),(ew,mH n)]) (ag (aa fE (aa QZ (aa K8 (aa (wa n) ac))))) Dm (fun _=>qtU rfl) (Mq n rfl rfl rfl rfl)
end Go.Gv

namespace Go.Gv
open Go.Proofs
def WB(w:Int×Int)(d:Int):Prop:=0<=d/\w.1<=d/\(w.2= -1\/d<=w.2\/10000 < d)
theorem qfe{a b:Int×Int}{d e:Int}(ha:WB a d)(hb:WB b e):WB (Hd true a b) (d+e):=by
 unfold WB Hd at*
 rw[if_pos rfl]
 refine⟨by omega,by simp only;omega,?_⟩
 simp only
 split <;> omega
theorem qb4{a b:Int×Int}{d:Int}(ha:WB a d):WB (Hd false a b) d:=by
 unfold WB Hd at*
 rw[if_neg (by decide)]
 refine⟨by omega,by simp only;omega,?_⟩
 simp only
 split <;> omega
theorem qb3{a b:Int×Int}{d:Int}(ha:WB b d):WB (Hd false a b) d:=by
 unfold WB Hd at*
 rw[if_neg (by decide)]
 refine⟨by omega,by simp only;omega,?_⟩
 simp only
 split <;> omega
theorem Mc{d:Int} :∀ (ks:List Pat) (w:Int×Int),WB w d->WB (jl false ks w) d
 | [],w,h=>by rw[jl];exact h
 | k::ks,w,h=>by rw[jl];exact Mc ks _ (qb4 h)
def WD(r:Rn)(p:Pat):Prop:=∀s t,kX r p s t->WB (gh p) (t.p -s.p)
theorem Uc{r:Rn} :∀ (ks:List Pat) (w:Int×Int) (d:Int) (s t:St3),(∀k∈ks,WD r k)->WB w d->tO r ks s t->WB (jl true ks w) (d+ (t.p -s.p))
 | [],w,d,s,t,_,h,hD=>by
   rw[nG]at hD
   rw[jl,hD,Int.sub_self,Int.add_zero]
   exact h
 | k::ks,w,d,s,t,hk,h,hD=>by
   rw[iv]at hD
   obtain⟨u,a,b⟩:=hD
   rw[jl]
   have:=Uc ks _ _ u t (fun k h=>hk k (by simp[h])) (qfe h (hk k (by simp) s u a)) b
   rw[show d+ (t.p -s.p)=d+ (u.p -s.p) + (t.p -u.p) by omega]
   exact this
theorem Ud{r:Rn} :∀ (ks:List Pat) (w:Int×Int) (s t:St3),(∀k∈ks,WD r k)->tP r ks s t->WB (jl false ks w) (t.p -s.p)
 | [],w,s,t,_,hD=>by rw[DL]at hD;exact hD.elim
 | k::ks,w,s,t,hk,hD=>by
   rw[sa]at hD
   rw[jl]
   rcases hD with h|h
   ·exact Mc ks _ (qb3 (hk k (by simp) s t h))
   ·exact Ud ks _ s t (fun k h=>hk k (by simp[h])) h
theorem Rt{R:St3->St3->Prop}{w:Int×Int}(h:∀s t,R s t->WB w (t.p -s.p)):∀ (n:Nat) (s t:St3),Pow R n s t->0<=t.p -s.p/\w.1*n<=t.p -s.p/\(w.2= -1\/t.p -s.p<=w.2*n\/10000 < t.p -s.p)
 | 0,s,t,hp=>by
   have hp:s=t:=hp
   subst hp
   simp
 | n+1,s,t,⟨u,a,b⟩=>by
   have h1:=h s u a
   have h2:=Rt h n u t b
   unfold WB at h1
   rw[show((n+1:Nat):Int)=(n:Int) +1 by omega,Int.mul_add,Int.mul_add]
   omega
theorem qdS{r:Rn}{v:B->Bool}(p:Pat):lO v p=true->WD r p:=by
 induction p using pH with|_ p ih=>?_
 intro h s t hD
 obtain⟨h1,_,hn⟩:=rX h
 unfold uT at hn
 rw[decide_eq_true_eq]at hn
 rcases EU h1 with⟨ho,_⟩|⟨ho,_⟩|⟨ho,k,ks,hk⟩|⟨ho,k,hk⟩
 ·rw[X6 ho]
  have hp:=((qaH ho s t).1 hD).2.2
  have:t.p=s.p+1:=by
   rw[hp]
   unfold D0
   dsimp only
   split
   ·rfl
   ·generalize (gi r.lb fun z=>decide (z=p.lab)).toNat=i
    rcases i with _|_|i <;> rfl
  unfold WB
  simp only
  omega
 ·rw[X5 ho,((JG ho s t).1 hD).2]
  unfold WB
  simp only
  omega
 ·rw[X4 ho hk]
  have hkk:∀x∈p.kids,WD r x:=fun x hx=>ih x hx (qk h hx)
  rcases ho with ho|ho
  ·rw[qaG ho,hk,iv]at hD
   obtain⟨u,a,b⟩:=hD
   rw[show decide (p.op=4)=true from decide_eq_true ho,show t.p -s.p=(u.p -s.p) + (t.p -u.p) by omega]
   exact Uc ks _ _ u t (fun x hx=>hkk x (by rw[hk];simp[hx])) (hkk k (by rw[hk];simp) s u a) b
  ·rw[qeT ho,hk,sa]at hD
   rw[show decide (p.op=4)=false from decide_eq_false (by omega)]
   rcases hD with a|a
   ·exact Mc ks _ (hkk k (by rw[hk];simp) s t a)
   ·exact Ud ks _ s t (fun x hx=>hkk x (by rw[hk];simp[hx])) a
 ·rw[X3 ho hk]
  have hw:=ih k (by rw[hk];simp) (qk h (by rw[hk];simp))
  have hn:=hn ho
  rw[qaF ho hk]at hD
  obtain⟨u,a,n,hm,b⟩:=hD
  have ok:=GU k (qk h (by rw[hk];simp))
  have a1:=Rt hw _ s u a
  have b1:=Rt (fun s t q=>hw s t q.1) n u t b
  rw[Int.toNat_of_nonneg hn.1]at a1
  unfold qv at ok
  generalize gh k=w at*
  have e1:0<=w.1*n:=qvF ok.1 (by omega)
  refine⟨by omega,by simp only;omega,?_⟩
  simp only
  split
  ·rename_i h0
   rcases h0 with h0|h0
   ·have h2:p.mn=0:=by omega
    have h3:n=0:=by omega
    subst h3
    rw[h2]at a
    have a:s=u:=a
    have b:u=t:=b
    subst a;subst b
    omega
   ·rw[h0,Int.zero_mul]at a1 b1
    omega
  ·split
   ·exact .inl rfl
   ·rename_i h0 h2
    have h3:p.mn+n<=p.mx:=by omega
    have h4:w.2* (p.mn+n)<=w.2*p.mx:=Int.mul_le_mul_of_nonneg_left h3 (by omega)
    rw[Int.mul_add]at h4
    omega
theorem B2{i j:Int}{t:mh} :∀ {l:List mh} {s e:Int},yi s l e->l.find? (fun t=>decide (t.b<=i) && decide (i < t.e))=some t->i<=j->j < t.e->l.find? (fun t=>decide (t.b<=j) && decide (j < t.e))=some t
 | [],s,e,_,h,_,_=>by cases h
 | a::l,s,e,hc,h,hij,hj=>by
   rw[List.find?_cons]at h ⊢
   by_cases ha:a.b<=i/\i < a.e
   ·rw[show(decide (a.b<=i) && decide (i < a.e))=true by simp[ha]]at h
    cases h
    rw[show(decide (t.b<=j) && decide (j < t.e))=true by simp;omega]
   ·rw[show(decide (a.b<=i) && decide (i < a.e))=false by simp;omega]at h
    have h2:=B2 hc.2.2 h hij hj
    have hb:=List.find?_some h
    simp only[qt2,decide_eq_true_eq]at hb
    have hm:=List.mem_of_find?_eq_some h
    have:a.e<=t.b:=(Fg hc.2.2 t hm).1
    rw[show(decide (a.b<=j) && decide (j < a.e))=false by simp;omega]
    exact h2
end Go.Gv

namespace Go.Gv
open Go.Proofs
def YH(p r:Pat):Pat:=⟨4,lj,E0,E0,0,0, [p,r]⟩
theorem PQ{p:Pat}(hp:Ah p)(r:Rn):WD r p:=by
 obtain⟨n,hn,hw⟩:=hp.wp
 exact qdS p (GT (fun l h=>by cases h) Mv n p hw (by omega))
theorem Ux{p:Pat}(hp:Ah p){c:Corpus}{t:mh}{i:Int}{s:St3}(h:kX (uO c [] t) p (Gj i) s):s=Gj s.p:=by
 obtain⟨n,hn,hw⟩:=hp.wp
 have:=Tm (r:=uO c [] t) (qul _) (oY (X0 (C:=fun q=>q.lab=⟨#[]⟩) (fun n p h=>Rs h) n p hw) fun q h h2=>absurd h h2) h
 refine R1 rfl fun j hj=>?_
 rw[this j (qul _) hj]
 rcases j with _|_|j <;> rfl
def qiD(c:Corpus)(x y:Match)(sp:Span):Prop:=x.e=y.b/\(∃t,Gh c x.b=some t/\y.e<=t.e)/\sp=⟨x.b,y.e⟩
theorem Uv{c:Corpus}{p r:Pat}(hc:yi 0 c.texts c.toks.length)(hp:Ah p)(hr:Ah r)(wp:1<=(gh p).1)(wr:1<=(gh r).1)(sp:Span):
 (∃m,Oo c [] (YH p r) m/\sp=⟨m.b,m.e⟩) ↔ ∃x y,Oo c [] p x/\Oo c [] r y/\qiD c x y sp:=by
 have hd:∀t s s',kX (uO c [] t) (YH p r) s s'↔ ∃u,kX (uO c [] t) p s u/\kX (uO c [] t) r u s':=fun t s s'=>by
  rw[qaG rfl,show(YH p r).kids=[p,r]from rfl,iv]
  constructor
  ·rintro⟨u,h1,h2⟩
   rw[iv]at h2
   obtain⟨v,h2,h3⟩:=h2
   rw[nG]at h3
   exact⟨u,h1,h3 ▸h2⟩
  ·rintro⟨u,h1,h2⟩
   exact⟨u,h1,by rw[iv];exact⟨s',h2,by rw[nG]⟩⟩
 constructor
 ·rintro⟨m,⟨h0,h1,t,ht,s,hs,h2,h3,h4⟩,rfl⟩
  obtain⟨u,ha,hb⟩:=(hd _ _ _).1 hs
  have hu:=Ux hp ha
  have w1:=PQ hp _ _ _ ha
  have w2:=PQ hr _ _ _ hb
  unfold WB at w1 w2
  have w1:1<=u.p -m.b:=Int.le_trans wp w1.2.1
  have w2:1<=s.p -u.p:=Int.le_trans wr w2.2.1
  have hf:=List.find?_some ht
  simp only[qt2,decide_eq_true_eq]at hf
  have hen:(uO c [] t).en=min t.e c.toks.length:=rfl
  have hle:OC (uO c [] t).en (Gj m.b):=⟨h0,by show m.b<=_;rw[hen];omega,fun i=>by
   have:0<=(uO c [] t).en:=by rw[hen];omega
   rcases i with _|_|i <;> exact⟨qvA 0,this⟩⟩
  have hk:=(pg _ _ _ _ hs hle).2.1
  rw[hen]at hk
  refine⟨⟨m.b,u.p, []⟩,⟨u.p,s.p, []⟩,⟨h0,h1,t,ht,u,ha,by show m.b < u.p;omega,rfl,rfl⟩,⟨by show 0<=u.p;omega,by show u.p < _;omega,t,B2 hc ht (by show m.b<=u.p;omega) (by show u.p < t.e;omega),s,by rw[<-hu];exact hb,by show u.p < s.p;omega,rfl,rfl⟩,rfl,⟨t,ht,by show s.p<=t.e;omega⟩,?_⟩
  rw[h3]
 ·rintro⟨x,y,⟨h0,h1,t,ht,s,hs,h2,h3,h4⟩,⟨k0,k1,t',ht',s',hs',k2,k3,k4⟩,e1,⟨t2,ht2,e2⟩,rfl⟩
  rw[ht]at ht2
  cases ht2
  have hf:Gh c y.b=some t:=B2 hc ht (by omega) (by omega)
  rw[ht']at hf
  cases hf
  have hu:=Ux hp hs
  rw[<-h3,e1]at hu
  rw[hu]at hs
  exact⟨⟨x.b,y.e, []⟩,⟨h0,h1,t,ht,s',(hd _ _ _).2 ⟨_,hs,hs'⟩,by show x.b < s'.p;omega,k3,rfl⟩,rfl⟩
theorem qda{c:Corpus}{p:Pat}{m:Match}(h:Oo c [] p m):m.lbs=[]:=by
 obtain⟨_,_,t,_,s,_,_,_,h⟩:=h
 exact h
theorem qjJ{p r:Pat}(h:Ah p)(h':Ah r)(hn:∃n,n<=4/\WP [] n p/\WP [] n r):Ah (YH p r):=by
 obtain⟨n,hn,hp,hr⟩:=hn
 refine⟨⟨n+1,by omega, .inr (.inl ⟨.inl rfl,rfl,rfl,rfl,rfl,rfl,p,r,rfl,hp,hr⟩)⟩,fun y hy=>?_⟩
 rw[dw,if_neg (show ¬ (YH p r).op=1 by show ¬ (4:Int)=1;decide)]at hy
 have hy:y∈bF p++ (bF r++ []):=hy
 rw[qu4,qtZ]at hy
 rcases hy with hy|hy
 ·exact h.lv y hy
 ·exact h'.lv y hy
end Go.Gv

namespace Go.Gv
open Go.Proofs
def gd:CC:=by refine(fun(_:G.ap (G.gn Tryz.prog Tryz.f11 [] {})=?c)=>?c) ?h;case h=>conv=>lhs; (conv=>arg 1;reduce);dsimp only[G.ap]
def fV:List ak:=[.tmp 4]
theorem vM:aq Tryz.prog nE [] gd fV 151:=ai mixed (by kernel_rfl)
end Go.Gv
