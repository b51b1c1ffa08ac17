/- W12 -/
import Derived.Test.YtnffegdacbdhmaaGreatDoorGe11
set_option linter.all false
set_option maxRecDepth 100000
open Bool renaming forall_bool → fB', exists_bool → eB'
namespace Go.Gv
section
open Cod (enc dec)
variable {dq:Prop}
def H8(b:Nat)(L:List Int):Res:= .box b [.list 1 (L.map enc), .v (.int .i64 0)]
def qvt:PT:=λd ds H K=>∃l,(a1 (List Int)).dec ds=some l/\∀b L,K (.bptr d b 0) (ai H d (some (H8 b L)))
def qlU(cc:CC)(rs:List aj)(S:Nat->Spc):Prop:=
 ∀l:List Int,vc S cc (vE rs λr H'=>∃j b L,r= .bptr j b 0/\H' j=some (H8 b L)) (dR [enc l]) bS
section
variable {P:Program}{S:Nat->Spc}{f:Nat}{im:List Nat}{cc:CC}{rs:List aj}{N:Nat}
theorem qby(p:∀f,Tri dq P f (S f).pt)(h:zY P f im cc rs N)(t:1<=N)(u:qlU cc rs S):Tri dq P f qvt:=by
 obtain⟨zq,enter,fn,code,h1,h2,h3,h4,h5⟩:=h;refine pw p zq h1 h2 enter h3 h4 h5 ?_;rintro ds H d K ⟨l,w,x⟩;have hl:=(a1 (List Int)).le ds l w;refine⟨by rw[hl.1];exact t,_,bS,λ_=>0,hl,λi r h=>by simp[bS]at h,λi j r s h=>by simp[bS]at h,_,u l,?_⟩;rintro r H' ⟨j,b,L,rfl,y⟩;refine⟨.bptr d b 0,bS,ai H d (some (H8 b L)),λi=>if i=d then some j else none, .bptr _ _ _ _,λj q h=>by simp[bS]at h,x b L,λi s hi=>?_,λi c k s q hi A C E=>?_⟩
 ·by_cases e:i=d
  ·subst e;simp only[ai,if_true]at hi;cases hi;simpa using y
  ·simp only[ai,e,if_false]at hi ⊢;exact⟨hi,λk q h=>by simp[bS]at h⟩
 ·have a:i=d:=by
   by_cases e:i=d
   ·exact e
   ·simp[e]at C
  have b:c=d:=by
   by_cases e:c=d
   ·exact e
   ·simp[e]at E
  exact a.trans b.symm
abbrev s_m_New:Spc:=aG (a1 (List Int)) (λ_=>True) (λL:List Int=>D.tape L) (λ_ _=>True)
theorem qm8(hf:Tri dq P f qvt):Tri dq P f s_m_New.pt:=by
 intro O tp w vs ds H d K hO Z a hlen u F;simp only[s_m_New,mO]at F;cases E:(a1 (List Int)).dec ds with
 |none=>rw[E]at F;exact F.elim
 |some l=>
 rw[E]at F;obtain⟨_,hK⟩:=F;have p:∀c,bA H c->c<w.heap.size:=λc ⟨j,r,k1,k2⟩=>(a.ok j r k1).lt k2
 have q:∀c,¬bA bS c:=λc ⟨j,r,h,_⟩=>by simp[bS]at h
 have I:∀c,aR O tp H w c->aR (λc=>O c\/bA H c) tp bS w c:=λc hc=>⟨hc.1,λh=>h.elim hc.2.1 hc.2.2.2,hc.2.2.1,q c⟩
 obtain⟨c1,c2⟩:=hf (λc=>O c\/bA H c) tp w vs ds bS 0 (λr H'=>∃b L,r= .bptr 0 b 0/\H'=ai bS 0 (some (H8 b L))) (λc hc=>hc.elim (hO c) (p c)) (Z.mono λb h=>(q b h).elim)
  ⟨λi j r s b h=>by simp[bS]at h,λi r b h=>by simp[bS]at h,λi r h=>by simp[bS]at h⟩ hlen
  (λk x c hx hc=>(u k x c hx hc).mono (λ_ h=>h) (λc hc=>⟨I c hc,rfl⟩) (λb _=> .refl _ _)) ⟨l,E,λb L=>⟨b,L,rfl,rfl⟩⟩
 refine⟨c1,c2.mono ?_⟩;rintro e J ⟨x,r,H',t,rfl,⟨b,L,rfl,rfl⟩,tpx,tpn,tpl,st,loc,sat,hR⟩;cases hR;have W:ai bS 0 (some (H8 b L)) 0=some (H8 b L):=rfl;have M:bA (ai bS 0 (some (H8 b L))) b:=⟨0,_,W,rfl⟩
 have hbs:w.heap.size<=b:=(loc b M).elim (λh=>(q b h).elim) id;have hbl:b<J.heap.size:=(sat.ok 0 _ W).lt rfl;have hbtp:=sat.out 0 _ b W rfl;have hsz:w.heap.size<=J.heap.size:=st.size;have Q:∀c,c<w.heap.size->¬tp c->¬(t c\/c=b):=λc hc U h=>h.elim (λh=>(tpn c h).elim U (λh=>by
  have h:w.heap.size<=c:=h;omega)) (λh=>by omega)
 have same:∀c,c<w.heap.size->¬tp c->J.heap[c]? =w.heap[c]?:=λc hc U=>st.same c hc (q c) U
 obtain⟨xs,el,q1,q2,Y⟩:=sat.ok 0 _ W;obtain⟨xl⟩:=xs
 match xl,q2,Y,q1 with
 | [s,y],_,Y,q1=>
 have A:=(Y 0 s _ rfl rfl).2;have a2:=(Y 1 y _ rfl rfl).2.inv_v;subst a2;have hsl:slen s=L.length:=by
  generalize hes:L.map enc=es at A;have C:L.length=es.length:=by rw[<-hes];simp
  cases A with
  |nolist=>simp at C;simp[slen,C]
  |list=>rw[C];rfl
 refine⟨_, .tape L,H,λc=>t c\/c=b,rfl,hK L trivial,λc hc=> .inl (tpx c hc),λc hc=>hc.elim (tpn c) (λe=> .inr (e ▸hbs)),λc hc=>hc.elim (tpl c) (λe=>e ▸hbl),
  ⟨st.os,st.tape,st.output,st.size,λc hc _ U=>same c hc U,st.tapes,st.drawn⟩,λc hc=> .inl hc,
  ⟨a.dis,λi r c hi hc=>⟨(a.out i r c hi hc).1,Q c ((a.ok i r hi).lt hc) (a.out i r c hi hc).2⟩,λi r hi=>(a.ok i r hi).conv (λx d hr=>hr.mono (λc hc=> .inl (tpx c hc)) (λc hc=>⟨⟨qFX hc.1 hsz,hc.2.1,Q c hc.1 hc.2.2.1,hc.2.2.2⟩,same c hc.1 hc.2.2.1⟩) st.tapes) (λc hc=>same c ((a.ok i r hi).lt hc) (a.out i r c hi hc).2)⟩,?_⟩
 refine .tape b L s 0 el (.inr rfl) q1 (by omega) (by omega) hsl ?_;have a3:R t (aR (λc=>O c\/bA H c) t (ai bS 0 (some (H8 b L))) J) J s (.list 1 (L.map λn=>D.v (.int .i64 n))):=A;exact PK (λd E=>by simp at E;obtain⟨n,_,rfl⟩:=E;exact⟨n,rfl⟩) a3 (λc hc=>⟨⟨hc.1,λh=>hc.2.1 (.inl h),λh=>h.elim hc.2.2.1 (λe=>hc.2.2.2 (e ▸M)),λh=>hc.2.1 (.inr h)⟩,rfl⟩)
end
end
section
open Cod (enc dec)
variable {S S0:Nat->Spc}
def tR{X Y:Type}(_:X)(_:Y):Prop:=True
@[simp] theorem qDK{X Y:Type}(x:X)(y:Y):tR x y=True:=i' rfl
def ca{X:Type}(_:X):Prop:=True
abbrev s_r04_First:Spc:=aG (a1 U8) ca (enc (X:=Bool)) tR
def Xu:ak rC qg S (a1 U8) ca (enc (X:=Bool)) tR:=by
 rintro c -;simp[rC,qg]
abbrev s_r04_Next:Spc:=aG (a1 U8) ca (enc (X:=Bool)) tR
def qa8(h1:S lM=s_r04_First):ak uh tU S (a1 U8) ca (enc (X:=Bool)) tR:=by
 rintro c -;simp[uh,tU,h1,ca]
abbrev s_r04_ValidName:Spc:=aG (a1 B) ca (enc (X:=Bool)) tR
def Mm(h1:S lM=s_r04_First)(h2:S xa=s_r04_Next):ak iK ix S (a1 B) ca (enc (X:=Bool)) tR:=by
 rintro s -;simp[iK,ix,h1,h2,ca];intro _ h1 _ a;refine⟨by omega,λc _=>?_⟩;refine au (X:=Nat) [0] [] (λk=>k<=s.size) (λk=>[(3,enc (k:Int))]) (λ_=>[]) (λk=>s.size -k) 1 (by omega) ?_;intro k hk;simp[h2,ca,InR]
 repeat' first|apply And.intro|intro _
 all_goals first|omega|exact⟨k+1,by omega,by omega,by omega⟩
abbrev s_r01_Units:Spc:=aG (a1 B) (λs=>s.size<=100000) (enc (X:=List zW)) tR
theorem Xw:ak Ci Bg S (a1 B) (λs=>s.size<=100000) (enc (X:=List zW)) tR:=by
 rintro s hs;have hs:s.size<=100000:=hs;simp[Ci,Bg];intro b;refine aS (X:=Value×List zW) [0] [] (λx=>x.2.length<=100000/\∀u∈x.2,0<=u.pos/\u.pos<=100000) (λx=>[(3, .own 36 x.1)]) (λx=>[(36, .row x.1 dt 4 (x.2.map enc))]) ?_ ?_
 ·simp;refine au (X:=Nat×Value×List zW) [0,8] [] (λx=>x.1<=s.size/\x.2.2.length<=x.1/\∀u∈x.2.2,0<=u.pos/\u.pos<=x.1) (λx=>[(3, .own 36 x.2.1)]) (λx=>[(8, .iter b s x.1),(36, .row x.2.1 dt 4 (x.2.2.map enc))]) (λx=>s.size -x.1) (0, .slice none 0 0, []) (by simp) ?_ (hh:=by simp[isNilRow]);rintro⟨p,v,l⟩ ⟨h1,h2,h3⟩;simp at h1 h2 h3;simp;refine⟨λhp=>?_,λhp=>?_⟩
  ·have q:=qgS s p hp;refine aS (X:=Value×List zW) [0,4,5,8] [8] (λx=>x.2.length<=p/\∀u∈x.2,0<=u.pos/\u.pos<=p) (λx=>[(3, .own 36 x.1)]) (λx=>[(36, .row x.1 dt 4 (x.2.map enc))]) ?_ ?_
   ·simp;refineλ_=>⟨λh4 _=>?_,λh4=>⟨v,l,⟨h2,h3⟩,rfl, .inl ⟨rfl,rfl⟩⟩⟩
    obtain⟨a,d⟩:=aQ (l:=l) (k:=l.length -1) (by omega);have h5:=h3 a (aU d);simp only[InR];refine⟨by omega,λ_=>⟨by omega,by omega,by omega,by omega,λj c=>?_⟩⟩;rw[d]at c;cases c;refine⟨by omega,by omega,by omega,by omega,λj c=>?_⟩;rw[d]at c;cases c;refine⟨v,l.set (l.length -1) ⟨a.r,a.pos,p -a.pos,a.ok⟩,⟨by simpa using h2,λu hu=>?_⟩,rfl, .inl ⟨rfl,kN l _ ⟨a.r,a.pos,p -a.pos,a.ok⟩⟩⟩;rcases qGQ hu with hu|rfl
    ·exact h3 u hu
    ·exact h5
   ·rintro⟨v,l⟩ ⟨h4,h5⟩;simp at h4 h5;simp;refine⟨by omega,by omega,λv=>⟨p+ (Utf8.decode s p).2,v,l++ [⟨⟨(Utf8.decode s p).1⟩,p,0,false⟩],⟨q.2,by simp;omega,λu hu=>?_⟩,⟨rfl, .inl rfl, .inl ⟨rfl,WF l ⟨⟨(Utf8.decode s p).1⟩,p,0,false⟩⟩⟩,by omega⟩⟩;rcases qFL.1 hu with hu|hu
    ·have:=h5 u hu;omega
    ·simp at hu;subst hu;simp;omega
  ·exact⟨v,l,⟨by omega,λu hu=>by have:=h3 u hu;omega⟩,by simp⟩
 ·rintro⟨v,l⟩ ⟨h1,h2⟩;simp at h1 h2;simp;refine aS (X:=List zW) [3] [] (λx=>x.length=l.length) (λx=>[]) (λx=>[(36, .row v dt 4 (x.map enc))]) ?_ ?_
  ·simp;refineλ_=>⟨λh4 _=>?_,λh4=>⟨l,rfl, .inl rfl⟩⟩
   obtain⟨a,d⟩:=aQ (l:=l) (k:=l.length -1) (by omega);have h5:=h2 a (aU d);simp only[InR];refine⟨by omega,λ_ _=>⟨by omega,by omega,by omega,by omega,λj c=>?_⟩⟩;rw[d]at c;cases c;refine⟨by omega,by omega,by omega,by omega,λj c=>?_⟩;rw[d]at c;cases c;exact⟨l.set (l.length -1) ⟨a.r,a.pos,s.size -a.pos,a.ok⟩,by simp, .inl (kN l _ ⟨a.r,a.pos,s.size -a.pos,a.ok⟩)⟩
  ·intro l h3;simp;intro _;refine ah (X:=List zW) [3] [] l.length (λk x=>x.length=l.length) (λx=>[]) (λx=>[(36, .row v dt 4 (x.map enc))]) l (by simp) ?_ ?_
   ·intro k x hk h4;simp;obtain⟨a,d⟩:=aQ (l:=x) (k:=k) (by omega);simp[d];have h:k<x.length:=by omega
    exact⟨h,λ_=>⟨h,x.set k ⟨a.r,a.pos,a.sz,decide (a.sz=3)⟩,by simpa using h4, .inl (kN x k ⟨a.r,a.pos,a.sz,decide (a.sz=3)⟩)⟩,λ_=>⟨h,x.set k ⟨a.r,a.pos,a.sz,true⟩,by simpa using h4, .inl (kN x k ⟨a.r,a.pos,a.sz,true⟩)⟩⟩
   ·intro x h4;simp;exact aL x (fA dt (by simp)) trivial
abbrev s_r01_Valid:Spc:=aG (a1 B) (λs=>s.size<=100000) (enc (X:=Bool)) tR
def Xv(h1:S Ek=s_r01_Units):ak Ch Bf S (a1 B) (λs=>s.size<=100000) (enc (X:=Bool)) tR:=by
 rintro s hs;have hs:s.size<=100000:=hs;simp[Ch,Bf,h1];refine⟨hs,λl _=>?_⟩;refine ah (X:=Unit) [6] [] l.length (λ_ _=>True) (λ_=>[]) (λ_=>[]) () trivial ?_ ?_
 ·intro k _ hk _;simp[hk]
 ·intro _ _;simp
def vP(s:B)(y:Int):Prop:=y=0->s.size<=120
abbrev s_r04_ValidValue:Spc:=aG (a1 B) ca (enc (X:=Int)) vP
def JX(h1:S Ej=s_r01_Valid):ak rB qf S (a1 B) ca (enc (X:=Int)) vP:=by
 rintro s -;simp[rB,qf,h1];refineλ_=>⟨λh a=>by omega,λhs=>⟨by omega,λa=>by omega,λhlen=>?_⟩⟩
 refine ah (X:=Unit) [12] [] (s.data.toList.length) (λ_ _=>True) (λ_=>[]) (λ_=>[]) () trivial ?_ ?_ (hlen:=by simpa using hlen)
 ·intro k _ hk _;simp at hk;simp[hk,vP]
 ·intro _ _;simp[vP];omega
abbrev s_r05_Parse:Spc:=aG (a1 B) ca (kZ (Y:=List B) (Z:=Int)) tR
theorem Xs(h1:S iE=s_r04_ValidValue):ak Cg Be S (a1 B) ca (kZ (Y:=List B) (Z:=Int)) tR:=by
 rintro s -;simp[Cg,Be,h1,ca];intro e he b _ d;have hs:=he b;have a:0<s.size:=by
  rcases qGZ s.size with h|h
  ·exact absurd (ByteArray.size_eq_zero_iff.1 h) d
  ·exact h
 refine⟨a,λc _ _=>⟨by simp[InR];omega,by omega,by omega,λc' _ _=>?_⟩⟩;refine au (X:=Nat×Nat×Value×List B) [0,5] [] (λx=>1<=x.1/\x.1<=s.size/\x.2.1<=x.1/\x.2.2.2.length<=x.1) (λx=>[(8,enc (x.1:Int)),(7,enc (x.2.1:Int)),(6, .own 49 x.2.2.1)]) (λx=>[(49, .row x.2.2.1 aw 1 (x.2.2.2.map enc))]) (λx=>s.size -x.1) (1,1, .slice none 0 0, []) (by simp;omega) ?_ (hh:=by simp[isNilRow]);rintro⟨i,fr,v,l⟩ ⟨j,p,q,r⟩;simp at j p q r;simp;refine⟨λhi=>⟨hi,λc _=>⟨λ_=>⟨by simp[InR];omega,i+1,fr,v,l,⟨by omega,by omega,by omega,by omega⟩,⟨⟨rfl,rfl,rfl⟩, .inl ⟨rfl,rfl⟩⟩,by omega⟩,λ_ _=>⟨by omega,by omega,by omega,by omega,λv=>⟨by simp[InR];omega,i+1,i+1,v,l++ [s.extract fr i],⟨by omega,by omega,by omega,by simp;omega⟩,⟨⟨rfl,rfl,rfl⟩, .inl ⟨rfl,WF l _⟩⟩,by omega⟩⟩⟩⟩,λ_=>?_⟩;refine au (X:=Nat) [6] [49] (λx=>1<=x/\x<=l.length+1) (λx=>[(9,enc (x:Int))]) (λx=>[]) (λx=>l.length+1 -x) 1 (by simp) ?_;intro k hk;simp;exactλ_=>⟨λ_=>⟨by simp[InR];omega,by omega,by omega,by omega,λ_ _=>⟨by omega,λ_ _ _=>⟨by simp[InR];omega,k+1,by omega,by omega,by omega⟩⟩⟩,λ_=>⟨l,fA aw (by simp)⟩⟩
def Dp{X:Type}[Cod X](l:List X)(k:Nat):List.take k (List.map enc l)=List.map enc (List.take k l):=List.map_take.symm
def qkS{X:Type}[Cod X](l:List X)(k:Nat):List.drop k (List.map enc l)=List.map enc (List.drop k l):=List.map_drop.symm
abbrev s_r06_sign:Spc:=aG (a1 Bool) ca (enc (X:=Int)) tR
def qa6:ak EE DB S (a1 Bool) ca (enc (X:=Int)) tR:=by
 rintro s -;simp[EE,DB,-fB']
abbrev s_r06_compare:Spc:=aG (a2 B B) ca (enc (X:=Int)) tR
def Q7:ak xF wy S (a2 B B) ca (enc (X:=Int)) tR:=by
 rintro⟨a,b⟩ -;simp[xF,wy]
abbrev s_r06_CompareRegions:Spc:=aG (a2 Region Region) ca (enc (X:=Int)) tR
def Dc(h1:S Hg=s_r06_sign)(h2:S zy=s_r06_compare):ak kK ku S (a2 Region Region) ca (enc (X:=Int)) tR:=by
 rintro⟨a,b⟩ -;simp[kK,ku,h1,h2,ca,-fB'];intro _ _ _;refine au (X:=Nat) [2,3] [] (λk=>True) (λk=>[(5,enc (k:Int))]) (λ_=>[]) (λk=>a.kv.length -k) 0 trivial ?_;intro k _;simp[h1,h2,ca,-fB']
 repeat' first|apply And.intro|intro _
 all_goals first|omega|(simp only[InR];omega)|exact⟨k+1,by omega,by omega⟩
abbrev s_r06_Attributes:Spc:=aG (a1 (List Attr)) ca (kZ (Y:=Int) (Z:=Int)) tR
theorem JW(h1:S cD=s_r04_ValidName):ak rA qe S (a1 (List Attr)) ca (kZ (Y:=Int) (Z:=Int)) tR:=by
 rintro l -;simp[rA,qe,h1,ca,-fB'];intro _ _ _ _ _;refine ah (X:=Unit) [0,14] [] (l.length) (λ_ _=>True) (λ_=>[]) (λ_=>[]) () trivial ?_ ?_ (hlen:=by first|omega|(simp;omega))
 ·intro k _ hk _;obtain⟨x,c⟩:=aQ hk;simp[h1,ca,-fB',c,hk];refineλb=>⟨by omega,λ_=>?_⟩
  refine ah (X:=Unit) [0,4,5,14,15,16,28] [5] (min k l.length) (λ_ _=>True) (λ_=>[]) (λ_=>[]) () trivial ?_ ?_ (hlen:=by first|omega|(simp;omega))
  ·intro j _ a _;obtain⟨y,d⟩:∃y,(l.take k)[j]? =some y:=aQ (by simpa using a);simp[d,Dp, -List.map_take];simpa using a
  ·intro _ _;simp
 ·intro _ _;simp
abbrev s_r06_Value:Spc:=aG (a2 Attr B) ca (enc (X:=Int)) tR
def Xp(h1:S Ei=s_r05_Parse)(h2:S iE=s_r04_ValidValue):ak Cb Bb S (a2 Attr B) ca (enc (X:=Int)) tR:=by
 rintro⟨a,b⟩ -;simp[Cb,Bb,h1,h2,ca,-fB']
abbrev s_r06_pairs:Spc:=aG (a1 (List Pair)) ca (enc (X:=Int)) tR
def Xn(h1:S cD=s_r04_ValidName)(h2:S iE=s_r04_ValidValue):ak B9 A9 S (a1 (List Pair)) ca (enc (X:=Int)) tR:=by
 rintro l -;simp[B9,A9,h1,h2,ca,-fB'];intro _ _ _;refine ah (X:=Unit) [0,9] [] (l.length) (λ_ _=>True) (λ_=>[]) (λ_=>[]) () trivial ?_ ?_ (hlen:=by first|omega|(simp;omega))
 ·intro k _ hk _;obtain⟨x,a⟩:=aQ hk;simp[h1,h2,ca,-fB',a,hk]
  ((repeat' first|apply And.intro|intro _)<;>first|omega|(simp only[InR];omega)|assumption|trivial)
 ·intro _ _;simp
abbrev s_r06_within:Spc:=aG (a3 Corpus Int Int) ca (enc (X:=Bool)) tR
def Uf:ak zH yR S (a3 Corpus Int Int) ca (enc (X:=Bool)) tR:=by
 rintro⟨c,x,y⟩ -;simp[zH,yR,-fB'];intro _;refine ah (X:=Unit) [1,2,10] [] (c.texts.length) (λ_ _=>True) (λ_=>[]) (λ_=>[]) () trivial ?_ ?_ (hlen:=by first|omega|(simp;omega))
 ·intro k _ hk _;obtain⟨t,a⟩:=aQ hk;simp[a,hk,-fB']
 ·intro _ _;simp
abbrev s_r06_bare:Spc:=aG (a2 (List Int) (List B)) (λx=>x.1.length=x.2.length) (enc (X:=Bool)) tR
def qa7:ak EF DD S (a2 (List Int) (List B)) (λx=>x.1.length=x.2.length) (enc (X:=Bool)) tR:=by
 rintro⟨l,r⟩ hl;have hl:l.length=r.length:=hl;simp[EF,DD,-fB'];intro _;refine ah (X:=Unit) [0,1] [] (l.length) (λ_ _=>True) (λ_=>[]) (λ_=>[]) () trivial ?_ ?_ (hlen:=by first|omega|(simp;omega))
 ·intro k _ hk _;obtain⟨t,b⟩:=aQ hk;obtain⟨u,c⟩:=aQ (l:=r) (k:=k) (by omega);have a:k<r.length:=by omega
  simp[b,c,hk,a,-fB']
 ·intro _ _;simp
abbrev s_r06_TextAt:Spc:=aG (a2 Corpus Int) ca (enc (X:=Int)) tR
def Ui:ak zK yU S (a2 Corpus Int) ca (enc (X:=Int)) tR:=by
 rintro⟨c,x⟩ -;simp[zK,yU,-fB'];intro _;refine ah (X:=Unit) [1,8] [] (c.texts.length) (λ_ _=>True) (λ_=>[]) (λ_=>[]) () trivial ?_ ?_ (hlen:=by first|omega|(simp;omega))
 ·intro k _ hk _;obtain⟨t,a⟩:=aQ hk;simp[a,hk,-fB']
 ·intro _ _;simp
abbrev s_r06_FindText:Spc:=aG (a2 Corpus B) ca (enc (X:=Int)) tR
def NP:ak uY ux S (a2 Corpus B) ca (enc (X:=Int)) tR:=by
 rintro⟨c,x⟩ -;simp[uY,ux,-fB'];intro _;refine ah (X:=Unit) [1,8] [] (c.texts.length) (λ_ _=>True) (λ_=>[]) (λ_=>[]) () trivial ?_ ?_ (hlen:=by first|omega|(simp;omega))
 ·intro k _ hk _;obtain⟨t,a⟩:=aQ hk;simp[a,hk,-fB']
 ·intro _ _;simp
abbrev s_r06_sameAttributes:Spc:=aG (a2 (List Attr) (List Attr)) ca (enc (X:=Bool)) tR
def Db:ak kJ kq S (a2 (List Attr) (List Attr)) ca (enc (X:=Bool)) tR:=by
 rintro⟨l,r⟩ -;simp[kJ,kq,-fB'];intro _ _ he _;refine ah (X:=Unit) [0,1] [] (l.length) (λ_ _=>True) (λ_=>[]) (λ_=>[]) () trivial ?_ ?_ (hlen:=by first|omega|(simp;omega))
 ·intro k _ hk _;obtain⟨t,b⟩:=aQ hk;obtain⟨u,c⟩:=aQ (l:=r) (k:=k) (by omega);have a:k<r.length:=by omega
  simp[b,c,hk,a,-fB']
 ·intro _ _;simp
abbrev s_r06_cyclic:Spc:=aG (a2 (List Int) Int) (λx=>0<=x.2/\x.2<x.1.length) (enc (X:=Bool)) tR
def Uh:ak zJ yT S (a2 (List Int) Int) (λx=>0<=x.2/\x.2<x.1.length) (enc (X:=Bool)) tR:=by
 rintro⟨l,i⟩ hl;have hl:0<=i/\i<l.length:=hl;simp[zJ,yT,-fB'];intro _;refine ah (X:=Int) [0,1] [] l.length (λ_ a=>0<=a/\a<l.length) (λa=>[(5,enc a)]) (λ_=>[]) i hl ?_ ?_
 ·intro k a hk c;simp[-fB'];refine⟨c.1,c.2,λb _ h1 _ h2 _=>⟨h1,h2⟩⟩
 ·intro _ _;simp
abbrev s_r06_tokens:Spc:=aG (a1 Corpus) ca (kZ (Y:=Int) (Z:=Int)) tR
def Ug(h1:S Ef=s_r06_Value):ak zI yS S (a1 Corpus) ca (kZ (Y:=Int) (Z:=Int)) tR:=by
 rintro c -;simp[zI,yS,h1,ca,-fB'];intro _ _ _;refine ah (X:=Unit) [1,14] [] (c.toks.length) (λ_ _=>True) (λ_=>[]) (λ_=>[]) () trivial ?_ ?_ (hlen:=by first|omega|(simp;omega))
 ·intro k _ hk _;obtain⟨t,b⟩:=aQ hk;simp[b,hk,-fB'];intro d h l p;refine ah (X:=Unit) [1,4,14,15,16,28] [] (c.toks[k].length) (λ_ _=>True) (λ_=>[]) (λ_=>[]) () trivial ?_ ?_ (hlen:=by first|omega|(simp;omega))
  ·intro j _ q _;have a:j<c.attrs.length:=by omega
   simp[q,a,h1,ca,-fB']
  ·intro _ _;simp
 ·intro _ _;simp
abbrev s_r06_texts:Spc:=aG (a1 Corpus) ca (kZ (Y:=Int) (Z:=Int)) tR
theorem Xm(h1:S cD=s_r04_ValidName)(h2:S yv=s_r06_pairs):ak B8 A8 S (a1 Corpus) ca (kZ (Y:=Int) (Z:=Int)) tR:=by
 rintro c -;simp[B8,A8,h1,h2,ca,-fB'];intro _ _ _ _ _ _;refine ah (X:=Int) [1,4,26] [] c.texts.length (λ_ _=>True) (λa=>[(5,enc a)]) (λ_=>[]) 0 trivial ?_ ?_
 ·intro k a hk _;obtain⟨t,h⟩:=aQ hk;simp[h,hk,h1,ca,-fB'];refineλb=>⟨by omega,λ_=>?_⟩
  refine ah (X:=Unit) [1,4,5,6,7,26,27,28,41] [7] (min k c.texts.length) (λ_ _=>True) (λ_=>[]) (λ_=>[]) () trivial ?_ ?_ (hlen:=by first|omega|(simp;omega))
  ·intro j _ d _;obtain⟨y,l⟩:∃y,(c.texts.take k)[j]? =some y:=aQ (by simpa using d);simp[l,Dp, -List.map_take];simpa using d
  ·intro _ _;simp[h2,ca,-fB']
   ((repeat' first|apply And.intro|intro _)<;>first|omega|(simp only[InR];omega)|assumption|trivial)
 ·intro _ _;simp
abbrev s_r06_regions:Spc:=aG (a1 Corpus) ca (kZ (Y:=Int) (Z:=Int)) tR
theorem Q6(h1:S cD=s_r04_ValidName)(h2:S yv=s_r06_pairs)(h3:S vM=s_r06_within)(h4:S gJ=s_r06_CompareRegions):ak xE wx S (a1 Corpus) ca (kZ (Y:=Int) (Z:=Int)) tR:=by
 rintro c -;simp[xE,wx,h1,h2,h3,h4,ca,-fB'];intro _ _ _;refine ah (X:=Unit) [1,15] [] (c.regs.length) (λ_ _=>True) (λ_=>[]) (λ_=>[]) () trivial ?_ ?_ (hlen:=by first|omega|(simp;omega))
 ·intro k _ hk _;obtain⟨t,h⟩:=aQ hk;simp[h,hk,h1,h2,h3,h4,ca,-fB'];refineλb=>⟨λh0=>⟨by simp only[InR];omega,by omega,by omega,λa _ y _=>⟨by simp only[InR];omega,by omega,by omega,λ_=>?_⟩⟩,λh0=>⟨by simp only[InR];omega,by omega,by omega,λ_=>?_⟩⟩
  all_goals
   refine ah (X:=Nat) [1,4,5,15,16,17,62] [5] (min (k+1) c.regs.length) (λj d=>d<=j) (λd=>[(7,enc (d:Int))]) (λ_=>[]) 0 (by omega) ?_ ?_
   ·intro j d l p;obtain⟨y,q⟩:∃y,(c.regs.take (k+1))[j]? =some y:=aQ (by simpa using l);simp[q,Dp, -List.map_take,-fB']
    repeat' first|apply And.intro|intro _
    all_goals first|omega|(simp only[InR];omega)|exact⟨d,by omega,by omega⟩|exact⟨d+1,by omega,by omega⟩|(simp;omega)|skip
   ·intro d p;simp
 ·intro _ _;simp
def qe0(x:List AS×Corpus):Prop:=∀(j:Nat) (y:AS),x.1[j]? =some y->y.par<j
abbrev s_r06_Nodes:Spc:=aG (a2 (List AS) Corpus) qe0 (kZ (Y:=Int) (Z:=Int)) tR
theorem Xr(h1:S cD=s_r04_ValidName)(h3:S vM=s_r06_within):ak Cf Bd S (a2 (List AS) Corpus) qe0 (kZ (Y:=Int) (Z:=Int)) tR:=by
 rintro⟨l,c⟩ hp;have hp:∀(j:Nat) (y:AS),l[j]? =some y->y.par<j:=hp;simp[Cf,Bd,h1,h3,ca,-fB'];intro _ _ _;refine⟨by omega,by omega,λx _=>?_⟩;refine ah (X:=List Int) [0,3,18] [] l.length (λ_ d=>d.length=l.length/\∀a∈d,0<=a/\a<=40) (λ_=>[(6, .own 17 x)]) (λd=>[(17, .row x bj 1 (d.map enc))]) (List.replicate l.length 0) (by simp) ?_ ?_
 ·rintro k d hk ⟨p,h⟩;obtain⟨t,s⟩:=aQ hk;have w:=hp k t s;have q:=qFG.1 s;obtain⟨_,q⟩:=q;simp[s,q,hk,h1,h3,ca,-fB'];refineλb=>⟨by simp only[InR];omega,?_⟩
  refine aS (X:=Int) [0,3,6,7,8,18,19,20] [8,17] (λ_=>True) (λa=>[(9,enc a)]) (λ_=>[]) ?_ ?_
  ·simp;refine au (X:=Int) [0,3,6,7,8,18,19,20] [8,17] (λa=>a<k) (λa=>[(9,enc a)]) (λ_=>[]) (λa=>(a+1).toNat) ((k:Int) -1) (by omega) ?_;intro a A;simp;intro h0 _;refine⟨h0,by omega,λy C=>?_⟩;have:=hp a.toNat y C;exact⟨y.par,by omega,rfl,by omega⟩
  ·intro a _;refine aS (X:=Unit) [0,3,6,7,8,18,19,20] [8,17] (λ_=>True) (λ_=>[]) (λ_=>[]) ?_ ?_
   ·simp
   ·rintro - -;refine aS (X:=List Int) [0,3,6,7,8,18,19,20] [8] (λd=>d.length=l.length/\∀a∈d,0<=a/\a<=40) (λ_=>[]) (λd=>[(17, .row x bj 1 (d.map enc))]) ?_ ?_
    ·simp;refine⟨λh0=>⟨h0,by omega,λy _ _ _=>⟨h0,by omega,by omega,λa2 r=>⟨by omega,λa3 _=>⟨d.set k a2,⟨by simpa using p,λa4 h4=>?_⟩, .inl (kN d k a2)⟩⟩⟩⟩,λ_=>⟨d,⟨p,h⟩, .inl rfl⟩⟩;rcases qGQ h4 with h4|rfl
     ·exact h _ h4
     ·exact h _ (aU r)
    ·rintro d ⟨p,h⟩;refine aS (X:=Unit) [0,3,6,7,18,19,20] [17] (λ_=>True) (λ_=>[]) (λ_=>[]) ?_ ?_
     ·simp;refine⟨by simp only[InR];omega,?_⟩;refine au (X:=Int) [0,3,6,7,8,18,19,20] [8,17] (λa=>a<k) (λa=>[(11,enc a)]) (λ_=>[]) (λa=>(a+1).toNat) ((k:Int) -1) (by omega) ?_;intro a A;simp;exactλh0=>⟨h0,by omega,λy _=>⟨λ_=>⟨h0,by omega⟩,λ_=>⟨by simp only[InR];omega,a -1,by omega,rfl,by omega⟩⟩⟩
     ·rintro - -;simp;refine⟨by omega,λa2 r=>?_⟩;have h4:=h _ (aU r);refine⟨by simp only[InR];omega,by omega,λ_ _=>⟨by omega,λE h5=>?_⟩⟩;have u:k<d.length:=by omega
      rw[qGM (by simpa using u)]at h5;cases h5;simp;refineλh6=>⟨d.set k (a2+1),⟨by simpa using p,λa4 h4=>?_⟩, .inl (kN d k (a2+1))⟩
      rcases qGQ h4 with h4|rfl
      ·exact h _ h4
      ·omega
 ·intro d F;simp
def qeX(c:Corpus):Prop:=True
abbrev s_r06_heads:Spc:=aG (a1 Corpus) qeX (kZ (Y:=Int) (Z:=Int)) tR
theorem Xo(h1:S cD=s_r04_ValidName)(h3:S Hh=s_r06_bare)(h4:S BS=s_r06_TextAt)(h5:S BR=s_r06_cyclic):ak Ca Ba S (a1 Corpus) qeX (kZ (Y:=Int) (Z:=Int)) tR:=by
 rintro c -;simp[Ca,Ba,h1,h3,h4,h5,ca,-fB'];intro _;refine aS (X:=Unit) [1,4] [] (λ_=>c.heads.length=c.rels.length) (λ_=>[]) (λ_=>[]) ?_ ?_
 ·simp
  ((repeat' first|apply And.intro|intro _)<;>first|omega|(simp only[InR];omega)|assumption|trivial)
 ·rintro -hl;refine aS (X:=Unit) [1,4] [] (λ_=>True) (λ_=>[]) (λ_=>[]) ?_ ?_
  ·simp[h1,h3,h4,h5,ca,hl,-fB']
  ·rintro - -;simp;intro _;refine ah (X:=Unit) [1,4,36] [] (c.heads.length) (λ_ _=>True) (λ_=>[]) (λ_=>[]) () trivial ?_ ?_ (hlen:=by first|omega|(simp;omega))
   ·intro k _ hk _;have a:k<c.rels.length:=by omega
    simp[hk,a];refine aS (X:=Unit) [1,4,5,36,37,38] [] (λ_=>True) (λ_=>[]) (λ_=>[]) ?_ ?_
    ·simp[h1,h3,h4,h5,ca,hk,a,hl,-fB']
    ·rintro - -;refine aS (X:=Unit) [1,4,5,36,37,38] [] (λ_=>True) (λ_=>[]) (λ_=>[]) ?_ ?_
     ·simp[h1,h3,h4,h5,ca,hk,a,hl,-fB']
     ·rintro - -;simp[h1,h3,h4,h5,ca,hk,a,hl,-fB']
   ·intro _ _;simp
def ts(c:Corpus):Prop:=∀(j:Nat) (y:AS),c.nodes[j]? =some y->y.par<j
abbrev s_r06_Validate:Spc:=aG (a1 Corpus) ts (qow (Y:=Int) (Z:=Int) (W:=Int)) tR
def NO(h1:S sQ=s_r06_Attributes)(h2:S BQ=s_r06_tokens)(h3:S Ed=s_r06_texts)(h4:S zx=s_r06_regions)(h5:S Eh=s_r06_Nodes)(h6:S Ee=s_r06_heads):ak uX uw S (a1 Corpus) ts (qow (Y:=Int) (Z:=Int) (W:=Int)) tR:=by
 rintro c hc;simp[uX,uw,h1,h2,h3,h4,h5,h6,ca,-fB'];exact⟨hc,trivial⟩
abbrev s_r06_Valid:Spc:=aG (a1 Corpus) ts (enc (X:=Bool)) tR
def Xq(h1:S wY=s_r06_Validate):ak Ce Bc S (a1 Corpus) ts (enc (X:=Bool)) tR:=by
 rintro c hc;simp[Ce,Bc,h1,ca,-fB'];exact hc
theorem qrM{b:Type}(m:List b)(bl x:b)(j:Nat)(a:j<=m.length):(List.take (j+1) (m++ [bl]) ++ (List.take (m.length -j) (List.drop j (List.take (m.length+1) (m++ [bl]))) ++List.drop (j+1+min (m.length+1-j) (m.length-j)) (m++ [bl]))).set j x=m.take j++x::m.drop j:=by
 have h1:List.take (m.length+1) (m++ [bl])=m++ [bl]:=qGD (by simp);have h2:List.drop j (m++ [bl])=m.drop j++ [bl]:=List.drop_append_of_le_length a;have h3:List.take (m.length -j) (m.drop j++ [bl])=m.drop j:=by rw[List.take_left'];simp
 have h4:List.drop (j+1+min (m.length+1-j) (m.length-j)) (m++ [bl])=[]:=List.drop_of_length_le (by simp;omega);rw[h1,h2,h3,h4,qGW];have h5:List.take (j+1) (m++[bl])=m.take j++ [(m++ [bl])[j]'(by simp;omega)]:=by
  rw[List.take_succ_eq_append_getElem (by simp;omega),List.take_append_of_le_length a]
 rw[h5,qGO,List.set_append_right _ _ (by simp;omega)];simp[a]
def qob{a:Type}{m:List a}{bl x:a}{j n:Nat}(hn:m.length=n)(b:j<=n):(List.take (j+1) (m++ [bl]) ++ (List.take (n -j) (List.drop j (List.take (n+1) (m++ [bl]))) ++List.drop (j+1+min (n+1-j) (n-j)) (m++ [bl]))).set j x=m.take j++x::m.drop j:=by
 subst hn;exact qrM m bl x j b
def ql3(l m:List Region):Prop:=m.length=l.length/\∀x∈m,x∈l
def qc0(l:List Region):Prop:=l.length<=1000000
abbrev s_r06_SortRegions:Spc:=aG (a1 (List Region)) qc0 (enc (X:=List Region)) ql3
theorem HB(h1:S gJ=s_r06_CompareRegions):ak pd oq S (a1 (List Region)) qc0 (enc (X:=List Region)) ql3:=by
 rintro l hl;have hl:l.length<=1000000:=hl;simp[pd,oq,-fB'];intro _;refine ah (X:=Value×List Region) [7] [] l.length (λk x=>x.2.length=k/\∀y∈x.2,y∈l) (λx=>[(3, .own 32 x.1)]) (λx=>[(32, .row x.1 pv 4 (x.2.map enc))]) (.slice none 0 0, []) (by simp) ?_ ?_ (hh:=by simp[isNilRow])
 ·rintro k ⟨v,m⟩ hk ⟨p,c⟩;simp at p c;simp[hk];refineλb _=>?_
  refine aS (X:=Nat) [3,5,7,8,9] [5,32] (λx=>x<=m.length) (λx=>[(6,enc (x:Int))]) (λx=>[]) ?_ ?_
  ·simp;refine au (X:=Nat) [3,5,7,8,9] [5,32] (λx=>x<=m.length) (λx=>[(6,enc (x:Int))]) (λx=>[]) (λx=>x) m.length (by simp) ?_;intro j q;simp[h1,ca];refine⟨λh0=>⟨by simp only[InR];omega,by omega,by omega,by omega,λa _ y=>⟨λ_=>⟨by simp only[InR];omega,j -1,by omega,by omega,by omega⟩,λ_=>⟨j,q,rfl⟩⟩⟩,λ_=>⟨j,q,rfl⟩⟩
  ·intro j q;simp;have r:D.agg [D.v (Value.string l[k].ty),D.v (Value.int IntKind.i64 l[k].b),D.v (Value.int IntKind.i64 l[k].e),D.list 2 (List.map enc l[k].kv)]=enc l[k]:=by simp
   refine⟨by omega,by omega,λv=>⟨by simp only[InR];omega,by omega,by omega,by omega,by omega,by omega,λd _=>⟨v,m.take j++l[k]::m.drop j,⟨by simp;omega,λy s=>?_⟩,rfl, .inl ⟨rfl,?_⟩⟩⟩⟩
   ·rcases qFL.1 s with h|h
    ·exact c _ (qF6 h)
    ·rcases qFP.1 h with rfl|h
     ·exact qG6 hk
     ·exact c _ (qGB h)
   ·refine(qob (by simp) q).trans ?_;rw[r,Dp,qkS,qHx,qGb]
 ·rintro⟨v,m⟩ ⟨p,c⟩;simp at p c;simp;exact aL m (fA pv (by simp)) ⟨p,c⟩
def ER(s:Int):List xX->Int->Prop
 | [],e=>s=e
 |t::r,e=>t.b=s/\t.b<t.e/\ER t.e r e
def qaI(c:Corpus):Prop:=ER 0 c.texts c.toks.length/\c.texts≠ []/\c.toks.length<=4096/\c.texts.length<=64/\c.regs.length<=1024/\c.nodes.length<=2048/\c.attrs.length<=1000/\c.heads.length<=c.toks.length/\c.rels.length<=c.toks.length/\
 (∀x∈c.regs,0<=x.b/\x.b<=c.toks.length/\0<=x.e/\x.e<=c.toks.length)/\(∀x∈c.nodes,0<=x.b/\x.b<=c.toks.length/\0<=x.e/\x.e<=c.toks.length)/\(∀(j:Nat) (y:AS),c.nodes[j]? =some y->y.par<j)/\∀h∈c.heads,h<=c.toks.length
def QM(c:Corpus)(x:List Int×List B):Prop:=(∀h∈x.1,h<=c.toks.length)/\x.1.length<=c.toks.length/\x.2.length<=c.toks.length
abbrev s_r06_allHeads:Spc:=aG (a1 Corpus) qaI (kZ (Y:=List Int) (Z:=List B)) QM
theorem NN:ak uW uv S (a1 Corpus) qaI (kZ (Y:=List Int) (Z:=List B)) QM:=by
 rintro c hc;obtain⟨c1,c2,c3,c4,w,A,C,q,r,s,t,u,l⟩:=hc;simp[uW,uv,-fB'];refineλ_=>⟨λ_=>⟨c.heads, .same _,c.rels, .same _,l,q,r⟩,λ_ _=>⟨by omega,by omega,λv _=>?_⟩⟩
 refine ah (X:=List Int) [1] [] c.toks.length (λk x=>x.length=c.toks.length/\∀(j:Nat) (y:Int),x[j]? =some y->j<k->y= -1) (λx=>[(4, .own 17 v)]) (λx=>[(17, .row v bj 1 (x.map enc))]) (List.replicate c.toks.length 0) (by simp) ?_ ?_
 ·rintro k m hk ⟨h,d⟩;simp;refine⟨by omega,λa _=>⟨m.set k (-1),⟨by simpa using h,λj y b p=>?_⟩, .inl (kN m k (-1))⟩⟩;rw[List.getElem?_set]at b;split at b
  ·split at b
   ·cases b;rfl
   ·cases b
  ·exact d j y b (by omega)
 ·rintro m ⟨h,d⟩;simp;refineλ_=>⟨by omega,by omega,λx=>⟨m,fA bj (by simp),List.replicate c.toks.length ⟨#[]⟩,fA aw (by simp),λy b=>?_,by show m.length<=_;omega,by simp⟩⟩
  obtain⟨j,p⟩:=qF8.1 b;have:=d j y p (by have:=(qFG.1 p).1;have E:j<m.length:=this;omega);omega
def eU(H:ab)(a b:D)(l p:List D):FrzTo H (.agg (a::l)) (.agg (b::p))=(FrzTo H a b/\FrzTo H (.agg l) (.agg p)):=by
 refine propext ⟨λh=>?_,λ⟨h1,h2⟩=>?_⟩
 ·cases h with
  |same=>exact⟨.same _, .same _⟩
  |agg hl h=>exact⟨h 0 a b rfl rfl, .agg (by simpa using hl) λk c c' h1 h2=>h (k+1) c c' (by simpa using h1) (by simpa using h2)⟩
 ·have hl:l.length=p.length:=by
   cases h2 with
   |same=>rfl
   |agg hl _=>exact hl
  refine .agg (by simp[hl]) λk c c' j d=>?_
  cases k with
  |zero=>simp at j d;subst j;subst d;exact h1
  | succ k=>
    simp at j d;cases h2 with
    |same=>rw[j]at d;cases d;exact .same _
    |agg _ h=>exact h k c c' j d
def zc:Corpus:=⟨[], [], [], [], [], [], []⟩
def zq{X:Type}(f:X->X)(a b:List X)(j:Nat):List X:=a++ ((b.take j).map f++b.drop j)
def qjD{X:Type}(f:X->X)(a b:List X):zq f a b 0=a++b:=by simp[zq]
def qjC{X:Type}(f:X->X)(a b:List X):zq f a b b.length=a++b.map f:=by simp[zq]
def E5{X:Type}(f:X->X)(a b:List X)(j:Nat):(zq f a b j).length=a.length+b.length:=by simp[zq];omega
def qrA{X:Type}(f:X->X)(a b:List X){j:Nat}{y:X}(c:b[j]? =some y):(zq f a b j)[a.length+j]? =some y:=by
 have d:=(qFG.1 c).1;simp only[zq];rw[qF9 (by omega),qF9 (by simp;omega)];simp only[qGq,qGc,qGC];rw[<-c];congr 1;omega
def qnU{X:Type}(f:X->X)(a b:List X){j:Nat}{y:X}(c:b[j]? =some y):(zq f a b j).set (a.length+j) (f y)=zq f a b (j+1):=by
 have d:=(qFG.1 c).1;have h:b.drop j=y::b.drop (j+1):=by
  rw[qGm d];rw[(qFG.1 c).2]
 simp only[zq];rw[List.set_append_right _ _ (by omega),List.set_append_right _ _ (by simp;omega)];have:a.length+j -a.length - (List.map f (List.take j b)).length=0:=by simp;omega
 rw[this,h,List.set_cons_zero];rw[List.take_succ_eq_append_getElem d,(qFG.1 c).2];simp
def VH{X:Type}(f:X->X)(a b:List X){k:Nat}{y:X}(hk:a.length<=k)(c:b[k -a.length]? =some y):(zq f a b (k -a.length))[k]? =some y:=by
 have:=qrA f a b c;rwa [Nat.add_sub_cancel' hk]at this
def PA{X:Type}(f:X->X)(a b:List X){k:Nat}{y:X}(hk:a.length<=k)(c:b[k -a.length]? =some y):(zq f a b (k -a.length)).set k (f y)=zq f a b (k+1 -a.length):=by
 have:=qnU f a b c;rw[Nat.add_sub_cancel' hk]at this;rw[this];congr 1;omega
def Lh:∀{l:List xX} {s e:Int},ER s l e->∀t∈l,s<=t.b/\t.b<t.e/\t.e<=e
 | [],s,e,h,t,ht=>by simp at ht
 | x::r,s,e,h,t,ht=>by
   obtain⟨h1,h2,h3⟩:=h;have c:∀{l:List xX} {s e:Int},ER s l e->s<=e:=by
    intro l
    induction l with
    |nil=>intro s e h;have h:s=e:=h;omega
    |cons a l d=>intro s e h;have:=d h.2.2;have:=h.1;have:=h.2.1;omega
   rcases qFP.1 ht with rfl|ht
   ·have:=c h3;omega
   ·have:=Lh h3 t ht;omega
def qpp(n:Int)(t:xX):xX:=⟨t.nm,t.b+n,t.e+n,t.kv⟩
def TK:∀{l:List xX} {s e:Int} {r:List xX} {n f:Int},ER s l e->ER 0 r f->n=e->ER s (l++r.map (qpp n)) (n+f)
 | [],s,e,r,n,f,h,c,hn=>by
   have h:s=e:=h;subst h;subst hn;have go:∀(r:List xX) (a:Int),ER a r f->ER (a+n) (r.map (qpp n)) (n+f):=by
    intro r
    induction r with
    |nil=>intro a h;have h:a=f:=h;show a+n=n+f;omega
    |cons x r d=>intro a h;obtain⟨h1,h2,h3⟩:=h;exact⟨by show x.b+n=a+n;omega,by show x.b+n<x.e+n;omega,d _ h3⟩
   have:=go r 0 c;simpa using this
 |x::l,s,e,r,n,f,h,c,hn=>⟨h.1,h.2.1,TK h.2.2 c hn⟩
def qqX(n:Int)(x:Region):Region:=⟨x.ty,x.b+n,x.e+n,x.kv⟩
def qni(n m:Int)(x:AS):AS:=⟨x.lb,x.b+n,x.e+n,if 0<=x.par then x.par+m else x.par⟩
def iD(a b:Corpus)(c:List Int)(d:List B):Corpus:=⟨a.attrs,a.toks++b.toks,a.texts++b.texts.map (qpp a.toks.length),a.regs++b.regs.map (qqX a.toks.length),a.nodes++b.nodes.map (qni a.toks.length a.nodes.length),c,d⟩
theorem qdb{a b:Corpus}{k:List Int}{u:List B}(w:qaI a)(hb:qaI b)(A:a.toks.length+b.toks.length<=4096)(C:a.texts.length+b.texts.length<=64)(l3:a.regs.length+b.regs.length<=1024)(E:a.nodes.length+b.nodes.length<=2048)
 (h1:k.length<=a.toks.length+b.toks.length) (h2:u.length<=a.toks.length+b.toks.length) (h3:∀h∈k,h<=a.toks.length+b.toks.length):qaI (iD a b k u):=by
 obtain⟨a1,a2,a3,a4,L,M,F,N,O,l,p,q,I⟩:=w;obtain⟨b1,b2,Q,U,W,Y,Z,b8,b9,r,s,t,J⟩:=hb;refine⟨?_,?_,?_,?_,?_,?_,F,?_,?_,?_,?_,?_,?_⟩
 ·have:=TK (n:=a.toks.length) a1 b1 rfl;simpa [iD]using this
 ·simp[iD,a2]
 ·simpa [iD]using A
 ·simpa [iD]using C
 ·simpa [iD]using l3
 ·simpa [iD]using E
 ·simpa [iD]using h1
 ·simpa [iD]using h2
 ·intro x d;simp only[iD,qFL,qFQ,qGa]at d ⊢;rcases d with d|⟨y,c,rfl⟩
  ·have:=l x d;omega
  ·have:=r y c;simp only[qqX];omega
 ·intro x d;simp only[iD,qFL,qFQ,qGa]at d ⊢;rcases d with d|⟨y,c,rfl⟩
  ·have:=p x d;omega
  ·have:=s y c;simp only[qni];omega
 ·intro j y c;simp only[iD]at c;by_cases K:j<a.nodes.length
  ·rw[qGh K]at c;exact q j y c
  ·rw[qF9 (by omega),qFU]at c;simp only[qFR]at c;obtain⟨z,hz,rfl⟩:=c;have:=t _ z hz;simp only[qni];split<;>omega
 ·intro h hh;simp only[iD,qGa]at hh ⊢;have:=h3 h hh;omega
def qaS(x:Corpus×Corpus):Prop:=qaI x.1/\qaI x.2
def qaP(x:Corpus×Corpus)(z:Corpus×Int):Prop:=z.2=0->qaI z.1/\z.1.attrs=x.1.attrs/\z.1.toks=x.1.toks++x.2.toks
abbrev s_r06_Concat:Spc:=aG (a2 Corpus Corpus) qaS (kZ (Y:=Corpus) (Z:=Int)) qaP
theorem Uj(h1:S Eg=s_r06_Valid)(h2:S lL=s_r06_sameAttributes)(h3:S wZ=s_r06_FindText)(h4:S wX=s_r06_allHeads):ak zL yV S (a2 Corpus Corpus) qaS (kZ (Y:=Corpus) (Z:=Int)) qaP:=by
 rintro⟨a,b⟩ ⟨C,hb⟩;have C:qaI a:=C;have hb:qaI b:=hb;have va:ts a:=C.2.2.2.2.2.2.2.2.2.2.2.1;have vb:ts b:=hb.2.2.2.2.2.2.2.2.2.2.2.1;simp[zL,yV,h1,h2,va,vb,ca,-fB'];intro r y;refine⟨λ_ y2=>⟨λ_=>?_,λ_ y3=>⟨λ_=>?_,λ_=>?_⟩⟩,λ_=>?_⟩
 case refine_1=>exact⟨zc,by simp[zc,eU],λh=>by simp at h⟩
 case refine_2=>exact⟨zc,by simp[zc,eU],λh=>by simp at h⟩
 case refine_4=>exact⟨zc,by simp[zc,eU],λh=>by simp at h⟩
 refine aS (X:=Unit) [2,3,4] [4] (λ_=>True) (λ_=>[]) (λ_=>[]) ?_ ?_
 ·simp;intro _;refine ah (X:=Unit) [2,3,4,37] [4] (b.texts.length) (λ_ _=>True) (λ_=>[]) (λ_=>[]) () trivial ?_ ?_ (hlen:=by first|omega|(simp;omega))
  ·intro k _ hk _;simp[hk,h3,ca];intro _ _;exact⟨zc,by simp[zc,eU],λh=>by simp at h⟩
  ·simp
 rintro - -;simp;intro _ _;refine aS (X:=Unit) [2,3,4,8,9] [4] (λ_=>a.toks.length+b.toks.length<=4096/\a.texts.length+b.texts.length<=64/\a.regs.length+b.regs.length<=1024/\a.nodes.length+b.nodes.length<=2048) (λ_=>[]) (λ_=>[]) ?_ ?_
 ·obtain⟨a1,a2,a3,a4,a5,a6,a7,a8,a9,O,Q,U,W⟩:=C;obtain⟨b1,b2,b3,b4,b5,b6,b7,b8,b9,E,F,I,b13⟩:=hb;simp;intro _;refine⟨by simp only[InR];omega,λ_ _ _=>⟨by simp only[InR];omega,λ_ _ _=>⟨by simp only[InR];omega,λ_ _=>⟨by simp only[InR];omega,λ_=>?_,by omega⟩,λ_=>?_⟩,λ_=>?_⟩,λ_=>?_⟩
  all_goals exact⟨zc,by simp[zc,eU],λh=>by simp at h⟩
 ·rintro - ⟨l1,l2,l3,l4⟩;have hA:=C;have hB:=hb;obtain⟨a1,a2,a3,a4,a5,a6,a7,a8,a9,O,Q,U,W⟩:=C;obtain⟨b1,b2,b3,b4,b5,b6,b7,b8,b9,E,F,I,b13⟩:=hb;simp;refine⟨by omega,by omega,λv0 bx=>⟨by omega,by omega,by omega,by omega,λv1=>⟨by omega,by omega,by omega,by omega,λL=>?_⟩⟩⟩;refine aS (X:=Unit) [2,3,4,8,9,10] [4,10,93,97] (λ_=>True) (λ_=>[]) (λ_=>[(104, .row L ET 4 ((a.texts++b.texts.map (qpp a.toks.length)).map enc))]) ?_ ?_
  ·simp;intro _;refine au (X:=Nat) [2,3,4,8,9,10] [4,10,93,97] (λk=>a.texts.length<=k/\k<=a.texts.length+b.texts.length) (λk=>[(11,enc (k:Int))]) (λk=>[(104, .row L ET 4 ((zq (qpp a.toks.length) a.texts b.texts (k -a.texts.length)).map enc))]) (λk=>a.texts.length+b.texts.length -k) a.texts.length (by omega) ?_ (hh:=by simp[qjD]);intro k hk;by_cases j:k<a.texts.length+b.texts.length
   ·obtain⟨t,q⟩:=aQ (l:=b.texts) (k:=k -a.texts.length) (by omega);have p:=VH (qpp a.toks.length) a.texts b.texts hk.1 q;have d:=PA (qpp a.toks.length) a.texts b.texts hk.1 q;have hc:=Lh b1 t (aU q);obtain⟨J,s⟩:=qFG.1 p;simp[E5,p,s,j,qGM,List.set_set];refineλ_=>⟨λ_=>⟨by omega,by simp only[InR];omega,by omega,by simp only[InR];omega,by omega,by simp only[InR];omega,k+1,by omega,⟨by omega, .inl ?_⟩,by omega⟩,λh=>by omega⟩
    rw[<-d,<-kN];simp[qpp]
   ·have u:k -a.texts.length=b.texts.length:=by omega
    simp[E5,j,u,qjC];omega
  rintro - -;simp;refine⟨by omega,by omega,by omega,by omega,λM=>?_⟩;refine aS (X:=Unit) [2,3,4,8,9,10] [4,10,93,97,104] (λ_=>True) (λ_=>[]) (λ_=>[(141, .row M pv 4 ((a.regs++b.regs.map (qqX a.toks.length)).map enc))]) ?_ ?_
  ·simp;intro _;refine au (X:=Nat) [2,3,4,8,9,10] [4,10,93,97,104] (λk=>a.regs.length<=k/\k<=a.regs.length+b.regs.length) (λk=>[(12,enc (k:Int))]) (λk=>[(141, .row M pv 4 ((zq (qqX a.toks.length) a.regs b.regs (k -a.regs.length)).map enc))]) (λk=>a.regs.length+b.regs.length -k) a.regs.length (by omega) ?_ (hh:=by simp[qjD]);intro k hk;by_cases j:k<a.regs.length+b.regs.length
   ·obtain⟨t,q⟩:=aQ (l:=b.regs) (k:=k -a.regs.length) (by omega);have p:=VH (qqX a.toks.length) a.regs b.regs hk.1 q;have d:=PA (qqX a.toks.length) a.regs b.regs hk.1 q;have hc:=E t (aU q);obtain⟨J,s⟩:=qFG.1 p;simp[E5,p,s,j,qGM,List.set_set];refineλ_=>⟨λ_=>⟨by omega,by simp only[InR];omega,by omega,by simp only[InR];omega,by omega,by simp only[InR];omega,k+1,by omega,⟨by omega, .inl ?_⟩,by omega⟩,λh=>by omega⟩
    rw[<-d,<-kN];simp[qqX]
   ·have u:k -a.regs.length=b.regs.length:=by omega
    simp[E5,j,u,qjC];omega
  rintro - -;simp;refine⟨by omega,by omega,by omega,by omega,λN=>?_⟩;refine aS (X:=Unit) [2,3,4,8,10] [4,10,93,97,104,141] (λ_=>True) (λ_=>[]) (λ_=>[(178, .row N yj 4 ((a.nodes++b.nodes.map (qni a.toks.length a.nodes.length)).map enc))]) ?_ ?_
  ·simp;refine au (X:=Nat) [2,3,4,8,9,10] [4,10,93,97,104,141] (λk=>a.nodes.length<=k/\k<=a.nodes.length+b.nodes.length) (λk=>[(13,enc (k:Int))]) (λk=>[(178, .row N yj 4 ((zq (qni a.toks.length a.nodes.length) a.nodes b.nodes (k -a.nodes.length)).map enc))]) (λk=>a.nodes.length+b.nodes.length -k) a.nodes.length (by omega) ?_ (hh:=by simp[qjD]);intro k hk;by_cases j:k<a.nodes.length+b.nodes.length
   ·obtain⟨t,q⟩:=aQ (l:=b.nodes) (k:=k -a.nodes.length) (by omega);have p:=VH (qni a.toks.length a.nodes.length) a.nodes b.nodes hk.1 q;have d:=PA (qni a.toks.length a.nodes.length) a.nodes b.nodes hk.1 q;have hc:=F t (aU q);have hc2:=I _ t q;obtain⟨J,s⟩:=qFG.1 p;simp[E5,p,s,j,qGM,List.set_set];refineλ_=>⟨λ_=>⟨by omega,by simp only[InR];omega,by omega,by simp only[InR];omega,by omega,λhp=>⟨by omega,by simp only[InR];omega,by omega,by simp only[InR];omega,k+1,by omega,⟨by omega, .inl ?_⟩,by omega⟩,λhp=>⟨by simp only[InR];omega,k+1,by omega,⟨by omega, .inl ?_⟩,by omega⟩⟩,λh=>by omega⟩
    ·rw[<-d,<-kN];simp[qni,hp]
    ·rw[<-d,<-kN];simp[qni,show ¬(0<=t.par)by omega]
   ·have u:k -a.nodes.length=b.nodes.length:=by omega
    simp[E5,j,u,qjC];omega
  rintro - -;simp[h4,hA,hB];refineλ_ _=>⟨by simp only[InR];omega,λ_=>?_,λ_=>?_⟩
  ·rintro K rl1 ⟨q1,q2,q3⟩ hd2 rl2 ⟨p1,p2,p3⟩;simp only at q1 q2 q3 p1 p2 p3;refine⟨by omega,by omega,λv5=>⟨by omega,by omega,by omega,by omega,λv6 _=>?_⟩⟩;refine Ka (qqd 247 269 10 bx _ [D.own 93 v0,D.own 97 v1,D.own 104 L,D.own 141 M,D.own 178 N,D.own 269 v5,D.own 249 v6] (by decide) (by decide) rfl rfl (λm c c' h h'=>?_)) ?_
   ·rcases m with _|_|_|_|_|_|_|m<;>simp at h h'<;>subst h<;>subst h'<;>simp
   refine ah (X:=Value×List Int) [4,8,10,254] [4,93,97,104,141,178,249] hd2.length (λk x=>x.2.length=K.length+k/\∀h∈x.2,h<=a.toks.length+b.toks.length) (λ_=>[]) (λx=>[(10, .box bx [D.own 93 v0,D.own 97 v1,D.own 104 L,D.own 141 M,D.own 178 N,D.own 269 x.1,D.own 249 v6]),(269, .row x.1 bj 1 (x.2.map enc))]) (v5,K) ⟨rfl,λh hh=>by have:=q1 h hh;omega⟩ ?_ ?_
   ·rintro k ⟨v,l⟩ hk ⟨A,w⟩;simp only at A w;obtain⟨x,hx⟩:=aQ hk;have hpx:=p1 x (aU hx);obtain⟨_,hgx⟩:=qFG.1 hx;simp[hk,hx,hgx];refine aS (X:=Int) [4,8,10,254,255,256] [4,10,93,97,104,141,178,249,269] (λy=>y<=a.toks.length+b.toks.length) (λy=>[(19,enc y)]) (λ_=>[]) ?_ ?_
    ·simp;exact⟨λh0=>⟨by simp only[InR];omega,by omega⟩,λh0=>by omega⟩
    ·intro y hy;simp;refine⟨by omega,by omega,λv=>⟨v,l++ [y],⟨by simp;omega,λh hh=>?_⟩, .inl rfl, .inl ⟨rfl,WF l y⟩⟩⟩;rcases qFL.1 hh with hh|hh
     ·exact w h hh
     ·simp at hh;omega
   ·rintro⟨v,l⟩ ⟨A,w⟩;simp only at A w;simp;refine⟨iD a b l (rl1++rl2),?_,λ_=>⟨qdb hA hB l1 l2 l3 l4 (by omega) (by simp;omega) w,rfl,rfl⟩⟩;simp only[eU];refine⟨fA (X:=Attr) H7 (by simp[iD]),fA (X:=List B) yk (by simp[iD]),fA (X:=xX) ET (by simp[iD]),fA (X:=Region) pv (by simp[iD]),fA (X:=AS) yj (by simp[iD]),fA (X:=Int) bj (by simp[iD]),fA (X:=B) aw (by simp[iD]), .same _⟩
  ·refine⟨iD a b [] [],?_,λ_=>⟨qdb hA hB l1 l2 l3 l4 (by simp) (by simp) (by simp),rfl,rfl⟩⟩;simp only[eU];refine⟨fA (X:=Attr) H7 (by simp[iD]),fA (X:=List B) yk (by simp[iD]),fA (X:=xX) ET (by simp[iD]),fA (X:=Region) pv (by simp[iD]),fA (X:=AS) yj (by simp[iD]), .nil _, .nil _, .same _⟩
end
section
def qaH:List B:=[⟨#[97]⟩,⟨#[98]⟩,⟨#[99]⟩,⟨#[65]⟩,⟨#[97,98]⟩,⟨#[]⟩]
def qlW:List B:=[⟨#[88]⟩,⟨#[89]⟩]
def TS:List B:=[⟨#[124]⟩,⟨#[124,112,124]⟩,⟨#[124,112,124,113,124]⟩,⟨#[124,113,124]⟩]
def ij:List Attr:=[⟨⟨#[119,111,114,100]⟩,false⟩,⟨⟨#[116,97,103]⟩,false⟩,⟨⟨#[102,101,97,116]⟩,true⟩]
def qp8(l:List Attr):Prop:=l=ij
def JI(r:List B):Prop:=∃w t f,w∈qaH/\t∈qlW/\f∈TS/\r=[w,t,f]
def WY(c:Corpus):Prop:=c.attrs=ij/\∀r∈c.toks,JI r
open Cod (enc dec)
variable {S S0:Nat->Spc}
def qkk{a b c:Corpus}(d:WY a)(hb:WY b)(h:c.attrs=a.attrs/\c.toks=a.toks++b.toks):WY c:=by
 refine⟨h.1.trans d.1,λr hr=>?_⟩;rw[h.2]at hr;rcases qFL.1 hr with hr|hr
 ·exact d.2 r hr
 ·exact hb.2 r hr
abbrev s_m_Document:Spc:=aG (aT (a2 B Int)) (λx=>1<=x.2.2/\x.2.2<=1000) (enc (X:=Corpus)) (λx c=>qaI c/\WY c/\(c.toks.length:Int)<=x.2.2)
abbrev s_m_Corpus:Spc:=aG (aT (a1 Int)) (λx=>1<=x.2/\x.2<=1000) (enc (X:=Corpus)) (λx c=>qaI c/\WY c/\(c.toks.length:Int)<=3*x.2)
theorem qbc(h1:S bU=s_m_Next)(h2:S qY=s_m_Document)(h3:S BT=s_r06_Concat):ak tm sD S (aT (a1 Int)) (λx=>1<=x.2/\x.2<=1000) (enc (X:=Corpus)) (λx c=>qaI c/\WY c/\(c.toks.length:Int)<=3*x.2):=by
 rintro⟨L,n⟩ hn;have hn:1<=n/\n<=1000:=hn;simp[tm,sD,h1,h2,hn];intro b y l d p b1 k q r;refine au (X:=Int×Corpus) [0,1,4,5] [4] (λx=>0<=x.1/\x.1<=2/\qaI x.2/\WY x.2/\(x.2.toks.length:Int) +x.1*n<=3*n) (λx=>[(6,enc x.1)]) (λx=>[(5, .box b1 (enc x.2).cells)]) (λx=>x.1.toNat) (k,y) ⟨q,by omega,l,d,by
  have:k=0\/k=1\/k=2:=by omega
  show(y.toks.length:Int) +k*n<=3*n;rcases this with rfl|rfl|rfl<;>omega⟩ ?_
 rintro⟨k,c⟩ ⟨s,t,h,j,u⟩;simp only at s t h j u;simp[h1,h2,h3,hn];refine⟨λhk=>⟨by omega,by omega,?_⟩,λhk=>?_⟩
 ·have:k=1\/k=2:=by omega
  rcases this with rfl|rfl
  all_goals
   simp[hn];refineλy l d p=>⟨⟨h,l⟩,λa e he=>⟨λh0=>⟨by simp[InR],_,a,⟨?_,?_,(he h0).1,qkk j d (he h0).2,by
    have e:=(he h0).2.2;simp only at e;rw[e,qGa];omega⟩,⟨rfl, .inl ⟨rfl,rfl,rfl,rfl,rfl,rfl,rfl⟩⟩,?_⟩,λh0=>⟨by simp[InR],_,c,⟨?_,?_,h,j,by omega⟩,⟨rfl, .inl ⟨rfl,rfl,rfl,rfl,rfl,rfl,rfl⟩⟩,?_⟩⟩⟩
   all_goals omega
 ·have:k=0:=by omega
  subst this;exact aL c (by simp) ⟨h,j,by show(c.toks.length:Int)<=3*n;omega⟩
end
section
def RFz(Hf:ab):Res->Res->Prop
 | .box b cs, .box b' cs'=>b=b'/\cs.length=cs'.length/\∀(m:Nat) (c c':D),cs[m]? =some c->cs'[m]? =some c'->FrzTo Hf c c'
 | .row x el n es, .row h a l es'=>x=h/\el=a/\n=l/\es.length=es'.length/\(∀d∈es',d.kn=true/\d.cells.length=n)/\∀(m:Nat) (c c':D),es[m]? =some c->es'[m]? =some c'->∀(j:Nat) (e k:D),c.cells[j]? =some e->c'.cells[j]? =some k->FrzTo Hf e k
 | .tbox el b cs, .tbox a b' cs'=>el=a/\b=b'/\cs.length=cs'.length/\∀(m:Nat) (c c':D),cs[m]? =some c->cs'[m]? =some c'->FrzTo Hf c c'
 | .mrow x es, .mrow h es'=>x=h/\es.length=es'.length/\∀(m:Nat) (c c':D),es[m]? =some c->es'[m]? =some c'->FrzTo Hf c c'
 |r,r'=>r=r'
theorem RFz.blk{Hf:ab}{r r':Res}(h:RFz Hf r r'):r'.blk=r.blk:=by
 cases r<;>cases r'<;>simp only[RFz]at h;grind [Res.blk]
 all_goals first
  |(obtain⟨rfl,rfl,rfl,_⟩:=h;rfl)
  |(obtain⟨rfl,rfl,_⟩:=h;rfl)
  |(obtain⟨rfl,_⟩:=h;rfl)
  |grind
  |(cases h;rfl)
theorem RFz.ok{tp I A:Nat->Prop}{w:World}{Hf:ab}{r r':Res}(h:RFz Hf r r')(a:ResOk (R tp I w) w r)(N:∀i q,Hf i=some q->ResOk (R tp I w) w q)(hI:∀b,I b->A b)(hb:∀i q b,Hf i=some q->q.blk=some b->A b):ResOk (R tp A w) w r':=by
 have fz:∀{c c':D} {y:Value},FrzTo Hf c c'->R tp I w y c->R tp A w y c':=λh a=>h.R (H:=bS) N hI hb a
 have same:ResOk (R tp A w) w r:=a.conv (λx d a=>a.mono (λ_ h=>h) (λb hb=>⟨hI b hb,rfl⟩) (λb _=> .refl _ _)) (λ_ _=>rfl);cases r with
 | box b cs=>
   cases r' with
   | box b' cs'=>
     obtain⟨rfl,hl,hc⟩:=h;obtain⟨xs,el,h1,h2,h3⟩:=a;refine⟨xs,el,h1,h2.trans hl,λk y c C t=>?_⟩;have hk:k<cs.length:=by grind
     have h4:=h3 k y cs[k] C (qFH hk);grind
   |row x el n es=>cases h
   |iter b s p=>cases h
   |tbox b s p=>cases h
   |mrow=>cases h
   |miter=>cases h
   |raw=>cases h
 | iter b s p=>
   cases r' with
   |box b' cs'=>cases h
   |row x el n es=>cases h
   |iter b' E M=>cases h;omega
   |tbox b' E M=>cases h
   |mrow=>cases h
   |miter=>cases h
   |raw=>cases h
 | tbox b s p=>
   cases r' with
   |box b' cs'=>cases h
   |row x el n es=>cases h
   |iter b' E M=>cases h
   |mrow=>cases h
   |miter=>cases h
   |raw=>cases h
   | tbox b' E cs'=>
     obtain⟨rfl,rfl,hl,hc⟩:=h;obtain⟨xs,h1,h2,h3⟩:=a;refine⟨xs,h1,h2.trans hl,λk y c C t=>?_⟩;have hk:k<p.length:=by grind
     have h4:=h3 k y p[k] C (qFH hk);grind
 | row x el n es=>
   cases r' with
   |box b' cs'=>cases h
   |iter b' E M=>cases h
   |tbox b' E M=>cases h
   |mrow=>cases h
   |miter=>cases h
   |raw=>cases h
   | row W Y n' es'=>
     obtain⟨rfl,rfl,rfl,hl,F,hc⟩:=h;obtain⟨xs,h1,h2,h3⟩:=a;refine⟨xs,hl ▸h1,F,λk y c C t=>?_⟩;have Q:∀d∈es,d.cells.length=n:=λd O=>(h2 d O).2
     have J:∀d∈es',d.cells.length=n:=λd O=>(F d O).2
     have Z:=bh Q;have U:=bh J;have hk:k<(bp es).length:=by
      grind
     have hk2:k<es.length*n:=by omega
     have hn:0<n:=by
      grind
     have h4:=h3 k y (bp es)[k] C (qFH hk);refine⟨h4.1,fz ?_ h4.2⟩;have hdm:k=(k/n) *n+k % n:=by grind [ResOk,Nat.div_add_mod]
     have u:k % n<n:=qG8 _ hn;have g1:=dY Q (i:=k/n) (j:=k % n) u;have g2:=dY J (i:=k/n) (j:=k % n) u;grind
 | mrow x es=>
   cases r' with
   |box=>cases h
   |iter=>cases h
   |tbox=>cases h
   |row=>cases h
   |miter=>cases h
   |raw=>cases h
   | mrow W es'=>
     obtain⟨rfl,hl,hc⟩:=h;obtain⟨b,L,clock,rfl,h1,h2,h3⟩:=a;refine⟨b,L,clock,rfl,h1,h2,h3.1.trans hl,λk e c he t=>?_⟩;have hk:k<es.length:=by grind
     exact fz (hc k _ _ (qFH hk) t) (h3.2 k e _ he (qFH hk))
 | miter b c l=>
   cases r' with
   |box=>cases h
   |iter=>cases h
   |tbox=>cases h
   |row=>cases h
   |mrow=>cases h
   |raw=>cases h
   |miter=>cases h;omega
 | raw k=>
   cases r' with
   |box=>cases h
   |iter=>cases h
   |tbox=>cases h
   |row=>cases h
   |mrow=>cases h
   |miter=>cases h
   |raw k'=>cases h;omega
def RFe(Hf:ab)(r r':Res):Prop:=r=r'\/RFz Hf r r'
theorem RFe.blk{Hf:ab}{r r':Res}(h:RFe Hf r r'):r'.blk=r.blk:=by
 rcases h with rfl|h
 ·rfl
 ·exact h.blk
def RFe.ok{tp I c:Nat->Prop}{w:World}{Hf:ab}{r r':Res}(h:RFe Hf r r')(a:ResOk (R tp I w) w r)(j:∀i q,Hf i=some q->ResOk (R tp I w) w q)(hI:∀b,I b->c b)(hb:∀i q b,Hf i=some q->q.blk=some b->c b):ResOk (R tp c w) w r':=by
 rcases h with rfl|h
 ·exact a.conv (λx d a=>a.mono (λ_ h=>h) (λb hb=>⟨hI b hb,rfl⟩) (λb _=> .refl _ _)) (λ_ _=>rfl)
 ·exact h.ok a j hI hb
theorem isNilRow.blk'{r:Res}(h:isNilRow r):r.blk=none:=by
 cases r with
 |box b c=>exact h.elim
 |iter b s p=>exact h.elim
 |tbox b s p=>exact h.elim
 |mrow=>exact h.elim
 |miter=>exact h.elim
 |raw=>exact h.elim
 |row x el n es=>obtain⟨rfl,rfl⟩:=h;rfl
theorem qhn{σ M:Sg}{H H' Hf:ab}(ρ:Nat->Nat)(h1:∀t,FrzTo Hf (σ t) (M t))(h2:∀i r,H' i=some r->(∃u,H (ρ i)=some u/\RFe Hf u r)\/isNilRow r)
 (h3:∀i j r s,H' i=some r->H' j=some s->ρ i=ρ j->i=j\/isNilRow r\/isNilRow s) (h4:∀i r,Hf i=some r->H i=some r/\∀j r',H' j=some r'->ρ j=i->isNilRow r'):Wk σ H M H':=by
 intro E a w ⟨Y,Z,tp,h,Q⟩;have l:∀i r c,H' i=some r->r.blk=some c->∃u,H (ρ i)=some u/\u.blk=some c/\ ¬isNilRow r:=λi r c A F=>by
  have hn:¬isNilRow r:=λhn=>by grind [hn.blk']
  rcases h2 i r A with⟨u,k3,I⟩|k3;grind [I.blk];grind
 have J:∀c,bA H' c->bA H c:=λc ⟨i,r,A,F⟩=>by
  obtain⟨u,k3,I,_⟩:=l i r c A F;exact⟨ρ i,u,k3,I⟩
 have C:∀c,aR E.O tp H w c->aR E.O tp H' w c:=λc hb=>⟨hb.1,hb.2.1,hb.2.2.1,λho=>hb.2.2.2 (J c ho)⟩
 have L:∀i q,Hf i=some q->ResOk (R tp (aR E.O tp H w) w) w q:=λi q U=>h.sat.ok i q (h4 i q U).1
 have N:∀i q b,Hf i=some q->q.blk=some b->aR E.O tp H' w b:=λi q b U hb=>by
  obtain⟨A,F⟩:=h4 i q U;have ho:=h.sat.out i q b A hb;refine⟨(h.sat.ok i q A).lt hb,ho.1,ho.2,λ⟨j,s,k3,I⟩=>?_⟩;obtain⟨W,k5,k6,k7⟩:=l j s b k3 I;exact k7 (F j s k3 (h.sat.dis (ρ j) i W q b k5 A k6 hb))
 have move:∀x d,R tp (aR E.O tp H w) w x d->R tp (aR E.O tp H' w) w x d:=λx d Q=>
  Q.mono (λ_ h=>h) (λb hb=>⟨C b hb,rfl⟩) (λb _=> .refl _ _)
 refine⟨Y,Z,tp,⟨h.hO,h.tpx,h.tpn,h.tpl,h.step,λb hb=>h.loc b (J b hb),⟨λi j r s c A F k3 I=>?_,λi r c A F=>?_,λi r A=>?_⟩⟩,λt=>(h1 t).R (H:=bS) L C N (Q t)⟩
 ·obtain⟨u,a1,a2,a3⟩:=l i r c A k3;obtain⟨W,b1,b2,b3⟩:=l j s c F I;rcases h3 i j r s A F (h.sat.dis _ _ u W c a1 b1 a2 b2)with e|e|e;omega;grind;grind
 ·obtain⟨u,a1,a2,_⟩:=l i r c A F;exact h.sat.out _ u c a1 a2
 ·rcases h2 i r A with⟨u,k3,I⟩|k3
  ·exact I.ok (h.sat.ok _ u k3) L C N
  ·cases r with
   |box b c=>exact k3.elim
   |iter b s p=>exact k3.elim
   |tbox b s p=>exact k3.elim
   |mrow=>exact k3.elim
   |miter=>exact k3.elim
   |raw=>exact k3.elim
   | row x el n es=>
     obtain⟨rfl,rfl⟩:=k3;exact⟨[],qHf _ _ _ _,by simp,λk y c h=>by grind⟩
def Cr(Hf:ab):List (Nat×D)->Sg->Prop
 | [],_=>True
 |(t,d)::l,σ=>FrzTo Hf (σ t) d/\Cr Hf l σ
@[simp] theorem quY(Hf:ab)(σ:Sg):Cr Hf [] σ=True:=i' rfl
@[simp] theorem quZ(Hf:ab)(t:Nat)(d:D)(l:List (Nat×D))(σ:Sg):Cr Hf ((t,d)::l) σ=(FrzTo Hf (σ t) d/\Cr Hf l σ):=i' rfl
def qbW(rn:List (Nat×Nat))(i:Nat):Nat:=(rn.lookup i).getD i
def zX(Hf:ab)(rn:List (Nat×Nat)):List (Nat×Res)->ab->Prop
 | [],_=>True
 |(i,r)::l,H=>((∃a,H (qbW rn i)=some a/\RFe Hf a r)\/isNilRow r)/\zX Hf rn l H
@[simp] theorem quW(Hf:ab)(rn:List (Nat×Nat))(H:ab):zX Hf rn [] H=True:=i' rfl
@[simp] theorem quX(Hf:ab)(rn:List (Nat×Nat))(i:Nat)(r:Res)(l:List (Nat×Res))(H:ab):zX Hf rn ((i,r)::l) H=(((∃a,H (qbW rn i)=some a/\RFe Hf a r)\/isNilRow r)/\zX Hf rn l H):=i' rfl
def Mb(a:List Nat)(H:ab):ab:=λi=>if i∈a then H i else none
def qsQ(rn:List (Nat×Nat))(ids a:List Nat):Prop:=(∀i∈ids,∀j∈ids,qbW rn i=qbW rn j->i=j)/\(∀i∈ids,qbW rn i∉a)
instance (rn:List (Nat×Nat)) (ids a:List Nat):Decidable (qsQ rn ids a):=by unfold qsQ;infer_instance
def eh{l:List (Nat×Res)}{H:ab}{i:Nat}{r:Res}(h:gS l H i=some r):(i,r) ∈l\/(i∉l.map (·.1)/\H i=some r):=by
 induction l with
 |nil=>simp_all
 | cons p l a=>
   obtain⟨j,q⟩:=p;simp only[gS,ai]at h;grind
theorem qcf{Hf:ab}{rn:List (Nat×Nat)}{l:List (Nat×Res)}{H:ab}{i:Nat}{r:Res}(h:zX Hf rn l H)(hm:(i,r) ∈l):(∃a,H (qbW rn i)=some a/\RFe Hf a r)\/isNilRow r:=by
 induction l<;>grind [zX]
theorem JQ{b σ:Sg}{l H:ab}{ks hk c:List Nat}{rn:List (Nat×Nat)}{k:List (Nat×D)}{hp:List (Nat×Res)}(hi:qsQ rn (hp.map (·.1) ++hk) c)(hid:∀i∈hk,i∉hp.map (·.1)->qbW rn i=i)
 (h1:Cr (Mb c H) k σ) (h2:yH ks b σ) (h3:zX (Mb c H) rn hp H) (h4:CM hk l H):Wk σ H (um k (jK ks b)) (gS hp (jL hk l)):=by
 have a:∀i r,gS hp (jL hk l) i=some r->i∈hp.map (·.1) ++hk:=λi r h=>by
  rcases eh h with h|⟨_,h⟩;grind;grind [PR]
 refine qhn (Hf:=Mb c H) (qbW rn) (λt=>?_) (λi r h=>?_) (λi j r s q u e=> .inl (hi.1 i (a i r q) j (a j s u) e)) (λi r h=>?_)
 ·clear hi hid h3 a
  induction k with
  | nil=>
    rw[qcR,PQ];grind [FrzTo,yH]
  | cons p k w=>
    obtain⟨s,d⟩:=p;simp only[um,upd];grind [Cr]
 ·rcases eh h with h|⟨h5,h⟩;grind [qcf]
  ·rw[PR]at h;split at h
   ·rename_i e;rw[hid i e h5,h4 i e];exact .inl ⟨r,h, .inl rfl⟩
   grind
 grind [qsQ,Mb]
@[simp] theorem qDQ(i:Nat):qbW [] i=i:=i' rfl
@[simp] theorem qDR(i j:Nat)(l:List (Nat×Nat))(k:Nat):qbW ((i,j)::l) k=if k=i then j else qbW l k:=by
 simp only[qbW,List.lookup];by_cases e:k=i
 ·subst e;simp
 ·have:(k==i)=false:=by simpa using e
  simp[this,e]
def FzL(Hf:ab):List D->List D->Prop
 | [], []=>True
 |a::l,b::r=>FrzTo Hf a b/\FzL Hf l r
 | _,_=>False
@[simp] theorem qEp(Hf:ab):FzL Hf [] []=True:=i' rfl
@[simp] theorem qEq(Hf:ab)(a b:D)(l r:List D):FzL Hf (a::l) (b::r)=(FrzTo Hf a b/\FzL Hf l r):=i' rfl
def FzL.get{Hf:ab} :∀{l r:List D},FzL Hf l r->l.length=r.length/\∀(m:Nat) (c c':D),l[m]? =some c->r[m]? =some c'->FrzTo Hf c c'
 | [], [],_=>⟨rfl,λm c c' h=>by simp⟩
 | a::l,b::r,h=>by
   obtain⟨h1,h2⟩:=h;have d:=FzL.get h2;grind
@[simp] theorem qxm(Hf:ab)(b:Nat)(cs cs':List D):RFe Hf (.box b cs) (.box b cs')=(cs=cs'\/FzL Hf cs cs'):=by
 refine propext ⟨λh=>?_,λh=>?_⟩
 ·rcases h with h|⟨_,hl,hc⟩
  ·cases h;exact .inl rfl
  ·right
   induction cs generalizing cs' with
   | nil=>cases cs' with
     |nil=>trivial
     |cons b r=>simp at hl
   | cons a l d=>cases cs' with
     |nil=>simp at hl
     |cons b r=>exact⟨hc 0 a b rfl rfl,d r (by simpa using hl) λm c c' h1 h2=>hc (m+1) c c' (by simpa using h1) (by simpa using h2)⟩
 ·rcases h with rfl|h
  ·exact .inl rfl
  ·exact .inr ⟨rfl,h.get.1,h.get.2⟩
def qe9(a:Sg)(c:ab)(ks hk b:List Nat)(rn:List (Nat×Nat))(d:List (Nat×D))(hp:List (Nat×Res))(σ:Sg)(H:ab):Prop:=Cr (Mb b H) d σ/\yH ks a σ/\zX (Mb b H) rn hp H/\CM hk c H
@[simp] theorem qwa(a:Sg)(c:ab)(ks hk b:List Nat)(rn:List (Nat×Nat))(d:List (Nat×D))(hp:List (Nat×Res))(σ:Sg)(H:ab):qe9 a c ks hk b rn d hp σ H=(Cr (Mb b H) d σ/\yH ks a σ/\zX (Mb b H) rn hp H/\CM hk c H):=i' rfl
section
variable {S:Nat->Spc}{σ:Sg}{H:ab}{K:Ex->Sg->ab->Prop}
def gc{X:Type}(ks hk d:List Nat)(rn:List (Nat×Nat))(P:X->Prop)(j:X->List (Nat×D))(hp:X->List (Nat×Res)){k:Nat}{a b:CC}(ids:List Nat)(l:∀x,(hp x).map (·.1)=ids)(hi:qsQ rn (ids++hk) d/\∀i∈hk,i∉ids->qbW rn i=i)
 (p:vc S a (Zg (λc H'=>∃x,P x/\qe9 σ H ks hk d rn (j x) (hp x) c H') K) σ H)
 (hb:∀x,P x->vc S b K (um (j x) (jK ks σ)) (gS (hp x) (jL hk H))):vc S (MJ k a b) K σ H:=by
 refine qm1 P _ _ (AV a _ _ (λe c H' h=>?_) p) hb;cases e with
 | norm=>
   obtain⟨x,h1,h2⟩:=h;grind [Zg,qe9,JQ]
 |ex i=>exact h
 |ret=>exact h
end
open Cod (enc dec)
variable {S S0:Nat->Spc}
end
section
variable {dq:Prop}
section
variable {X Y:Type}
def qp9(cf:Y->List D)(b:Nat)(post:Y->Prop)(r:D)(H:ab):Prop:=∃y cs,r= .tup []/\H 1=some (.box b cs)/\FzL (qop 1 [] H) cs (cf y)/\post y
def WJ(cc:CC)(rs:List aj)(S:Nat->Spc)(ce:X->List D)(cf:Y->List D)(pre:X->Prop)(post:X->Y->Prop):Prop:=
 ∀L b x,pre x->vc S cc (vE rs λr H'=>qp9 cf b (post x) r H') (dR [.tape L, .bptr 1 b 0]) (ai bS 1 (some (.box b (ce x))))
variable {P:Program}{S:Nat->Spc}{f:Nat}{im:List Nat}{cc:CC}{rs:List aj}{N:Nat}
theorem LG{ce:X->List D}{cf:Y->List D}{pre:X->Prop}{post:X->Y->Prop}(t:∀f,Tri dq P f (S f).pt)(h:zY P f im cc rs N)(u:2<=N)(w:WJ cc rs S ce cf pre post):Tri dq P f (qzz ce cf pre post).pt:=by
 obtain⟨zq,enter,fn,code,h1,h2,h3,h4,h5⟩:=h;refine qbB t zq h1 h2 enter h3 h4 h5 ?_;rintro ds H d K ⟨L,id,b,x,rfl,hid,hp,A⟩;refine⟨u, [.tape L, .bptr 1 b 0],ai bS 1 (some (.box b (ce x))),λ_=>id, .cons (.same _) (.cons (.bptr _ _ _ _) .nil),λi r h=>?_,λi j r s h C _=>?_,_,w L b x hp,?_⟩
 ·by_cases e:i=1
  ·subst e;simp only[ai,if_true]at h;cases h;exact hid
  ·simp[ai,e,bS]at h
 ·have a:i=1:=by
   by_cases e:i=1
   ·exact e
   ·simp[ai,e,bS]at h
  have b:j=1:=by
   by_cases e:j=1
   ·exact e
   ·simp[ai,e,bS]at C
  exact a.trans b.symm
 ·rintro r H' ⟨y,cs,rfl,l,hz,c⟩;have E:=qog (H:=H') 1 b cs (cf y) [] l hz.get.1 hz.get.2;have l:left 1 b (cf y) [] H' 1=some (.box b (cf y)):=rfl;refine⟨.tup [],left 1 b (cf y) [] H',bS,ai H id (some (.box b (cf y))),λi=>if i=id then some 1 else none,E, .same _,λj q h=>by simp[bS]at h,A y c,λi s hi=>?_,λi p k s q hi F I J=>?_⟩
  ·by_cases e:i=id
   ·subst e;simp only[ai,if_true]at hi;cases hi;simpa using l
   ·simp only[ai,e,if_false]at hi ⊢;exact⟨hi,λk q h he=>e he.symm⟩
  ·have a:i=id:=by
    by_cases e:i=id
    ·exact e
    ·simp[e]at I
   have b:p=id:=by
    by_cases e:p=id
    ·exact e
    ·simp[e]at J
   exact a.trans b.symm
end
end
section
open Cod (enc dec)
variable {S S0:Nat->Spc}
def qmN:qlU Qs OR S:=by
 intro l;simp[Qs,OR, -List.map_take,Dp,H8];omega
def qxG(c:Corpus):List D:=[enc c.attrs,enc c.toks,enc c.texts,enc c.regs, .v (.slice none 0 0), .v (.slice none 0 0), .v (.slice none 0 0)]
def qnM(c:Corpus):List D:=[enc c.attrs,enc c.toks,enc c.texts,enc c.regs,enc c.nodes, .v (.slice none 0 0), .v (.slice none 0 0)]
def qvg(c:Corpus):List D:=[enc c.attrs,enc c.toks,enc c.texts,enc c.regs,enc c.nodes,enc c.heads,enc c.rels]
end
end Go.Gv
