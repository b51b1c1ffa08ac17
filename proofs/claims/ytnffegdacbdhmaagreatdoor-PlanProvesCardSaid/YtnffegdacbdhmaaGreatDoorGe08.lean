/- W4 -/
import Derived.Test.YtnffegdacbdhmaaGreatDoorGe07
set_option linter.all false
set_option maxRecDepth 100000
open Bool renaming forall_bool → fB', exists_bool → eB'
namespace Go.Gv
section
open Cod (enc dec)
variable {S S0:Nat->Spc}
def tR{X Y:Type}(_:X)(_:Y):Prop:=True
@[simp] theorem qDG{X Y:Type}(x:X)(y:Y):tR x y=True:=i' rfl
def ca{X:Type}(_:X):Prop:=True
abbrev s_r04_First:Spc:=aG (a1 U8) ca (enc (X:=Bool)) tR
def Xt:ak rC qg S (a1 U8) ca (enc (X:=Bool)) tR:=by
 rintro c -;simp[rC,qg]
abbrev s_r04_Next:Spc:=aG (a1 U8) ca (enc (X:=Bool)) tR
def qa7(h1:S lM=s_r04_First):ak uh tU S (a1 U8) ca (enc (X:=Bool)) tR:=by
 rintro c -;simp[uh,tU,h1,ca]
abbrev s_r04_ValidName:Spc:=aG (a1 B) ca (enc (X:=Bool)) tR
def Ml(h1:S lM=s_r04_First)(h2:S xa=s_r04_Next):ak iK ix S (a1 B) ca (enc (X:=Bool)) tR:=by
 rintro s -;simp[iK,ix,h1,h2,ca];intro _ h1 _ a;refine⟨by omega,λc _=>?_⟩;refine au (X:=Nat) [0] [] (λk=>k<=s.size) (λk=>[(3,enc (k:Int))]) (λ_=>[]) (λk=>s.size -k) 1 (by omega) ?_;intro k hk;simp[h2,ca,InR]
 repeat' first|apply And.intro|intro _
 all_goals first|omega|exact⟨k+1,by omega,by omega,by omega⟩
abbrev s_r01_Units:Spc:=aG (a1 B) (λs=>s.size<=100000) (enc (X:=List zW)) tR
theorem Xv:ak Ci Bg S (a1 B) (λs=>s.size<=100000) (enc (X:=List zW)) tR:=by
 rintro s hs;have hs:s.size<=100000:=hs;simp[Ci,Bg];intro b;refine aS (X:=Value×List zW) [0] [] (λx=>x.2.length<=100000/\∀u∈x.2,0<=u.pos/\u.pos<=100000) (λx=>[(3, .own 36 x.1)]) (λx=>[(36, .row x.1 dt 4 (x.2.map enc))]) ?_ ?_
 ·simp;refine au (X:=Nat×Value×List zW) [0,8] [] (λx=>x.1<=s.size/\x.2.2.length<=x.1/\∀u∈x.2.2,0<=u.pos/\u.pos<=x.1) (λx=>[(3, .own 36 x.2.1)]) (λx=>[(8, .iter b s x.1),(36, .row x.2.1 dt 4 (x.2.2.map enc))]) (λx=>s.size -x.1) (0, .slice none 0 0, []) (by simp) ?_ (hh:=by simp[isNilRow]);rintro⟨p,v,l⟩ ⟨h1,h2,h3⟩;simp at h1 h2 h3;simp;refine⟨λhp=>?_,λhp=>?_⟩
  ·have q:=qgR s p hp;refine aS (X:=Value×List zW) [0,4,5,8] [8] (λx=>x.2.length<=p/\∀u∈x.2,0<=u.pos/\u.pos<=p) (λx=>[(3, .own 36 x.1)]) (λx=>[(36, .row x.1 dt 4 (x.2.map enc))]) ?_ ?_
   ·simp;refineλ_=>⟨λh4 _=>?_,λh4=>⟨v,l,⟨h2,h3⟩,rfl, .inl ⟨rfl,rfl⟩⟩⟩
    obtain⟨a,d⟩:=aQ (l:=l) (k:=l.length -1) (by omega);have h5:=h3 a (aU d);simp only[InR];refine⟨by omega,λ_=>⟨by omega,by omega,by omega,by omega,λj c=>?_⟩⟩;rw[d]at c;cases c;refine⟨by omega,by omega,by omega,by omega,λj c=>?_⟩;rw[d]at c;cases c;refine⟨v,l.set (l.length -1) ⟨a.r,a.pos,p -a.pos,a.ok⟩,⟨by simpa using h2,λu hu=>?_⟩,rfl, .inl ⟨rfl,kN l _ ⟨a.r,a.pos,p -a.pos,a.ok⟩⟩⟩;rcases qGL hu with hu|rfl
    ·exact h3 u hu
    ·exact h5
   ·rintro⟨v,l⟩ ⟨h4,h5⟩;simp at h4 h5;simp;refine⟨by omega,by omega,λv=>⟨p+ (Utf8.decode s p).2,v,l++ [⟨⟨(Utf8.decode s p).1⟩,p,0,false⟩],⟨q.2,by simp;omega,λu hu=>?_⟩,⟨rfl, .inl rfl, .inl ⟨rfl,WE l ⟨⟨(Utf8.decode s p).1⟩,p,0,false⟩⟩⟩,by omega⟩⟩;rcases qFG.1 hu with hu|hu
    ·have:=h5 u hu;omega
    ·simp at hu;subst hu;simp;omega
  ·exact⟨v,l,⟨by omega,λu hu=>by have:=h3 u hu;omega⟩,by simp⟩
 ·rintro⟨v,l⟩ ⟨h1,h2⟩;simp at h1 h2;simp;refine aS (X:=List zW) [3] [] (λx=>x.length=l.length) (λx=>[]) (λx=>[(36, .row v dt 4 (x.map enc))]) ?_ ?_
  ·simp;refineλ_=>⟨λh4 _=>?_,λh4=>⟨l,rfl, .inl rfl⟩⟩
   obtain⟨a,d⟩:=aQ (l:=l) (k:=l.length -1) (by omega);have h5:=h2 a (aU d);simp only[InR];refine⟨by omega,λ_ _=>⟨by omega,by omega,by omega,by omega,λj c=>?_⟩⟩;rw[d]at c;cases c;refine⟨by omega,by omega,by omega,by omega,λj c=>?_⟩;rw[d]at c;cases c;exact⟨l.set (l.length -1) ⟨a.r,a.pos,s.size -a.pos,a.ok⟩,by simp, .inl (kN l _ ⟨a.r,a.pos,s.size -a.pos,a.ok⟩)⟩
  ·intro l h3;simp;intro _;refine ah (X:=List zW) [3] [] l.length (λk x=>x.length=l.length) (λx=>[]) (λx=>[(36, .row v dt 4 (x.map enc))]) l (by simp) ?_ ?_
   ·intro k x hk h4;simp;obtain⟨a,d⟩:=aQ (l:=x) (k:=k) (by omega);simp[d];have h:k<x.length:=by omega
    exact⟨h,λ_=>⟨h,x.set k ⟨a.r,a.pos,a.sz,decide (a.sz=3)⟩,by simpa using h4, .inl (kN x k ⟨a.r,a.pos,a.sz,decide (a.sz=3)⟩)⟩,λ_=>⟨h,x.set k ⟨a.r,a.pos,a.sz,true⟩,by simpa using h4, .inl (kN x k ⟨a.r,a.pos,a.sz,true⟩)⟩⟩
   ·intro x h4;simp;exact aL x (fA dt (by simp)) trivial
abbrev s_r01_Valid:Spc:=aG (a1 B) (λs=>s.size<=100000) (enc (X:=Bool)) tR
def Xu(h1:S Ek=s_r01_Units):ak Ch Bf S (a1 B) (λs=>s.size<=100000) (enc (X:=Bool)) tR:=by
 rintro s hs;have hs:s.size<=100000:=hs;simp[Ch,Bf,h1];refine⟨hs,λl _=>?_⟩;refine ah (X:=Unit) [6] [] l.length (λ_ _=>True) (λ_=>[]) (λ_=>[]) () trivial ?_ ?_
 ·intro k _ hk _;simp[hk]
 ·intro _ _;simp
def vP(s:B)(y:Int):Prop:=y=0->s.size<=120
abbrev s_r04_ValidValue:Spc:=aG (a1 B) ca (enc (X:=Int)) vP
def JX(h1:S Ej=s_r01_Valid):ak rB qf S (a1 B) ca (enc (X:=Int)) vP:=by
 rintro s -;simp[rB,qf,h1];refineλ_=>⟨λh a=>by omega,λhs=>⟨by omega,λa=>by omega,λhlen=>?_⟩⟩
 refine ah (X:=Unit) [12] [] (s.data.toList.length) (λ_ _=>True) (λ_=>[]) (λ_=>[]) () trivial ?_ ?_ (hlen:=by simpa using hlen)
 ·intro k _ hk _;simp at hk;simp[hk,vP]
 ·intro _ _;simp[vP];omega
abbrev s_r05_Parse:Spc:=aG (a1 B) ca (kZ (Y:=List B) (Z:=Int)) tR
theorem Xr(h1:S iE=s_r04_ValidValue):ak Cg Be S (a1 B) ca (kZ (Y:=List B) (Z:=Int)) tR:=by
 rintro s -;simp[Cg,Be,h1,ca];intro e he b _ d;have hs:=he b;have a:0<s.size:=by
  rcases qGU s.size with h|h
  ·exact absurd (ByteArray.size_eq_zero_iff.1 h) d
  ·exact h
 refine⟨a,λc _ _=>⟨by simp[InR];omega,by omega,by omega,λc' _ _=>?_⟩⟩;refine au (X:=Nat×Nat×Value×List B) [0,5] [] (λx=>1<=x.1/\x.1<=s.size/\x.2.1<=x.1/\x.2.2.2.length<=x.1) (λx=>[(8,enc (x.1:Int)),(7,enc (x.2.1:Int)),(6, .own 49 x.2.2.1)]) (λx=>[(49, .row x.2.2.1 aw 1 (x.2.2.2.map enc))]) (λx=>s.size -x.1) (1,1, .slice none 0 0, []) (by simp;omega) ?_ (hh:=by simp[isNilRow]);rintro⟨i,fr,v,l⟩ ⟨j,p,q,r⟩;simp at j p q r;simp;refine⟨λhi=>⟨hi,λc _=>⟨λ_=>⟨by simp[InR];omega,i+1,fr,v,l,⟨by omega,by omega,by omega,by omega⟩,⟨⟨rfl,rfl,rfl⟩, .inl ⟨rfl,rfl⟩⟩,by omega⟩,λ_ _=>⟨by omega,by omega,by omega,by omega,λv=>⟨by simp[InR];omega,i+1,i+1,v,l++ [s.extract fr i],⟨by omega,by omega,by omega,by simp;omega⟩,⟨⟨rfl,rfl,rfl⟩, .inl ⟨rfl,WE l _⟩⟩,by omega⟩⟩⟩⟩,λ_=>?_⟩;refine au (X:=Nat) [6] [49] (λx=>1<=x/\x<=l.length+1) (λx=>[(9,enc (x:Int))]) (λx=>[]) (λx=>l.length+1 -x) 1 (by simp) ?_;intro k hk;simp;exactλ_=>⟨λ_=>⟨by simp[InR];omega,by omega,by omega,by omega,λ_ _=>⟨by omega,λ_ _ _=>⟨by simp[InR];omega,k+1,by omega,by omega,by omega⟩⟩⟩,λ_=>⟨l,fA aw (by simp)⟩⟩
def Dp{X:Type}[Cod X](l:List X)(k:Nat):List.take k (List.map enc l)=List.map enc (List.take k l):=List.map_take.symm
def qkR{X:Type}[Cod X](l:List X)(k:Nat):List.drop k (List.map enc l)=List.map enc (List.drop k l):=List.map_drop.symm
abbrev s_r06_sign:Spc:=aG (a1 Bool) ca (enc (X:=Int)) tR
def qa5:ak EE DB S (a1 Bool) ca (enc (X:=Int)) tR:=by
 rintro s -;simp[EE,DB,-fB']
abbrev s_r06_compare:Spc:=aG (a2 B B) ca (enc (X:=Int)) tR
def Q6:ak xF wy S (a2 B B) ca (enc (X:=Int)) tR:=by
 rintro⟨a,b⟩ -;simp[xF,wy]
abbrev s_r06_CompareRegions:Spc:=aG (a2 Region Region) ca (enc (X:=Int)) tR
def Dc(h1:S Hg=s_r06_sign)(h2:S zy=s_r06_compare):ak kK ku S (a2 Region Region) ca (enc (X:=Int)) tR:=by
 rintro⟨a,b⟩ -;simp[kK,ku,h1,h2,ca,-fB'];intro _ _ _;refine au (X:=Nat) [2,3] [] (λk=>True) (λk=>[(5,enc (k:Int))]) (λ_=>[]) (λk=>a.kv.length -k) 0 trivial ?_;intro k _;simp[h1,h2,ca,-fB']
 repeat' first|apply And.intro|intro _
 all_goals first|omega|(simp only[InR];omega)|exact⟨k+1,by omega,by omega⟩
abbrev s_r06_Attributes:Spc:=aG (a1 (List Attr)) ca (kZ (Y:=Int) (Z:=Int)) tR
theorem JW(h1:S cD=s_r04_ValidName):ak rA qe S (a1 (List Attr)) ca (kZ (Y:=Int) (Z:=Int)) tR:=by
 rintro l -;simp[rA,qe,h1,ca,-fB'];intro _ _ _ _ _;refine ah (X:=Unit) [0,14] [] (l.length) (λ_ _=>True) (λ_=>[]) (λ_=>[]) () trivial ?_ ?_ (hlen:=by first|omega|(simp;omega))
 ·intro k _ hk _;obtain⟨x,c⟩:=aQ hk;simp[h1,ca,-fB',c,hk];refineλb=>⟨by omega,λ_=>?_⟩
  refine ah (X:=Unit) [0,4,5,14,15,16,28] [5] (min k l.length) (λ_ _=>True) (λ_=>[]) (λ_=>[]) () trivial ?_ ?_ (hlen:=by first|omega|(simp;omega))
  ·intro j _ a _;obtain⟨y,d⟩:∃y,(l.take k)[j]? =some y:=aQ (by simpa using a);simp[d,Dp, -List.map_take];simpa using a
  ·intro _ _;simp
 ·intro _ _;simp
abbrev s_r06_Value:Spc:=aG (a2 Attr B) ca (enc (X:=Int)) tR
def Xo(h1:S Ei=s_r05_Parse)(h2:S iE=s_r04_ValidValue):ak Cb Bb S (a2 Attr B) ca (enc (X:=Int)) tR:=by
 rintro⟨a,b⟩ -;simp[Cb,Bb,h1,h2,ca,-fB']
abbrev s_r06_pairs:Spc:=aG (a1 (List Pair)) ca (enc (X:=Int)) tR
def Xm(h1:S cD=s_r04_ValidName)(h2:S iE=s_r04_ValidValue):ak B9 A9 S (a1 (List Pair)) ca (enc (X:=Int)) tR:=by
 rintro l -;simp[B9,A9,h1,h2,ca,-fB'];intro _ _ _;refine ah (X:=Unit) [0,9] [] (l.length) (λ_ _=>True) (λ_=>[]) (λ_=>[]) () trivial ?_ ?_ (hlen:=by first|omega|(simp;omega))
 ·intro k _ hk _;obtain⟨x,a⟩:=aQ hk;simp[h1,h2,ca,-fB',a,hk]
  ((repeat' first|apply And.intro|intro _)<;>first|omega|(simp only[InR];omega)|assumption|trivial)
 ·intro _ _;simp
abbrev s_r06_within:Spc:=aG (a3 Corpus Int Int) ca (enc (X:=Bool)) tR
def Ue:ak zH yR S (a3 Corpus Int Int) ca (enc (X:=Bool)) tR:=by
 rintro⟨c,x,y⟩ -;simp[zH,yR,-fB'];intro _;refine ah (X:=Unit) [1,2,10] [] (c.texts.length) (λ_ _=>True) (λ_=>[]) (λ_=>[]) () trivial ?_ ?_ (hlen:=by first|omega|(simp;omega))
 ·intro k _ hk _;obtain⟨t,a⟩:=aQ hk;simp[a,hk,-fB']
 ·intro _ _;simp
abbrev s_r06_bare:Spc:=aG (a2 (List Int) (List B)) (λx=>x.1.length=x.2.length) (enc (X:=Bool)) tR
def qa6:ak EF DD S (a2 (List Int) (List B)) (λx=>x.1.length=x.2.length) (enc (X:=Bool)) tR:=by
 rintro⟨l,r⟩ hl;have hl:l.length=r.length:=hl;simp[EF,DD,-fB'];intro _;refine ah (X:=Unit) [0,1] [] (l.length) (λ_ _=>True) (λ_=>[]) (λ_=>[]) () trivial ?_ ?_ (hlen:=by first|omega|(simp;omega))
 ·intro k _ hk _;obtain⟨t,b⟩:=aQ hk;obtain⟨u,c⟩:=aQ (l:=r) (k:=k) (by omega);have a:k<r.length:=by omega
  simp[b,c,hk,a,-fB']
 ·intro _ _;simp
abbrev s_r06_TextAt:Spc:=aG (a2 Corpus Int) ca (enc (X:=Int)) tR
def Uh:ak zK yU S (a2 Corpus Int) ca (enc (X:=Int)) tR:=by
 rintro⟨c,x⟩ -;simp[zK,yU,-fB'];intro _;refine ah (X:=Unit) [1,8] [] (c.texts.length) (λ_ _=>True) (λ_=>[]) (λ_=>[]) () trivial ?_ ?_ (hlen:=by first|omega|(simp;omega))
 ·intro k _ hk _;obtain⟨t,a⟩:=aQ hk;simp[a,hk,-fB']
 ·intro _ _;simp
abbrev s_r06_FindText:Spc:=aG (a2 Corpus B) ca (enc (X:=Int)) tR
def NO:ak uY ux S (a2 Corpus B) ca (enc (X:=Int)) tR:=by
 rintro⟨c,x⟩ -;simp[uY,ux,-fB'];intro _;refine ah (X:=Unit) [1,8] [] (c.texts.length) (λ_ _=>True) (λ_=>[]) (λ_=>[]) () trivial ?_ ?_ (hlen:=by first|omega|(simp;omega))
 ·intro k _ hk _;obtain⟨t,a⟩:=aQ hk;simp[a,hk,-fB']
 ·intro _ _;simp
abbrev s_r06_sameAttributes:Spc:=aG (a2 (List Attr) (List Attr)) ca (enc (X:=Bool)) tR
def Db:ak kJ kq S (a2 (List Attr) (List Attr)) ca (enc (X:=Bool)) tR:=by
 rintro⟨l,r⟩ -;simp[kJ,kq,-fB'];intro _ _ he _;refine ah (X:=Unit) [0,1] [] (l.length) (λ_ _=>True) (λ_=>[]) (λ_=>[]) () trivial ?_ ?_ (hlen:=by first|omega|(simp;omega))
 ·intro k _ hk _;obtain⟨t,b⟩:=aQ hk;obtain⟨u,c⟩:=aQ (l:=r) (k:=k) (by omega);have a:k<r.length:=by omega
  simp[b,c,hk,a,-fB']
 ·intro _ _;simp
abbrev s_r06_cyclic:Spc:=aG (a2 (List Int) Int) (λx=>0<=x.2/\x.2<x.1.length) (enc (X:=Bool)) tR
def Ug:ak zJ yT S (a2 (List Int) Int) (λx=>0<=x.2/\x.2<x.1.length) (enc (X:=Bool)) tR:=by
 rintro⟨l,i⟩ hl;have hl:0<=i/\i<l.length:=hl;simp[zJ,yT,-fB'];intro _;refine ah (X:=Int) [0,1] [] l.length (λ_ a=>0<=a/\a<l.length) (λa=>[(5,enc a)]) (λ_=>[]) i hl ?_ ?_
 ·intro k a hk c;simp[-fB'];refine⟨c.1,c.2,λb _ h1 _ h2 _=>⟨h1,h2⟩⟩
 ·intro _ _;simp
abbrev s_r06_tokens:Spc:=aG (a1 Corpus) ca (kZ (Y:=Int) (Z:=Int)) tR
def Uf(h1:S Ef=s_r06_Value):ak zI yS S (a1 Corpus) ca (kZ (Y:=Int) (Z:=Int)) tR:=by
 rintro c -;simp[zI,yS,h1,ca,-fB'];intro _ _ _;refine ah (X:=Unit) [1,14] [] (c.toks.length) (λ_ _=>True) (λ_=>[]) (λ_=>[]) () trivial ?_ ?_ (hlen:=by first|omega|(simp;omega))
 ·intro k _ hk _;obtain⟨t,b⟩:=aQ hk;simp[b,hk,-fB'];intro d h l p;refine ah (X:=Unit) [1,4,14,15,16,28] [] (c.toks[k].length) (λ_ _=>True) (λ_=>[]) (λ_=>[]) () trivial ?_ ?_ (hlen:=by first|omega|(simp;omega))
  ·intro j _ q _;have a:j<c.attrs.length:=by omega
   simp[q,a,h1,ca,-fB']
  ·intro _ _;simp
 ·intro _ _;simp
abbrev s_r06_texts:Spc:=aG (a1 Corpus) ca (kZ (Y:=Int) (Z:=Int)) tR
theorem Xl(h1:S cD=s_r04_ValidName)(h2:S yv=s_r06_pairs):ak B8 A8 S (a1 Corpus) ca (kZ (Y:=Int) (Z:=Int)) tR:=by
 rintro c -;simp[B8,A8,h1,h2,ca,-fB'];intro _ _ _ _ _ _;refine ah (X:=Int) [1,4,26] [] c.texts.length (λ_ _=>True) (λa=>[(5,enc a)]) (λ_=>[]) 0 trivial ?_ ?_
 ·intro k a hk _;obtain⟨t,h⟩:=aQ hk;simp[h,hk,h1,ca,-fB'];refineλb=>⟨by omega,λ_=>?_⟩
  refine ah (X:=Unit) [1,4,5,6,7,26,27,28,41] [7] (min k c.texts.length) (λ_ _=>True) (λ_=>[]) (λ_=>[]) () trivial ?_ ?_ (hlen:=by first|omega|(simp;omega))
  ·intro j _ d _;obtain⟨y,l⟩:∃y,(c.texts.take k)[j]? =some y:=aQ (by simpa using d);simp[l,Dp, -List.map_take];simpa using d
  ·intro _ _;simp[h2,ca,-fB']
   ((repeat' first|apply And.intro|intro _)<;>first|omega|(simp only[InR];omega)|assumption|trivial)
 ·intro _ _;simp
abbrev s_r06_regions:Spc:=aG (a1 Corpus) ca (kZ (Y:=Int) (Z:=Int)) tR
theorem Q5(h1:S cD=s_r04_ValidName)(h2:S yv=s_r06_pairs)(h3:S vM=s_r06_within)(h4:S gJ=s_r06_CompareRegions):ak xE wx S (a1 Corpus) ca (kZ (Y:=Int) (Z:=Int)) tR:=by
 rintro c -;simp[xE,wx,h1,h2,h3,h4,ca,-fB'];intro _ _ _;refine ah (X:=Unit) [1,15] [] (c.regs.length) (λ_ _=>True) (λ_=>[]) (λ_=>[]) () trivial ?_ ?_ (hlen:=by first|omega|(simp;omega))
 ·intro k _ hk _;obtain⟨t,h⟩:=aQ hk;simp[h,hk,h1,h2,h3,h4,ca,-fB'];refineλb=>⟨λh0=>⟨by simp only[InR];omega,by omega,by omega,λa _ y _=>⟨by simp only[InR];omega,by omega,by omega,λ_=>?_⟩⟩,λh0=>⟨by simp only[InR];omega,by omega,by omega,λ_=>?_⟩⟩
  all_goals
   refine ah (X:=Nat) [1,4,5,15,16,17,62] [5] (min (k+1) c.regs.length) (λj d=>d<=j) (λd=>[(7,enc (d:Int))]) (λ_=>[]) 0 (by omega) ?_ ?_
   ·intro j d l p;obtain⟨y,q⟩:∃y,(c.regs.take (k+1))[j]? =some y:=aQ (by simpa using l);simp[q,Dp, -List.map_take,-fB']
    repeat' first|apply And.intro|intro _
    all_goals first|omega|(simp only[InR];omega)|exact⟨d,by omega,by omega⟩|exact⟨d+1,by omega,by omega⟩|(simp;omega)|skip
   ·intro d p;simp
 ·intro _ _;simp
def qeZ(x:List AS×Corpus):Prop:=∀(j:Nat) (y:AS),x.1[j]? =some y->y.par<j
abbrev s_r06_Nodes:Spc:=aG (a2 (List AS) Corpus) qeZ (kZ (Y:=Int) (Z:=Int)) tR
theorem Xq(h1:S cD=s_r04_ValidName)(h3:S vM=s_r06_within):ak Cf Bd S (a2 (List AS) Corpus) qeZ (kZ (Y:=Int) (Z:=Int)) tR:=by
 rintro⟨l,c⟩ hp;have hp:∀(j:Nat) (y:AS),l[j]? =some y->y.par<j:=hp;simp[Cf,Bd,h1,h3,ca,-fB'];intro _ _ _;refine⟨by omega,by omega,λx _=>?_⟩;refine ah (X:=List Int) [0,3,18] [] l.length (λ_ d=>d.length=l.length/\∀a∈d,0<=a/\a<=40) (λ_=>[(6, .own 17 x)]) (λd=>[(17, .row x bj 1 (d.map enc))]) (List.replicate l.length 0) (by simp) ?_ ?_
 ·rintro k d hk ⟨p,h⟩;obtain⟨t,s⟩:=aQ hk;have w:=hp k t s;have q:=qFB.1 s;obtain⟨_,q⟩:=q;simp[s,q,hk,h1,h3,ca,-fB'];refineλb=>⟨by simp only[InR];omega,?_⟩
  refine aS (X:=Int) [0,3,6,7,8,18,19,20] [8,17] (λ_=>True) (λa=>[(9,enc a)]) (λ_=>[]) ?_ ?_
  ·simp;refine au (X:=Int) [0,3,6,7,8,18,19,20] [8,17] (λa=>a<k) (λa=>[(9,enc a)]) (λ_=>[]) (λa=>(a+1).toNat) ((k:Int) -1) (by omega) ?_;intro a A;simp;intro h0 _;refine⟨h0,by omega,λy C=>?_⟩;have:=hp a.toNat y C;exact⟨y.par,by omega,rfl,by omega⟩
  ·intro a _;refine aS (X:=Unit) [0,3,6,7,8,18,19,20] [8,17] (λ_=>True) (λ_=>[]) (λ_=>[]) ?_ ?_
   ·simp
   ·rintro - -;refine aS (X:=List Int) [0,3,6,7,8,18,19,20] [8] (λd=>d.length=l.length/\∀a∈d,0<=a/\a<=40) (λ_=>[]) (λd=>[(17, .row x bj 1 (d.map enc))]) ?_ ?_
    ·simp;refine⟨λh0=>⟨h0,by omega,λy _ _ _=>⟨h0,by omega,by omega,λa2 r=>⟨by omega,λa3 _=>⟨d.set k a2,⟨by simpa using p,λa4 h4=>?_⟩, .inl (kN d k a2)⟩⟩⟩⟩,λ_=>⟨d,⟨p,h⟩, .inl rfl⟩⟩;rcases qGL h4 with h4|rfl
     ·exact h _ h4
     ·exact h _ (aU r)
    ·rintro d ⟨p,h⟩;refine aS (X:=Unit) [0,3,6,7,18,19,20] [17] (λ_=>True) (λ_=>[]) (λ_=>[]) ?_ ?_
     ·simp;refine⟨by simp only[InR];omega,?_⟩;refine au (X:=Int) [0,3,6,7,8,18,19,20] [8,17] (λa=>a<k) (λa=>[(11,enc a)]) (λ_=>[]) (λa=>(a+1).toNat) ((k:Int) -1) (by omega) ?_;intro a A;simp;exactλh0=>⟨h0,by omega,λy _=>⟨λ_=>⟨h0,by omega⟩,λ_=>⟨by simp only[InR];omega,a -1,by omega,rfl,by omega⟩⟩⟩
     ·rintro - -;simp;refine⟨by omega,λa2 r=>?_⟩;have h4:=h _ (aU r);refine⟨by simp only[InR];omega,by omega,λ_ _=>⟨by omega,λE h5=>?_⟩⟩;have u:k<d.length:=by omega
      rw[qGH (by simpa using u)]at h5;cases h5;simp;refineλh6=>⟨d.set k (a2+1),⟨by simpa using p,λa4 h4=>?_⟩, .inl (kN d k (a2+1))⟩
      rcases qGL h4 with h4|rfl
      ·exact h _ h4
      ·omega
 ·intro d F;simp
def qeW(c:Corpus):Prop:=True
abbrev s_r06_heads:Spc:=aG (a1 Corpus) qeW (kZ (Y:=Int) (Z:=Int)) tR
theorem Xn(h1:S cD=s_r04_ValidName)(h3:S Hh=s_r06_bare)(h4:S BS=s_r06_TextAt)(h5:S BR=s_r06_cyclic):ak Ca Ba S (a1 Corpus) qeW (kZ (Y:=Int) (Z:=Int)) tR:=by
 rintro c -;simp[Ca,Ba,h1,h3,h4,h5,ca,-fB'];intro _;refine aS (X:=Unit) [1,4] [] (λ_=>c.heads.length=c.rels.length) (λ_=>[]) (λ_=>[]) ?_ ?_
 ·simp
  ((repeat' first|apply And.intro|intro _)<;>first|omega|(simp only[InR];omega)|assumption|trivial)
 ·rintro -hl;refine aS (X:=Unit) [1,4] [] (λ_=>True) (λ_=>[]) (λ_=>[]) ?_ ?_
  ·simp[h1,h3,h4,h5,ca,hl,-fB']
  ·rintro - -;simp;intro _;refine ah (X:=Unit) [1,4,36] [] (c.heads.length) (λ_ _=>True) (λ_=>[]) (λ_=>[]) () trivial ?_ ?_ (hlen:=by first|omega|(simp;omega))
   ·intro k _ hk _;have a:k<c.rels.length:=by omega
    simp[hk,a];refine aS (X:=Unit) [1,4,5,36,37,38] [] (λ_=>True) (λ_=>[]) (λ_=>[]) ?_ ?_
    ·simp[h1,h3,h4,h5,ca,hk,a,hl,-fB']
    ·rintro - -;refine aS (X:=Unit) [1,4,5,36,37,38] [] (λ_=>True) (λ_=>[]) (λ_=>[]) ?_ ?_
     ·simp[h1,h3,h4,h5,ca,hk,a,hl,-fB']
     ·rintro - -;simp[h1,h3,h4,h5,ca,hk,a,hl,-fB']
   ·intro _ _;simp
def ts(c:Corpus):Prop:=∀(j:Nat) (y:AS),c.nodes[j]? =some y->y.par<j
abbrev s_r06_Validate:Spc:=aG (a1 Corpus) ts (qov (Y:=Int) (Z:=Int) (W:=Int)) tR
def NN(h1:S sQ=s_r06_Attributes)(h2:S BQ=s_r06_tokens)(h3:S Ed=s_r06_texts)(h4:S zx=s_r06_regions)(h5:S Eh=s_r06_Nodes)(h6:S Ee=s_r06_heads):ak uX uw S (a1 Corpus) ts (qov (Y:=Int) (Z:=Int) (W:=Int)) tR:=by
 rintro c hc;simp[uX,uw,h1,h2,h3,h4,h5,h6,ca,-fB'];exact⟨hc,trivial⟩
abbrev s_r06_Valid:Spc:=aG (a1 Corpus) ts (enc (X:=Bool)) tR
def Xp(h1:S wY=s_r06_Validate):ak Ce Bc S (a1 Corpus) ts (enc (X:=Bool)) tR:=by
 rintro c hc;simp[Ce,Bc,h1,ca,-fB'];exact hc
theorem qrL{b:Type}(m:List b)(bl x:b)(j:Nat)(a:j<=m.length):(List.take (j+1) (m++ [bl]) ++ (List.take (m.length -j) (List.drop j (List.take (m.length+1) (m++ [bl]))) ++List.drop (j+1+min (m.length+1-j) (m.length-j)) (m++ [bl]))).set j x=m.take j++x::m.drop j:=by
 have h1:List.take (m.length+1) (m++ [bl])=m++ [bl]:=qGy (by simp);have h2:List.drop j (m++ [bl])=m.drop j++ [bl]:=List.drop_append_of_le_length a;have h3:List.take (m.length -j) (m.drop j++ [bl])=m.drop j:=by rw[List.take_left'];simp
 have h4:List.drop (j+1+min (m.length+1-j) (m.length-j)) (m++ [bl])=[]:=List.drop_of_length_le (by simp;omega);rw[h1,h2,h3,h4,qGR];have h5:List.take (j+1) (m++[bl])=m.take j++ [(m++ [bl])[j]'(by simp;omega)]:=by
  rw[List.take_succ_eq_append_getElem (by simp;omega),List.take_append_of_le_length a]
 rw[h5,qGJ,List.set_append_right _ _ (by simp;omega)];simp[a]
def qoa{a:Type}{m:List a}{bl x:a}{j n:Nat}(hn:m.length=n)(b:j<=n):(List.take (j+1) (m++ [bl]) ++ (List.take (n -j) (List.drop j (List.take (n+1) (m++ [bl]))) ++List.drop (j+1+min (n+1-j) (n-j)) (m++ [bl]))).set j x=m.take j++x::m.drop j:=by
 subst hn;exact qrL m bl x j b
def ql2(l m:List Region):Prop:=m.length=l.length/\∀x∈m,x∈l
def qcZ(l:List Region):Prop:=l.length<=1000000
abbrev s_r06_SortRegions:Spc:=aG (a1 (List Region)) qcZ (enc (X:=List Region)) ql2
theorem HB(h1:S gJ=s_r06_CompareRegions):ak pd oq S (a1 (List Region)) qcZ (enc (X:=List Region)) ql2:=by
 rintro l hl;have hl:l.length<=1000000:=hl;simp[pd,oq,-fB'];intro _;refine ah (X:=Value×List Region) [7] [] l.length (λk x=>x.2.length=k/\∀y∈x.2,y∈l) (λx=>[(3, .own 32 x.1)]) (λx=>[(32, .row x.1 pv 4 (x.2.map enc))]) (.slice none 0 0, []) (by simp) ?_ ?_ (hh:=by simp[isNilRow])
 ·rintro k ⟨v,m⟩ hk ⟨p,c⟩;simp at p c;simp[hk];refineλb _=>?_
  refine aS (X:=Nat) [3,5,7,8,9] [5,32] (λx=>x<=m.length) (λx=>[(6,enc (x:Int))]) (λx=>[]) ?_ ?_
  ·simp;refine au (X:=Nat) [3,5,7,8,9] [5,32] (λx=>x<=m.length) (λx=>[(6,enc (x:Int))]) (λx=>[]) (λx=>x) m.length (by simp) ?_;intro j q;simp[h1,ca];refine⟨λh0=>⟨by simp only[InR];omega,by omega,by omega,by omega,λa _ y=>⟨λ_=>⟨by simp only[InR];omega,j -1,by omega,by omega,by omega⟩,λ_=>⟨j,q,rfl⟩⟩⟩,λ_=>⟨j,q,rfl⟩⟩
  ·intro j q;simp;have r:D.agg [D.v (Value.string l[k].ty),D.v (Value.int IntKind.i64 l[k].b),D.v (Value.int IntKind.i64 l[k].e),D.list 2 (List.map enc l[k].kv)]=enc l[k]:=by simp
   refine⟨by omega,by omega,λv=>⟨by simp only[InR];omega,by omega,by omega,by omega,by omega,by omega,λd _=>⟨v,m.take j++l[k]::m.drop j,⟨by simp;omega,λy s=>?_⟩,rfl, .inl ⟨rfl,?_⟩⟩⟩⟩
   ·rcases qFG.1 s with h|h
    ·exact c _ (qF1 h)
    ·rcases qFK.1 h with rfl|h
     ·exact qG1 hk
     ·exact c _ (qGw h)
   ·refine(qoa (by simp) q).trans ?_;rw[r,Dp,qkR,qHs,qF6]
 ·rintro⟨v,m⟩ ⟨p,c⟩;simp at p c;simp;exact aL m (fA pv (by simp)) ⟨p,c⟩
def ER(s:Int):List xX->Int->Prop
 | [],e=>s=e
 |t::r,e=>t.b=s/\t.b<t.e/\ER t.e r e
def qaH(c:Corpus):Prop:=ER 0 c.texts c.toks.length/\c.texts≠ []/\c.toks.length<=4096/\c.texts.length<=64/\c.regs.length<=1024/\c.nodes.length<=2048/\c.attrs.length<=1000/\c.heads.length<=c.toks.length/\c.rels.length<=c.toks.length/\
 (∀x∈c.regs,0<=x.b/\x.b<=c.toks.length/\0<=x.e/\x.e<=c.toks.length)/\(∀x∈c.nodes,0<=x.b/\x.b<=c.toks.length/\0<=x.e/\x.e<=c.toks.length)/\(∀(j:Nat) (y:AS),c.nodes[j]? =some y->y.par<j)/\∀h∈c.heads,h<=c.toks.length
def QL(c:Corpus)(x:List Int×List B):Prop:=(∀h∈x.1,h<=c.toks.length)/\x.1.length<=c.toks.length/\x.2.length<=c.toks.length
abbrev s_r06_allHeads:Spc:=aG (a1 Corpus) qaH (kZ (Y:=List Int) (Z:=List B)) QL
theorem NM:ak uW uv S (a1 Corpus) qaH (kZ (Y:=List Int) (Z:=List B)) QL:=by
 rintro c hc;obtain⟨c1,c2,c3,c4,w,A,C,q,r,s,t,u,l⟩:=hc;simp[uW,uv,-fB'];refineλ_=>⟨λ_=>⟨c.heads, .same _,c.rels, .same _,l,q,r⟩,λ_ _=>⟨by omega,by omega,λv _=>?_⟩⟩
 refine ah (X:=List Int) [1] [] c.toks.length (λk x=>x.length=c.toks.length/\∀(j:Nat) (y:Int),x[j]? =some y->j<k->y= -1) (λx=>[(4, .own 17 v)]) (λx=>[(17, .row v bj 1 (x.map enc))]) (List.replicate c.toks.length 0) (by simp) ?_ ?_
 ·rintro k m hk ⟨h,d⟩;simp;refine⟨by omega,λa _=>⟨m.set k (-1),⟨by simpa using h,λj y b p=>?_⟩, .inl (kN m k (-1))⟩⟩;rw[List.getElem?_set]at b;split at b
  ·split at b
   ·cases b;rfl
   ·cases b
  ·exact d j y b (by omega)
 ·rintro m ⟨h,d⟩;simp;refineλ_=>⟨by omega,by omega,λx=>⟨m,fA bj (by simp),List.replicate c.toks.length ⟨#[]⟩,fA aw (by simp),λy b=>?_,by show m.length<=_;omega,by simp⟩⟩
  obtain⟨j,p⟩:=qF3.1 b;have:=d j y p (by have:=(qFB.1 p).1;have E:j<m.length:=this;omega);omega
def eU(H:ab)(a b:D)(l p:List D):FrzTo H (.agg (a::l)) (.agg (b::p))=(FrzTo H a b/\FrzTo H (.agg l) (.agg p)):=by
 refine propext ⟨λh=>?_,λ⟨h1,h2⟩=>?_⟩
 ·cases h with
  |same=>exact⟨.same _, .same _⟩
  |agg hl h=>exact⟨h 0 a b rfl rfl, .agg (by simpa using hl) λk c c' h1 h2=>h (k+1) c c' (by simpa using h1) (by simpa using h2)⟩
 ·have hl:l.length=p.length:=by
   cases h2 with
   |same=>rfl
   |agg hl _=>exact hl
  refine .agg (by simp[hl]) λk c c' j d=>?_
  cases k with
  |zero=>simp at j d;subst j;subst d;exact h1
  | succ k=>
    simp at j d;cases h2 with
    |same=>rw[j]at d;cases d;exact .same _
    |agg _ h=>exact h k c c' j d
def zc:Corpus:=⟨[], [], [], [], [], [], []⟩
def zq{X:Type}(f:X->X)(a b:List X)(j:Nat):List X:=a++ ((b.take j).map f++b.drop j)
def qjC{X:Type}(f:X->X)(a b:List X):zq f a b 0=a++b:=by simp[zq]
def qjB{X:Type}(f:X->X)(a b:List X):zq f a b b.length=a++b.map f:=by simp[zq]
def E5{X:Type}(f:X->X)(a b:List X)(j:Nat):(zq f a b j).length=a.length+b.length:=by simp[zq];omega
def qrz{X:Type}(f:X->X)(a b:List X){j:Nat}{y:X}(c:b[j]? =some y):(zq f a b j)[a.length+j]? =some y:=by
 have d:=(qFB.1 c).1;simp only[zq];rw[qF4 (by omega),qF4 (by simp;omega)];simp only[qGl,qF7,qGx];rw[<-c];congr 1;omega
def qnT{X:Type}(f:X->X)(a b:List X){j:Nat}{y:X}(c:b[j]? =some y):(zq f a b j).set (a.length+j) (f y)=zq f a b (j+1):=by
 have d:=(qFB.1 c).1;have h:b.drop j=y::b.drop (j+1):=by
  rw[qGh d];rw[(qFB.1 c).2]
 simp only[zq];rw[List.set_append_right _ _ (by omega),List.set_append_right _ _ (by simp;omega)];have:a.length+j -a.length - (List.map f (List.take j b)).length=0:=by simp;omega
 rw[this,h,List.set_cons_zero];rw[List.take_succ_eq_append_getElem d,(qFB.1 c).2];simp
def VG{X:Type}(f:X->X)(a b:List X){k:Nat}{y:X}(hk:a.length<=k)(c:b[k -a.length]? =some y):(zq f a b (k -a.length))[k]? =some y:=by
 have:=qrz f a b c;rwa [Nat.add_sub_cancel' hk]at this
def Pz{X:Type}(f:X->X)(a b:List X){k:Nat}{y:X}(hk:a.length<=k)(c:b[k -a.length]? =some y):(zq f a b (k -a.length)).set k (f y)=zq f a b (k+1 -a.length):=by
 have:=qnT f a b c;rw[Nat.add_sub_cancel' hk]at this;rw[this];congr 1;omega
def Lg:∀{l:List xX} {s e:Int},ER s l e->∀t∈l,s<=t.b/\t.b<t.e/\t.e<=e
 | [],s,e,h,t,ht=>by simp at ht
 | x::r,s,e,h,t,ht=>by
   obtain⟨h1,h2,h3⟩:=h;have c:∀{l:List xX} {s e:Int},ER s l e->s<=e:=by
    intro l
    induction l with
    |nil=>intro s e h;have h:s=e:=h;omega
    |cons a l d=>intro s e h;have:=d h.2.2;have:=h.1;have:=h.2.1;omega
   rcases qFK.1 ht with rfl|ht
   ·have:=c h3;omega
   ·have:=Lg h3 t ht;omega
def qpo(n:Int)(t:xX):xX:=⟨t.nm,t.b+n,t.e+n,t.kv⟩
def TJ:∀{l:List xX} {s e:Int} {r:List xX} {n f:Int},ER s l e->ER 0 r f->n=e->ER s (l++r.map (qpo n)) (n+f)
 | [],s,e,r,n,f,h,c,hn=>by
   have h:s=e:=h;subst h;subst hn;have go:∀(r:List xX) (a:Int),ER a r f->ER (a+n) (r.map (qpo n)) (n+f):=by
    intro r
    induction r with
    |nil=>intro a h;have h:a=f:=h;show a+n=n+f;omega
    |cons x r d=>intro a h;obtain⟨h1,h2,h3⟩:=h;exact⟨by show x.b+n=a+n;omega,by show x.b+n<x.e+n;omega,d _ h3⟩
   have:=go r 0 c;simpa using this
 |x::l,s,e,r,n,f,h,c,hn=>⟨h.1,h.2.1,TJ h.2.2 c hn⟩
def qqW(n:Int)(x:Region):Region:=⟨x.ty,x.b+n,x.e+n,x.kv⟩
def qnh(n m:Int)(x:AS):AS:=⟨x.lb,x.b+n,x.e+n,if 0<=x.par then x.par+m else x.par⟩
def iD(a b:Corpus)(c:List Int)(d:List B):Corpus:=⟨a.attrs,a.toks++b.toks,a.texts++b.texts.map (qpo a.toks.length),a.regs++b.regs.map (qqW a.toks.length),a.nodes++b.nodes.map (qnh a.toks.length a.nodes.length),c,d⟩
theorem qda{a b:Corpus}{k:List Int}{u:List B}(w:qaH a)(hb:qaH b)(A:a.toks.length+b.toks.length<=4096)(C:a.texts.length+b.texts.length<=64)(l3:a.regs.length+b.regs.length<=1024)(E:a.nodes.length+b.nodes.length<=2048)
 (h1:k.length<=a.toks.length+b.toks.length) (h2:u.length<=a.toks.length+b.toks.length) (h3:∀h∈k,h<=a.toks.length+b.toks.length):qaH (iD a b k u):=by
 obtain⟨a1,a2,a3,a4,L,M,F,N,O,l,p,q,I⟩:=w;obtain⟨b1,b2,Q,U,W,Y,Z,b8,b9,r,s,t,J⟩:=hb;refine⟨?_,?_,?_,?_,?_,?_,F,?_,?_,?_,?_,?_,?_⟩
 ·have:=TJ (n:=a.toks.length) a1 b1 rfl;simpa [iD]using this
 ·simp[iD,a2]
 ·simpa [iD]using A
 ·simpa [iD]using C
 ·simpa [iD]using l3
 ·simpa [iD]using E
 ·simpa [iD]using h1
 ·simpa [iD]using h2
 ·intro x d;simp only[iD,qFG,qFL,qF5]at d ⊢;rcases d with d|⟨y,c,rfl⟩
  ·have:=l x d;omega
  ·have:=r y c;simp only[qqW];omega
 ·intro x d;simp only[iD,qFG,qFL,qF5]at d ⊢;rcases d with d|⟨y,c,rfl⟩
  ·have:=p x d;omega
  ·have:=s y c;simp only[qnh];omega
 ·intro j y c;simp only[iD]at c;by_cases K:j<a.nodes.length
  ·rw[qGc K]at c;exact q j y c
  ·rw[qF4 (by omega),qFP]at c;simp only[qFM]at c;obtain⟨z,hz,rfl⟩:=c;have:=t _ z hz;simp only[qnh];split<;>omega
 ·intro h hh;simp only[iD,qF5]at hh ⊢;have:=h3 h hh;omega
def qaR(x:Corpus×Corpus):Prop:=qaH x.1/\qaH x.2
def qaO(x:Corpus×Corpus)(z:Corpus×Int):Prop:=z.2=0->qaH z.1/\z.1.attrs=x.1.attrs/\z.1.toks=x.1.toks++x.2.toks
abbrev s_r06_Concat:Spc:=aG (a2 Corpus Corpus) qaR (kZ (Y:=Corpus) (Z:=Int)) qaO
theorem Ui(h1:S Eg=s_r06_Valid)(h2:S lL=s_r06_sameAttributes)(h3:S wZ=s_r06_FindText)(h4:S wX=s_r06_allHeads):ak zL yV S (a2 Corpus Corpus) qaR (kZ (Y:=Corpus) (Z:=Int)) qaO:=by
 rintro⟨a,b⟩ ⟨C,hb⟩;have C:qaH a:=C;have hb:qaH b:=hb;have va:ts a:=C.2.2.2.2.2.2.2.2.2.2.2.1;have vb:ts b:=hb.2.2.2.2.2.2.2.2.2.2.2.1;simp[zL,yV,h1,h2,va,vb,ca,-fB'];intro r y;refine⟨λ_ y2=>⟨λ_=>?_,λ_ y3=>⟨λ_=>?_,λ_=>?_⟩⟩,λ_=>?_⟩
 case refine_1=>exact⟨zc,by simp[zc,eU],λh=>by simp at h⟩
 case refine_2=>exact⟨zc,by simp[zc,eU],λh=>by simp at h⟩
 case refine_4=>exact⟨zc,by simp[zc,eU],λh=>by simp at h⟩
 refine aS (X:=Unit) [2,3,4] [4] (λ_=>True) (λ_=>[]) (λ_=>[]) ?_ ?_
 ·simp;intro _;refine ah (X:=Unit) [2,3,4,37] [4] (b.texts.length) (λ_ _=>True) (λ_=>[]) (λ_=>[]) () trivial ?_ ?_ (hlen:=by first|omega|(simp;omega))
  ·intro k _ hk _;simp[hk,h3,ca];intro _ _;exact⟨zc,by simp[zc,eU],λh=>by simp at h⟩
  ·simp
 rintro - -;simp;intro _ _;refine aS (X:=Unit) [2,3,4,8,9] [4] (λ_=>a.toks.length+b.toks.length<=4096/\a.texts.length+b.texts.length<=64/\a.regs.length+b.regs.length<=1024/\a.nodes.length+b.nodes.length<=2048) (λ_=>[]) (λ_=>[]) ?_ ?_
 ·obtain⟨a1,a2,a3,a4,a5,a6,a7,a8,a9,O,Q,U,W⟩:=C;obtain⟨b1,b2,b3,b4,b5,b6,b7,b8,b9,E,F,I,b13⟩:=hb;simp;intro _;refine⟨by simp only[InR];omega,λ_ _ _=>⟨by simp only[InR];omega,λ_ _ _=>⟨by simp only[InR];omega,λ_ _=>⟨by simp only[InR];omega,λ_=>?_,by omega⟩,λ_=>?_⟩,λ_=>?_⟩,λ_=>?_⟩
  all_goals exact⟨zc,by simp[zc,eU],λh=>by simp at h⟩
 ·rintro - ⟨l1,l2,l3,l4⟩;have hA:=C;have hB:=hb;obtain⟨a1,a2,a3,a4,a5,a6,a7,a8,a9,O,Q,U,W⟩:=C;obtain⟨b1,b2,b3,b4,b5,b6,b7,b8,b9,E,F,I,b13⟩:=hb;simp;refine⟨by omega,by omega,λv0 bx=>⟨by omega,by omega,by omega,by omega,λv1=>⟨by omega,by omega,by omega,by omega,λL=>?_⟩⟩⟩;refine aS (X:=Unit) [2,3,4,8,9,10] [4,10,93,97] (λ_=>True) (λ_=>[]) (λ_=>[(104, .row L ET 4 ((a.texts++b.texts.map (qpo a.toks.length)).map enc))]) ?_ ?_
  ·simp;intro _;refine au (X:=Nat) [2,3,4,8,9,10] [4,10,93,97] (λk=>a.texts.length<=k/\k<=a.texts.length+b.texts.length) (λk=>[(11,enc (k:Int))]) (λk=>[(104, .row L ET 4 ((zq (qpo a.toks.length) a.texts b.texts (k -a.texts.length)).map enc))]) (λk=>a.texts.length+b.texts.length -k) a.texts.length (by omega) ?_ (hh:=by simp[qjC]);intro k hk;by_cases j:k<a.texts.length+b.texts.length
   ·obtain⟨t,q⟩:=aQ (l:=b.texts) (k:=k -a.texts.length) (by omega);have p:=VG (qpo a.toks.length) a.texts b.texts hk.1 q;have d:=Pz (qpo a.toks.length) a.texts b.texts hk.1 q;have hc:=Lg b1 t (aU q);obtain⟨J,s⟩:=qFB.1 p;simp[E5,p,s,j,qGH,List.set_set];refineλ_=>⟨λ_=>⟨by omega,by simp only[InR];omega,by omega,by simp only[InR];omega,by omega,by simp only[InR];omega,k+1,by omega,⟨by omega, .inl ?_⟩,by omega⟩,λh=>by omega⟩
    rw[<-d,<-kN];simp[qpo]
   ·have u:k -a.texts.length=b.texts.length:=by omega
    simp[E5,j,u,qjB];omega
  rintro - -;simp;refine⟨by omega,by omega,by omega,by omega,λM=>?_⟩;refine aS (X:=Unit) [2,3,4,8,9,10] [4,10,93,97,104] (λ_=>True) (λ_=>[]) (λ_=>[(141, .row M pv 4 ((a.regs++b.regs.map (qqW a.toks.length)).map enc))]) ?_ ?_
  ·simp;intro _;refine au (X:=Nat) [2,3,4,8,9,10] [4,10,93,97,104] (λk=>a.regs.length<=k/\k<=a.regs.length+b.regs.length) (λk=>[(12,enc (k:Int))]) (λk=>[(141, .row M pv 4 ((zq (qqW a.toks.length) a.regs b.regs (k -a.regs.length)).map enc))]) (λk=>a.regs.length+b.regs.length -k) a.regs.length (by omega) ?_ (hh:=by simp[qjC]);intro k hk;by_cases j:k<a.regs.length+b.regs.length
   ·obtain⟨t,q⟩:=aQ (l:=b.regs) (k:=k -a.regs.length) (by omega);have p:=VG (qqW a.toks.length) a.regs b.regs hk.1 q;have d:=Pz (qqW a.toks.length) a.regs b.regs hk.1 q;have hc:=E t (aU q);obtain⟨J,s⟩:=qFB.1 p;simp[E5,p,s,j,qGH,List.set_set];refineλ_=>⟨λ_=>⟨by omega,by simp only[InR];omega,by omega,by simp only[InR];omega,by omega,by simp only[InR];omega,k+1,by omega,⟨by omega, .inl ?_⟩,by omega⟩,λh=>by omega⟩
    rw[<-d,<-kN];simp[qqW]
   ·have u:k -a.regs.length=b.regs.length:=by omega
    simp[E5,j,u,qjB];omega
  rintro - -;simp;refine⟨by omega,by omega,by omega,by omega,λN=>?_⟩;refine aS (X:=Unit) [2,3,4,8,10] [4,10,93,97,104,141] (λ_=>True) (λ_=>[]) (λ_=>[(178, .row N yj 4 ((a.nodes++b.nodes.map (qnh a.toks.length a.nodes.length)).map enc))]) ?_ ?_
  ·simp;refine au (X:=Nat) [2,3,4,8,9,10] [4,10,93,97,104,141] (λk=>a.nodes.length<=k/\k<=a.nodes.length+b.nodes.length) (λk=>[(13,enc (k:Int))]) (λk=>[(178, .row N yj 4 ((zq (qnh a.toks.length a.nodes.length) a.nodes b.nodes (k -a.nodes.length)).map enc))]) (λk=>a.nodes.length+b.nodes.length -k) a.nodes.length (by omega) ?_ (hh:=by simp[qjC]);intro k hk;by_cases j:k<a.nodes.length+b.nodes.length
   ·obtain⟨t,q⟩:=aQ (l:=b.nodes) (k:=k -a.nodes.length) (by omega);have p:=VG (qnh a.toks.length a.nodes.length) a.nodes b.nodes hk.1 q;have d:=Pz (qnh a.toks.length a.nodes.length) a.nodes b.nodes hk.1 q;have hc:=F t (aU q);have hc2:=I _ t q;obtain⟨J,s⟩:=qFB.1 p;simp[E5,p,s,j,qGH,List.set_set];refineλ_=>⟨λ_=>⟨by omega,by simp only[InR];omega,by omega,by simp only[InR];omega,by omega,λhp=>⟨by omega,by simp only[InR];omega,by omega,by simp only[InR];omega,k+1,by omega,⟨by omega, .inl ?_⟩,by omega⟩,λhp=>⟨by simp only[InR];omega,k+1,by omega,⟨by omega, .inl ?_⟩,by omega⟩⟩,λh=>by omega⟩
    ·rw[<-d,<-kN];simp[qnh,hp]
    ·rw[<-d,<-kN];simp[qnh,show ¬(0<=t.par)by omega]
   ·have u:k -a.nodes.length=b.nodes.length:=by omega
    simp[E5,j,u,qjB];omega
  rintro - -;simp[h4,hA,hB];refineλ_ _=>⟨by simp only[InR];omega,λ_=>?_,λ_=>?_⟩
  ·rintro K rl1 ⟨q1,q2,q3⟩ hd2 rl2 ⟨p1,p2,p3⟩;simp only at q1 q2 q3 p1 p2 p3;refine⟨by omega,by omega,λv5=>⟨by omega,by omega,by omega,by omega,λv6 _=>?_⟩⟩;refine Ka (qqc 247 269 10 bx _ [D.own 93 v0,D.own 97 v1,D.own 104 L,D.own 141 M,D.own 178 N,D.own 269 v5,D.own 249 v6] (by decide) (by decide) rfl rfl (λm c c' h h'=>?_)) ?_
   ·rcases m with _|_|_|_|_|_|_|m<;>simp at h h'<;>subst h<;>subst h'<;>simp
   refine ah (X:=Value×List Int) [4,8,10,254] [4,93,97,104,141,178,249] hd2.length (λk x=>x.2.length=K.length+k/\∀h∈x.2,h<=a.toks.length+b.toks.length) (λ_=>[]) (λx=>[(10, .box bx [D.own 93 v0,D.own 97 v1,D.own 104 L,D.own 141 M,D.own 178 N,D.own 269 x.1,D.own 249 v6]),(269, .row x.1 bj 1 (x.2.map enc))]) (v5,K) ⟨rfl,λh hh=>by have:=q1 h hh;omega⟩ ?_ ?_
   ·rintro k ⟨v,l⟩ hk ⟨A,w⟩;simp only at A w;obtain⟨x,hx⟩:=aQ hk;have hpx:=p1 x (aU hx);obtain⟨_,hgx⟩:=qFB.1 hx;simp[hk,hx,hgx];refine aS (X:=Int) [4,8,10,254,255,256] [4,10,93,97,104,141,178,249,269] (λy=>y<=a.toks.length+b.toks.length) (λy=>[(19,enc y)]) (λ_=>[]) ?_ ?_
    ·simp;exact⟨λh0=>⟨by simp only[InR];omega,by omega⟩,λh0=>by omega⟩
    ·intro y hy;simp;refine⟨by omega,by omega,λv=>⟨v,l++ [y],⟨by simp;omega,λh hh=>?_⟩, .inl rfl, .inl ⟨rfl,WE l y⟩⟩⟩;rcases qFG.1 hh with hh|hh
     ·exact w h hh
     ·simp at hh;omega
   ·rintro⟨v,l⟩ ⟨A,w⟩;simp only at A w;simp;refine⟨iD a b l (rl1++rl2),?_,λ_=>⟨qda hA hB l1 l2 l3 l4 (by omega) (by simp;omega) w,rfl,rfl⟩⟩;simp only[eU];refine⟨fA (X:=Attr) H7 (by simp[iD]),fA (X:=List B) yk (by simp[iD]),fA (X:=xX) ET (by simp[iD]),fA (X:=Region) pv (by simp[iD]),fA (X:=AS) yj (by simp[iD]),fA (X:=Int) bj (by simp[iD]),fA (X:=B) aw (by simp[iD]), .same _⟩
  ·refine⟨iD a b [] [],?_,λ_=>⟨qda hA hB l1 l2 l3 l4 (by simp) (by simp) (by simp),rfl,rfl⟩⟩;simp only[eU];refine⟨fA (X:=Attr) H7 (by simp[iD]),fA (X:=List B) yk (by simp[iD]),fA (X:=xX) ET (by simp[iD]),fA (X:=Region) pv (by simp[iD]),fA (X:=AS) yj (by simp[iD]), .nil _, .nil _, .same _⟩
end
section
def qaG:List B:=[⟨#[97]⟩,⟨#[98]⟩,⟨#[99]⟩,⟨#[65]⟩,⟨#[97,98]⟩,⟨#[]⟩]
def qlV:List B:=[⟨#[88]⟩,⟨#[89]⟩]
def TR:List B:=[⟨#[124]⟩,⟨#[124,112,124]⟩,⟨#[124,112,124,113,124]⟩,⟨#[124,113,124]⟩]
def ij:List Attr:=[⟨⟨#[119,111,114,100]⟩,false⟩,⟨⟨#[116,97,103]⟩,false⟩,⟨⟨#[102,101,97,116]⟩,true⟩]
def qp7(l:List Attr):Prop:=l=ij
def JI(r:List B):Prop:=∃w t f,w∈qaG/\t∈qlV/\f∈TR/\r=[w,t,f]
def WX(c:Corpus):Prop:=c.attrs=ij/\∀r∈c.toks,JI r
open Cod (enc dec)
variable {S S0:Nat->Spc}
def qkj{a b c:Corpus}(d:WX a)(hb:WX b)(h:c.attrs=a.attrs/\c.toks=a.toks++b.toks):WX c:=by
 refine⟨h.1.trans d.1,λr hr=>?_⟩;rw[h.2]at hr;rcases qFG.1 hr with hr|hr
 ·exact d.2 r hr
 ·exact hb.2 r hr
abbrev s_m_Document:Spc:=aG (aT (a2 B Int)) (λx=>1<=x.2.2/\x.2.2<=1000) (enc (X:=Corpus)) (λx c=>qaH c/\WX c/\(c.toks.length:Int)<=x.2.2)
abbrev s_m_Corpus:Spc:=aG (aT (a1 Int)) (λx=>1<=x.2/\x.2<=1000) (enc (X:=Corpus)) (λx c=>qaH c/\WX c/\(c.toks.length:Int)<=3*x.2)
theorem qbb(h1:S bU=s_m_Next)(h2:S qY=s_m_Document)(h3:S BT=s_r06_Concat):ak tm sD S (aT (a1 Int)) (λx=>1<=x.2/\x.2<=1000) (enc (X:=Corpus)) (λx c=>qaH c/\WX c/\(c.toks.length:Int)<=3*x.2):=by
 rintro⟨L,n⟩ hn;have hn:1<=n/\n<=1000:=hn;simp[tm,sD,h1,h2,hn];intro b y l d p b1 k q r;refine au (X:=Int×Corpus) [0,1,4,5] [4] (λx=>0<=x.1/\x.1<=2/\qaH x.2/\WX x.2/\(x.2.toks.length:Int) +x.1*n<=3*n) (λx=>[(6,enc x.1)]) (λx=>[(5, .box b1 (enc x.2).cells)]) (λx=>x.1.toNat) (k,y) ⟨q,by omega,l,d,by
  have:k=0\/k=1\/k=2:=by omega
  show(y.toks.length:Int) +k*n<=3*n;rcases this with rfl|rfl|rfl<;>omega⟩ ?_
 rintro⟨k,c⟩ ⟨s,t,h,j,u⟩;simp only at s t h j u;simp[h1,h2,h3,hn];refine⟨λhk=>⟨by omega,by omega,?_⟩,λhk=>?_⟩
 ·have:k=1\/k=2:=by omega
  rcases this with rfl|rfl
  all_goals
   simp[hn];refineλy l d p=>⟨⟨h,l⟩,λa e he=>⟨λh0=>⟨by simp[InR],_,a,⟨?_,?_,(he h0).1,qkj j d (he h0).2,by
    have e:=(he h0).2.2;simp only at e;rw[e,qF5];omega⟩,⟨rfl, .inl ⟨rfl,rfl,rfl,rfl,rfl,rfl,rfl⟩⟩,?_⟩,λh0=>⟨by simp[InR],_,c,⟨?_,?_,h,j,by omega⟩,⟨rfl, .inl ⟨rfl,rfl,rfl,rfl,rfl,rfl,rfl⟩⟩,?_⟩⟩⟩
   all_goals omega
 ·have:k=0:=by omega
  subst this;exact aL c (by simp) ⟨h,j,by show(c.toks.length:Int)<=3*n;omega⟩
end
section
def RFz(Hf:ab):Res->Res->Prop
 | .box b cs, .box b' cs'=>b=b'/\cs.length=cs'.length/\∀(m:Nat) (c c':D),cs[m]? =some c->cs'[m]? =some c'->FrzTo Hf c c'
 | .row x el n es, .row h a l es'=>x=h/\el=a/\n=l/\es.length=es'.length/\(∀d∈es',d.kn=true/\d.cells.length=n)/\∀(m:Nat) (c c':D),es[m]? =some c->es'[m]? =some c'->∀(j:Nat) (e k:D),c.cells[j]? =some e->c'.cells[j]? =some k->FrzTo Hf e k
 | .tbox el b cs, .tbox a b' cs'=>el=a/\b=b'/\cs.length=cs'.length/\∀(m:Nat) (c c':D),cs[m]? =some c->cs'[m]? =some c'->FrzTo Hf c c'
 | .mrow x es, .mrow h es'=>x=h/\es.length=es'.length/\∀(m:Nat) (c c':D),es[m]? =some c->es'[m]? =some c'->FrzTo Hf c c'
 |r,r'=>r=r'
def RFz.blk{Hf:ab}{r r':Res}(h:RFz Hf r r'):r'.blk=r.blk:=by
 cases r<;>cases r'<;>simp only[RFz]at h;grind [Res.blk]
 all_goals first
  |(obtain⟨rfl,rfl,rfl,_⟩:=h;rfl)
  |(obtain⟨rfl,rfl,_⟩:=h;rfl)
  |(obtain⟨rfl,_⟩:=h;rfl)
  |grind
  |(cases h;rfl)
theorem RFz.ok{tp I A:Nat->Prop}{w:World}{Hf:ab}{r r':Res}(h:RFz Hf r r')(a:ResOk (R tp I w) w r)(N:∀i q,Hf i=some q->ResOk (R tp I w) w q)(hI:∀b,I b->A b)(hb:∀i q b,Hf i=some q->q.blk=some b->A b):ResOk (R tp A w) w r':=by
 have fz:∀{c c':D} {y:Value},FrzTo Hf c c'->R tp I w y c->R tp A w y c':=λh a=>h.R (H:=bS) N hI hb a
 have same:ResOk (R tp A w) w r:=a.conv (λx d a=>a.mono (λ_ h=>h) (λb hb=>⟨hI b hb,rfl⟩) (λb _=> .refl _ _)) (λ_ _=>rfl);cases r with
 | box b cs=>
   cases r' with
   | box b' cs'=>
     obtain⟨rfl,hl,hc⟩:=h;obtain⟨xs,el,h1,h2,h3⟩:=a;refine⟨xs,el,h1,h2.trans hl,λk y c C t=>?_⟩;have hk:k<cs.length:=by grind
     have h4:=h3 k y cs[k] C (qFC hk);grind
   |row x el n es=>cases h
   |iter b s p=>cases h
   |tbox b s p=>cases h
   |mrow=>cases h
   |miter=>cases h
   |raw=>cases h
 | iter b s p=>
   cases r' with
   |box b' cs'=>cases h
   |row x el n es=>cases h
   |iter b' E M=>cases h;omega
   |tbox b' E M=>cases h
   |mrow=>cases h
   |miter=>cases h
   |raw=>cases h
 | tbox b s p=>
   cases r' with
   |box b' cs'=>cases h
   |row x el n es=>cases h
   |iter b' E M=>cases h
   |mrow=>cases h
   |miter=>cases h
   |raw=>cases h
   | tbox b' E cs'=>
     obtain⟨rfl,rfl,hl,hc⟩:=h;obtain⟨xs,h1,h2,h3⟩:=a;refine⟨xs,h1,h2.trans hl,λk y c C t=>?_⟩;have hk:k<p.length:=by grind
     have h4:=h3 k y p[k] C (qFC hk);grind
 | row x el n es=>
   cases r' with
   |box b' cs'=>cases h
   |iter b' E M=>cases h
   |tbox b' E M=>cases h
   |mrow=>cases h
   |miter=>cases h
   |raw=>cases h
   | row W Y n' es'=>
     obtain⟨rfl,rfl,rfl,hl,F,hc⟩:=h;obtain⟨xs,h1,h2,h3⟩:=a;refine⟨xs,hl ▸h1,F,λk y c C t=>?_⟩;have Q:∀d∈es,d.cells.length=n:=λd O=>(h2 d O).2
     have J:∀d∈es',d.cells.length=n:=λd O=>(F d O).2
     have Z:=bh Q;have U:=bh J;have hk:k<(bp es).length:=by
      grind
     have hk2:k<es.length*n:=by omega
     have hn:0<n:=by
      grind
     have h4:=h3 k y (bp es)[k] C (qFC hk);refine⟨h4.1,fz ?_ h4.2⟩;have hdm:k=(k/n) *n+k % n:=by grind [ResOk,qGW]
     have u:k % n<n:=qG3 _ hn;have g1:=dY Q (i:=k/n) (j:=k % n) u;have g2:=dY J (i:=k/n) (j:=k % n) u;grind
 | mrow x es=>
   cases r' with
   |box=>cases h
   |iter=>cases h
   |tbox=>cases h
   |row=>cases h
   |miter=>cases h
   |raw=>cases h
   | mrow W es'=>
     obtain⟨rfl,hl,hc⟩:=h;obtain⟨b,L,clock,rfl,h1,h2,h3⟩:=a;refine⟨b,L,clock,rfl,h1,h2,h3.1.trans hl,λk e c he t=>?_⟩;have hk:k<es.length:=by grind
     exact fz (hc k _ _ (qFC hk) t) (h3.2 k e _ he (qFC hk))
 | miter b c l=>
   cases r' with
   |box=>cases h
   |iter=>cases h
   |tbox=>cases h
   |row=>cases h
   |mrow=>cases h
   |raw=>cases h
   |miter=>cases h;omega
 | raw k=>
   cases r' with
   |box=>cases h
   |iter=>cases h
   |tbox=>cases h
   |row=>cases h
   |mrow=>cases h
   |miter=>cases h
   |raw k'=>cases h;omega
def RFe(Hf:ab)(r r':Res):Prop:=r=r'\/RFz Hf r r'
def RFe.blk{Hf:ab}{r r':Res}(h:RFe Hf r r'):r'.blk=r.blk:=by
 rcases h with rfl|h
 ·rfl
 ·exact h.blk
def RFe.ok{tp I c:Nat->Prop}{w:World}{Hf:ab}{r r':Res}(h:RFe Hf r r')(a:ResOk (R tp I w) w r)(j:∀i q,Hf i=some q->ResOk (R tp I w) w q)(hI:∀b,I b->c b)(hb:∀i q b,Hf i=some q->q.blk=some b->c b):ResOk (R tp c w) w r':=by
 rcases h with rfl|h
 ·exact a.conv (λx d a=>a.mono (λ_ h=>h) (λb hb=>⟨hI b hb,rfl⟩) (λb _=> .refl _ _)) (λ_ _=>rfl)
 ·exact h.ok a j hI hb
def isNilRow.blk'{r:Res}(h:isNilRow r):r.blk=none:=by
 cases r with
 |box b c=>exact h.elim
 |iter b s p=>exact h.elim
 |tbox b s p=>exact h.elim
 |mrow=>exact h.elim
 |miter=>exact h.elim
 |raw=>exact h.elim
 |row x el n es=>obtain⟨rfl,rfl⟩:=h;rfl
theorem qhm{σ M:Sg}{H H' Hf:ab}(ρ:Nat->Nat)(h1:∀t,FrzTo Hf (σ t) (M t))(h2:∀i r,H' i=some r->(∃u,H (ρ i)=some u/\RFe Hf u r)\/isNilRow r)
 (h3:∀i j r s,H' i=some r->H' j=some s->ρ i=ρ j->i=j\/isNilRow r\/isNilRow s) (h4:∀i r,Hf i=some r->H i=some r/\∀j r',H' j=some r'->ρ j=i->isNilRow r'):Wk σ H M H':=by
 intro E a w ⟨Y,Z,tp,h,Q⟩;have l:∀i r c,H' i=some r->r.blk=some c->∃u,H (ρ i)=some u/\u.blk=some c/\ ¬isNilRow r:=λi r c A F=>by
  have hn:¬isNilRow r:=λhn=>by grind [hn.blk']
  rcases h2 i r A with⟨u,k3,I⟩|k3;grind [I.blk];grind
 have J:∀c,bA H' c->bA H c:=λc ⟨i,r,A,F⟩=>by
  obtain⟨u,k3,I,_⟩:=l i r c A F;exact⟨ρ i,u,k3,I⟩
 have C:∀c,aR E.O tp H w c->aR E.O tp H' w c:=λc hb=>⟨hb.1,hb.2.1,hb.2.2.1,λho=>hb.2.2.2 (J c ho)⟩
 have L:∀i q,Hf i=some q->ResOk (R tp (aR E.O tp H w) w) w q:=λi q U=>h.sat.ok i q (h4 i q U).1
 have N:∀i q b,Hf i=some q->q.blk=some b->aR E.O tp H' w b:=λi q b U hb=>by
  obtain⟨A,F⟩:=h4 i q U;have ho:=h.sat.out i q b A hb;refine⟨(h.sat.ok i q A).lt hb,ho.1,ho.2,λ⟨j,s,k3,I⟩=>?_⟩;obtain⟨W,k5,k6,k7⟩:=l j s b k3 I;exact k7 (F j s k3 (h.sat.dis (ρ j) i W q b k5 A k6 hb))
 have move:∀x d,R tp (aR E.O tp H w) w x d->R tp (aR E.O tp H' w) w x d:=λx d Q=>
  Q.mono (λ_ h=>h) (λb hb=>⟨C b hb,rfl⟩) (λb _=> .refl _ _)
 refine⟨Y,Z,tp,⟨h.hO,h.tpx,h.tpn,h.tpl,h.step,λb hb=>h.loc b (J b hb),⟨λi j r s c A F k3 I=>?_,λi r c A F=>?_,λi r A=>?_⟩⟩,λt=>(h1 t).R (H:=bS) L C N (Q t)⟩
 ·obtain⟨u,a1,a2,a3⟩:=l i r c A k3;obtain⟨W,b1,b2,b3⟩:=l j s c F I;rcases h3 i j r s A F (h.sat.dis _ _ u W c a1 b1 a2 b2)with e|e|e;omega;grind;grind
 ·obtain⟨u,a1,a2,_⟩:=l i r c A F;exact h.sat.out _ u c a1 a2
 ·rcases h2 i r A with⟨u,k3,I⟩|k3
  ·exact I.ok (h.sat.ok _ u k3) L C N
  ·cases r with
   |box b c=>exact k3.elim
   |iter b s p=>exact k3.elim
   |tbox b s p=>exact k3.elim
   |mrow=>exact k3.elim
   |miter=>exact k3.elim
   |raw=>exact k3.elim
   | row x el n es=>
     obtain⟨rfl,rfl⟩:=k3;exact⟨[],qHa _ _ _ _,by simp,λk y c h=>by grind⟩
def Cr(Hf:ab):List (Nat×D)->Sg->Prop
 | [],_=>True
 |(t,d)::l,σ=>FrzTo Hf (σ t) d/\Cr Hf l σ
@[simp] theorem quW(Hf:ab)(σ:Sg):Cr Hf [] σ=True:=i' rfl
@[simp] theorem quX(Hf:ab)(t:Nat)(d:D)(l:List (Nat×D))(σ:Sg):Cr Hf ((t,d)::l) σ=(FrzTo Hf (σ t) d/\Cr Hf l σ):=i' rfl
def qbV(rn:List (Nat×Nat))(i:Nat):Nat:=(rn.lookup i).getD i
def zX(Hf:ab)(rn:List (Nat×Nat)):List (Nat×Res)->ab->Prop
 | [],_=>True
 |(i,r)::l,H=>((∃a,H (qbV rn i)=some a/\RFe Hf a r)\/isNilRow r)/\zX Hf rn l H
@[simp] theorem quU(Hf:ab)(rn:List (Nat×Nat))(H:ab):zX Hf rn [] H=True:=i' rfl
@[simp] theorem quV(Hf:ab)(rn:List (Nat×Nat))(i:Nat)(r:Res)(l:List (Nat×Res))(H:ab):zX Hf rn ((i,r)::l) H=(((∃a,H (qbV rn i)=some a/\RFe Hf a r)\/isNilRow r)/\zX Hf rn l H):=i' rfl
def Ma(a:List Nat)(H:ab):ab:=λi=>if i∈a then H i else none
def qsP(rn:List (Nat×Nat))(ids a:List Nat):Prop:=(∀i∈ids,∀j∈ids,qbV rn i=qbV rn j->i=j)/\(∀i∈ids,qbV rn i∉a)
instance (rn:List (Nat×Nat)) (ids a:List Nat):Decidable (qsP rn ids a):=by unfold qsP;infer_instance
def eh{l:List (Nat×Res)}{H:ab}{i:Nat}{r:Res}(h:gS l H i=some r):(i,r) ∈l\/(i∉l.map (·.1)/\H i=some r):=by
 induction l with
 |nil=>simp_all
 | cons p l a=>
   obtain⟨j,q⟩:=p;simp only[gS,ai]at h;grind
def qce{Hf:ab}{rn:List (Nat×Nat)}{l:List (Nat×Res)}{H:ab}{i:Nat}{r:Res}(h:zX Hf rn l H)(hm:(i,r) ∈l):(∃a,H (qbV rn i)=some a/\RFe Hf a r)\/isNilRow r:=by
 induction l<;>grind [zX]
theorem JQ{b σ:Sg}{l H:ab}{ks hk c:List Nat}{rn:List (Nat×Nat)}{k:List (Nat×D)}{hp:List (Nat×Res)}(hi:qsP rn (hp.map (·.1) ++hk) c)(hid:∀i∈hk,i∉hp.map (·.1)->qbV rn i=i)
 (h1:Cr (Ma c H) k σ) (h2:yH ks b σ) (h3:zX (Ma c H) rn hp H) (h4:CM hk l H):Wk σ H (um k (jK ks b)) (gS hp (jL hk l)):=by
 have a:∀i r,gS hp (jL hk l) i=some r->i∈hp.map (·.1) ++hk:=λi r h=>by
  rcases eh h with h|⟨_,h⟩;grind;grind [PQ]
 refine qhm (Hf:=Ma c H) (qbV rn) (λt=>?_) (λi r h=>?_) (λi j r s q u e=> .inl (hi.1 i (a i r q) j (a j s u) e)) (λi r h=>?_)
 ·clear hi hid h3 a
  induction k with
  | nil=>
    rw[qcQ,PP];grind [FrzTo,yH]
  | cons p k w=>
    obtain⟨s,d⟩:=p;simp only[um,upd];grind [Cr]
 ·rcases eh h with h|⟨h5,h⟩;grind [qce]
  ·rw[PQ]at h;split at h
   ·rename_i e;rw[hid i e h5,h4 i e];exact .inl ⟨r,h, .inl rfl⟩
   grind
 grind [qsP,Ma]
@[simp] theorem qDM(i:Nat):qbV [] i=i:=i' rfl
@[simp] theorem qDN(i j:Nat)(l:List (Nat×Nat))(k:Nat):qbV ((i,j)::l) k=if k=i then j else qbV l k:=by
 simp only[qbV,List.lookup];by_cases e:k=i
 ·subst e;simp
 ·have:(k==i)=false:=by simpa using e
  simp[this,e]
def FzL(Hf:ab):List D->List D->Prop
 | [], []=>True
 |a::l,b::r=>FrzTo Hf a b/\FzL Hf l r
 | _,_=>False
@[simp] theorem qEl(Hf:ab):FzL Hf [] []=True:=i' rfl
@[simp] theorem qEm(Hf:ab)(a b:D)(l r:List D):FzL Hf (a::l) (b::r)=(FrzTo Hf a b/\FzL Hf l r):=i' rfl
def FzL.get{Hf:ab} :∀{l r:List D},FzL Hf l r->l.length=r.length/\∀(m:Nat) (c c':D),l[m]? =some c->r[m]? =some c'->FrzTo Hf c c'
 | [], [],_=>⟨rfl,λm c c' h=>by simp⟩
 | a::l,b::r,h=>by
   obtain⟨h1,h2⟩:=h;have d:=FzL.get h2;grind
@[simp] theorem qxl(Hf:ab)(b:Nat)(cs cs':List D):RFe Hf (.box b cs) (.box b cs')=(cs=cs'\/FzL Hf cs cs'):=by
 refine propext ⟨λh=>?_,λh=>?_⟩
 ·rcases h with h|⟨_,hl,hc⟩
  ·cases h;exact .inl rfl
  ·right
   induction cs generalizing cs' with
   | nil=>cases cs' with
     |nil=>trivial
     |cons b r=>simp at hl
   | cons a l d=>cases cs' with
     |nil=>simp at hl
     |cons b r=>exact⟨hc 0 a b rfl rfl,d r (by simpa using hl) λm c c' h1 h2=>hc (m+1) c c' (by simpa using h1) (by simpa using h2)⟩
 ·rcases h with rfl|h
  ·exact .inl rfl
  ·exact .inr ⟨rfl,h.get.1,h.get.2⟩
def qe8(a:Sg)(c:ab)(ks hk b:List Nat)(rn:List (Nat×Nat))(d:List (Nat×D))(hp:List (Nat×Res))(σ:Sg)(H:ab):Prop:=Cr (Ma b H) d σ/\yH ks a σ/\zX (Ma b H) rn hp H/\CM hk c H
@[simp] theorem qv9(a:Sg)(c:ab)(ks hk b:List Nat)(rn:List (Nat×Nat))(d:List (Nat×D))(hp:List (Nat×Res))(σ:Sg)(H:ab):qe8 a c ks hk b rn d hp σ H=(Cr (Ma b H) d σ/\yH ks a σ/\zX (Ma b H) rn hp H/\CM hk c H):=i' rfl
section
variable {S:Nat->Spc}{σ:Sg}{H:ab}{K:Ex->Sg->ab->Prop}
def gc{X:Type}(ks hk d:List Nat)(rn:List (Nat×Nat))(P:X->Prop)(j:X->List (Nat×D))(hp:X->List (Nat×Res)){k:Nat}{a b:CC}(ids:List Nat)(l:∀x,(hp x).map (·.1)=ids)(hi:qsP rn (ids++hk) d/\∀i∈hk,i∉ids->qbV rn i=i)
 (p:vc S a (Zf (λc H'=>∃x,P x/\qe8 σ H ks hk d rn (j x) (hp x) c H') K) σ H)
 (hb:∀x,P x->vc S b K (um (j x) (jK ks σ)) (gS (hp x) (jL hk H))):vc S (MI k a b) K σ H:=by
 refine qm0 P _ _ (AV a _ _ (λe c H' h=>?_) p) hb;cases e with
 | norm=>
   obtain⟨x,h1,h2⟩:=h;grind [Zf,qe8,JQ]
 |ex i=>exact h
 |ret=>exact h
end
open Cod (enc dec)
variable {S S0:Nat->Spc}
end
section
variable {dq:Prop}
section
variable {X Y:Type}
def qp8(cf:Y->List D)(b:Nat)(post:Y->Prop)(r:D)(H:ab):Prop:=∃y cs,r= .tup []/\H 1=some (.box b cs)/\FzL (qoo 1 [] H) cs (cf y)/\post y
def WI(cc:CC)(rs:List aj)(S:Nat->Spc)(ce:X->List D)(cf:Y->List D)(pre:X->Prop)(post:X->Y->Prop):Prop:=
 ∀L b x,pre x->vc S cc (vE rs λr H'=>qp8 cf b (post x) r H') (dR [.tape L, .bptr 1 b 0]) (ai bS 1 (some (.box b (ce x))))
variable {P:Program}{S:Nat->Spc}{f:Nat}{im:List Nat}{cc:CC}{rs:List aj}{N:Nat}
theorem LF{ce:X->List D}{cf:Y->List D}{pre:X->Prop}{post:X->Y->Prop}(t:∀f,Tri dq P f (S f).pt)(h:zY P f im cc rs N)(u:2<=N)(w:WI cc rs S ce cf pre post):Tri dq P f (qzx ce cf pre post).pt:=by
 obtain⟨zq,enter,fn,code,h1,h2,h3,h4,h5⟩:=h;refine qbA t zq h1 h2 enter h3 h4 h5 ?_;rintro ds H d K ⟨L,id,b,x,rfl,hid,hp,A⟩;refine⟨u, [.tape L, .bptr 1 b 0],ai bS 1 (some (.box b (ce x))),λ_=>id, .cons (.same _) (.cons (.bptr _ _ _ _) .nil),λi r h=>?_,λi j r s h C _=>?_,_,w L b x hp,?_⟩
 ·by_cases e:i=1
  ·subst e;simp only[ai,if_true]at h;cases h;exact hid
  ·simp[ai,e,bS]at h
 ·have a:i=1:=by
   by_cases e:i=1
   ·exact e
   ·simp[ai,e,bS]at h
  have b:j=1:=by
   by_cases e:j=1
   ·exact e
   ·simp[ai,e,bS]at C
  exact a.trans b.symm
 ·rintro r H' ⟨y,cs,rfl,l,hz,c⟩;have E:=qof (H:=H') 1 b cs (cf y) [] l hz.get.1 hz.get.2;have l:left 1 b (cf y) [] H' 1=some (.box b (cf y)):=rfl;refine⟨.tup [],left 1 b (cf y) [] H',bS,ai H id (some (.box b (cf y))),λi=>if i=id then some 1 else none,E, .same _,λj q h=>by simp[bS]at h,A y c,λi s hi=>?_,λi p k s q hi F I J=>?_⟩
  ·by_cases e:i=id
   ·subst e;simp only[ai,if_true]at hi;cases hi;simpa using l
   ·simp only[ai,e,if_false]at hi ⊢;exact⟨hi,λk q h he=>e he.symm⟩
  ·have a:i=id:=by
    by_cases e:i=id
    ·exact e
    ·simp[e]at I
   have b:p=id:=by
    by_cases e:p=id
    ·exact e
    ·simp[e]at J
   exact a.trans b.symm
end
end
section
open Cod (enc dec)
variable {S S0:Nat->Spc}
def qmM:qlT Qr OQ S:=by
 intro l;simp[Qr,OQ, -List.map_take,Dp,H8];omega
def qxF(c:Corpus):List D:=[enc c.attrs,enc c.toks,enc c.texts,enc c.regs, .v (.slice none 0 0), .v (.slice none 0 0), .v (.slice none 0 0)]
def qnL(c:Corpus):List D:=[enc c.attrs,enc c.toks,enc c.texts,enc c.regs,enc c.nodes, .v (.slice none 0 0), .v (.slice none 0 0)]
def qvf(c:Corpus):List D:=[enc c.attrs,enc c.toks,enc c.texts,enc c.regs,enc c.nodes,enc c.heads,enc c.rels]
end
section
section
variable {S:Nat->Spc}{σ:Sg}{H:ab}{K:Ex->Sg->ab->Prop}
theorem rX{X:Type}(ks hk c p:List Nat)(rn0 rn:List (Nat×Nat))(P:X->Prop)(l:X->List (Nat×D))(hp:X->List (Nat×Res))(m:X->Nat)(d:X)(ids:List Nat)(a:∀x,(hp x).map (·.1)=ids)
 (j:qsP rn0 (ids++hk) c/\∀i∈hk,i∉ids->qbV rn0 i=i) (hi:qsP rn (ids++hk) p/\∀i∈hk,i∉ids->qbV rn i=i) {k:Nat} {b:CC} (h0:P d)
 (hs:Cr (Ma c H) (l d) σ) (hh:zX (Ma c H) rn0 (hp d) H)
 (q:∀x,P x->vc S b (qfc P (λy=>qe8 σ H ks hk p rn (l y) (hp y)) m x K) (um (l x) (jK ks σ)) (gS (hp x) (jL hk H))):vc S (.loop k b) K σ H:=by
 rw[Wn];refine⟨⟨X,P,λx=>um (l x) (jK ks σ),λx=>gS (hp x) (jL hk H),m⟩,⟨d,h0,JQ (by rw[a d];exact j.1) (by rw[a d];exact j.2) hs (λ_ _=>rfl) hh (λ_ _=>rfl)⟩,λx r=>AV b _ _ (λe s H' h=>?_) (q x r)⟩;cases e with
 | norm=>
   obtain⟨y,h1,h2,h3⟩:=h;exact⟨y,h1,JQ (by rw[a y];exact hi.1) (by rw[a y];exact hi.2) h2.1 h2.2.1 h2.2.2.1 h2.2.2.2,h3⟩
 |ex i=>exact h
 |ret=>exact h
end
open Cod (enc dec)
variable {S S0:Nat->Spc}
def X7(l:List B):List D:=l.map enc
def Sj(a b:B):D.list 1 [.v (.string a), .v (.string b)]= .list 1 (X7 [a,b]):=i' rfl
def X6(a b c:B):D.list 1 [.v (.string a), .v (.string b), .v (.string c)]= .list 1 (X7 [a,b,c]):=i' rfl
def nE(l:List B):(X7 l).length=l.length:=by simp[X7]
def tz(l:List B)(i:Nat)(d:D):((X7 l)[i]? =some d)=∃s,l[i]? =some s/\ .v (.string s)=d:=by
 simp[X7]
def qmi(n:Nat)(a:List AS):Prop:=(∀x∈a,0<=x.b/\x.b<=n/\0<=x.e/\x.e<=n)/\∀(j:Nat) (y:AS),a[j]? =some y->y.par<j
def WM(c c':Corpus):Prop:=∃a,c'={ c with nodes:=a } /\a.length<=6/\qmi c.toks.length a
def Fj(c:Corpus):Prop:=c.toks.length<=4096
theorem qfd(h1:S bU=s_m_Next):WI vi uD S qxF qnL Fj WM:=by
 intro L b c hc;have hc:c.toks.length<=4096:=hc;simp[vi,uD,h1,qxF];intro _ k I J;refine rX (X:=Int×Int×Value×List AS) [0,1,4] [] [] [] [] [] (λx=>0<=x.1/\x.1<=c.toks.length/\0<=x.2.1/\2*x.2.1+x.2.2.2.length<=6/\qmi c.toks.length x.2.2.2) (λx=>[(5,enc x.1),(6,enc x.2.1)]) (λx=>[(1, .box b [enc c.attrs,enc c.toks,enc c.texts,enc c.regs, .own 61 x.2.2.1, .v (.slice none 0 0), .v (.slice none 0 0)]),(61, .row x.2.2.1 yj 4 (x.2.2.2.map enc))]) (λx=>x.2.1.toNat) (0,k, .slice none 0 0, []) [1,61] (λ_=>rfl) (by decide) (by decide) ?_ ?_ ?_ ?_
 ·simp[qmi];omega
 ·simp
 ·simp[isNilRow];exact .nilown 61
 ·rintro⟨at_,k,v,l⟩ ⟨K,M,N,O,q⟩;simp only at K M N O q;simp[h1,Sj,nE,tz];have fin:qp8 qnL b (WM c) (D.tup []) (ai (ai (ai (λx=>none) 96 none) 61 (some (Res.row v yj 4 (List.map enc l)))) 1 (some (Res.box b [D.list 2 (List.map enc c.attrs),D.list 1 (List.map enc c.toks),D.list 4 (List.map enc c.texts),D.list 4 (List.map enc c.regs),D.own 61 v,D.v (Value.slice none 0 0),D.v (Value.slice none 0 0)]))):=by
   refine⟨{ c with nodes:=l },_,rfl,rfl,?_,⟨l,rfl,by omega,q⟩⟩;simp[qnL];exact fA yj rfl
  refine⟨λhk=>⟨λQ y U W=>⟨by simp only[InR];omega,λ_=>fin,λhb=>⟨by simp only[InR];omega,by simp only[InR];omega,by omega,λr C=>⟨by simp only[InR];omega,λ_ z s t=>⟨s,t,λlb Y=>⟨by omega,by omega,λv1=>?_⟩⟩⟩⟩⟩,λ_=>fin⟩,λ_=>fin⟩;have Z:0<=at_+y:=by omega
  generalize at_+y=b' at*;have he:b'+1+r<=c.toks.length/\0<=r:=by omega
  generalize hee:b'+1+r=d at*;have a:qmi c.toks.length (l++ [⟨lb,b',d, -1⟩]):=by
   refine⟨λx hx=>?_,λj x hx=>?_⟩
   ·rcases qFG.1 hx with hx|hx
    ·exact q.1 x hx
    ·simp at hx;subst hx;simp only;omega
   ·by_cases e:j<l.length
    ·rw[qGc e]at hx;exact q.2 j x hx
    ·rw[qF4 (by omega)]at hx;have hx:=qFF hx;simp at hx;subst hx;simp only;omega
  refine aS (X:=Value×List AS) [0,1,4,6,8] [] (λx=>x.2.length<=l.length+2/\qmi c.toks.length x.2) (λ_=>[]) (λx=>[(1, .box b [enc c.attrs,enc c.toks,enc c.texts,enc c.regs, .own 61 x.1, .v (.slice none 0 0), .v (.slice none 0 0)]),(61, .row x.1 yj 4 (x.2.map enc))]) ?_ ?_
  ·simp[h1,Sj,nE,tz];refineλu hu0 hu1=>⟨λ_=>⟨by simp only[InR];omega,by omega,λE hy2=>⟨by simp only[InR];omega,λz2 h p=>⟨h,p,λw _=>⟨by simp only[InR];omega,by simp only[InR];omega,by omega,λy3 hy3=>⟨by simp only[InR];omega,by omega,by omega,λA=>⟨A,l++ [⟨lb,b',d, -1⟩] ++ [⟨w,b'+E,b'+E+1+y3,l.length⟩],⟨by simp,?_⟩, .inl rfl, .inl ⟨rfl,by simp⟩⟩⟩⟩⟩⟩⟩,λ_=>⟨v1,l++ [⟨lb,b',d, -1⟩],⟨by simp,a⟩, .inl rfl, .inl ⟨rfl,by simp⟩⟩⟩
   refine⟨λx hx=>?_,λj x hx=>?_⟩
   ·rcases qFG.1 hx with hx|hx
    ·exact a.1 x hx
    ·simp at hx;subst hx;simp only;omega
   ·by_cases e:j<(l++ [(⟨lb,b',d, -1⟩:AS)]).length
    ·rw[qGc e]at hx;exact a.2 j x hx
    ·rw[qF4 (by omega)]at hx;have hx:=qFF hx;simp at hx;subst hx;simp at e;simp only;omega
  ·rintro⟨A,l2⟩ ⟨r1,F⟩;simp only at r1 F;simp;exact⟨by simp only[InR];omega,d,k -1,A,l2,⟨by omega,by omega,by omega,by omega,F⟩,⟨⟨rfl,rfl⟩, .inl (.inl rfl), .inl (.inl rfl)⟩,by omega⟩
end
section
def qhl{b:Sg}{H:ab}(t id:Nat)(x:Value)(el n:Nat)(es:List D)(h1:b t= .own id x)(h2:H id=some (.row x el n es)):Wk b H (upd b t (.sub id x n 0 es.length)) H:=by
 intro E a w ⟨h,j,tp,c,d⟩;refine⟨h,j,tp,c,λs=>?_⟩;unfold upd;split
 ·rename_i e;subst e;have h3:=d s;rw[h1]at h3;have k:a.tmps.getD s undef=x:=by
   generalize a.tmps.getD s undef=y at h3;cases h3;rfl
  obtain⟨xs,⟨_,h4⟩,_⟩:=c.sat.ok id _ h2;rw[k];rcases h4 with⟨rfl,h5⟩|⟨g,cap,cur,rfl,_,_,h6,l,_⟩
  ·rw[h5];exact .subnil id n
  ·exact .sub id g es.length cap n 0 es.length _ (qFY _) (qFH _) h6 l (λ_=>by simp)
 ·exact d s
open Cod (enc dec) in
def qvk{X:Type}[Cod X]{H:ab}{id n hi:Nat}{v:Value}{l:List X}(el:Nat)(h:H id=some (.row v el n (l.map enc)))(hh:hi=l.length)(hn:n=Cod.wd X:=by rfl):FrzTo H (.sub id v n 0 hi) (.list n (l.map enc)):=by
 subst hh;have e:((l.map (enc (X:=X))).take l.length).drop 0=l.map enc:=by
  rw[List.drop_zero,qGy (by simp)]
 refine .sub h (by rw[e]) (λd hd=>?_) (λk c c' h1 h2=>?_)
 ·obtain⟨x,_,rfl⟩:=qFL.1 hd;exact⟨Cod.kn x,(Cod.wid x).trans hn.symm⟩
 ·rw[e,h2]at h1;cases h1;exact .same _
open Cod (enc dec)
variable {S S0:Nat->Spc}
def qpc(n:Nat)(hs:List Int)(rs:List B):Prop:=hs.length=n/\rs.length=n/\∀h∈hs,h<=n
def qeR(c c':Corpus):Prop:=∃hs rs,c'={ c with heads:=hs,rels:=rs } /\hs.length<=c.toks.length/\rs.length<=c.toks.length/\∀h∈hs,h<=c.toks.length
theorem qfe(h1:S bU=s_m_Next):WI vk uF S qnL qvf Fj qeR:=by
 intro L b c hc;have hc:c.toks.length<=4096:=hc;simp[vk,uF,h1,qnL];intro _;refine rX (X:=Int×List Int) [0,1,4] [1] [] [27] [] [] (λx=>0<=x.1/\x.1<=c.toks.length/\(x.2.length:Int)=x.1/\∀y∈x.2,0<=y/\y<c.toks.length) (λx=>[(5,enc x.2),(6,enc x.1)]) (λx=>[]) (λx=>c.toks.length -x.1.toNat) (0, []) [] (λ_=>rfl) (by decide) (by decide) ?_ ?_ ?_ ?_
 ·simp
 ·simp
 ·simp
 ·rintro⟨i,l⟩ ⟨Y,Z,q3,A⟩;simp only at Y Z q3 A;simp[h1];refine⟨λhi=>⟨by simp only[InR];omega,by omega,λy hy=>?_⟩,λhi=>?_⟩
  ·have e:List.take y.toNat (List.map enc l) ++D.v (.int .i64 i)::List.drop y.toNat (List.map enc l)=(l.take y.toNat++i::l.drop y.toNat).map enc:=by simp
   refine⟨by omega,by omega,by omega,by omega,by omega,by omega,by omega,by omega,by omega,by omega,λv=>⟨by simp only[InR];omega,i+1,l.take y.toNat++i::l.drop y.toNat,⟨by omega,by omega,?_,λz hz=>?_⟩,⟨?_,rfl⟩,by omega⟩⟩
   ·simp;omega
   ·rcases qFG.1 hz with hz|hz
    ·exact A z (qF1 hz)
    ·rcases qFK.1 hz with hz|hz
     ·omega
     ·exact A z (qGw hz)
   ·rw[e];exact fA bj (by simp[Ma])
  ·have hil:l.length=c.toks.length:=by omega
   refine⟨by omega,by omega,λC=>⟨by omega,by omega,λE=>?_⟩⟩;refine aS (X:=Bool×List Int×List B) [1] [1] (λx=>qpc c.toks.length x.2.1 x.2.2) (λx=>[(8, .sub 40 C 1 0 c.toks.length),(9, .sub 42 E 1 0 c.toks.length),(10,enc x.1)]) (λx=>[(40, .row C bj 1 (x.2.1.map enc)),(42, .row E aw 1 (x.2.2.map enc))]) ?_ ?_
   ·simp[-eB'];intro _;refine Ka ((qhl 8 40 C bj 1 _ rfl rfl).trans (qhl 9 42 E aw 1 _ rfl rfl)) ?_;simp only[qt3];refine ah (X:=Bool×List Int×List B) [0,1,5,8,9,43] [1] l.length (λ_ x=>qpc c.toks.length x.2.1 x.2.2) (λx=>[(10,enc x.1)]) (λx=>[(40, .row C bj 1 (x.2.1.map enc)),(42, .row E aw 1 (x.2.2.map enc))]) (false,List.replicate c.toks.length 0,List.replicate c.toks.length ⟨#[]⟩) (by simp[qpc]) ?_ ?_
    ·rintro k ⟨N,hs,rs⟩ hk ⟨p,j,q⟩;simp only at p j q;obtain⟨x,O⟩:=aQ hk;obtain⟨_,Q⟩:=qFB.1 O;have hxr:=A x (aU O);simp[hk,O,Q,-eB'];refine⟨by omega,by omega,by omega,λa U=>?_⟩;have W:(List.map enc hs).set x.toNat (D.v (Value.int .i64 (-1)))=(hs.set x.toNat (-1)).map enc:=kN hs _ _;rw[W];have r:(hs.set x.toNat (-1)).length=c.toks.length:=by simp[p]
     have t:∀h∈hs.set x.toNat (-1),h<=c.toks.length:=λh hh=>by
      rcases qGL hh with hh|hh
      ·exact q h hh
      ·omega
     generalize hs.set x.toNat (-1)=d at r t ⊢;clear p q U W;refine aS (X:=List Int×List B) [0,1,5,8,9,10,12,43,44,45] [1] (λx=>qpc c.toks.length x.1 x.2) (λ_=>[]) (λx=>[(40, .row C bj 1 (x.1.map enc)),(42, .row E aw 1 (x.2.map enc))]) ?_ ?_
     ·simp[h1,X6,nE,tz,-eB'];have hlx:∀(y:Int),d.length=c.toks.length->∃z,d[x.toNat]? =some z:=λ_ _=>aQ (by omega)
      refine⟨λhk0 y _ _=>⟨λ_=>⟨by omega,λy2 hy2=>⟨by omega,by omega,λa U y3 F I=>⟨F,I,λs _=>⟨by omega,by omega,by omega,λz _=>⟨by omega,by omega,by omega,λz2 _=>⟨d.set x.toNat a,rs.set x.toNat s,⟨by simp[r],by simp[j],λh hh=>?_⟩, .inl (kN d _ _), .inl (kN rs _ _)⟩⟩⟩⟩⟩⟩,λ_=>⟨d,rs,⟨r,j,t⟩, .inl rfl, .inl rfl⟩⟩,λ_=>⟨d,rs,⟨r,j,t⟩, .inl rfl, .inl rfl⟩⟩;rcases qGL hh with hh|hh
      ·exact t h hh
      ·have:=A a (aU U);omega
     ·rintro⟨u,w⟩ ⟨J,K,M⟩;simp only at J K M;simp[-eB'];refine⟨λ_=>⟨by omega,by omega,by omega,λa _=>⟨λ_=>⟨by omega,by omega,by omega,λa2 _=>⟨!decide (a2=⟨#[]⟩),u,w,⟨J,K,M⟩,by simp, .inl rfl, .inl rfl⟩⟩,λ_=>⟨true,u,w,⟨J,K,M⟩,by simp, .inl rfl, .inl rfl⟩⟩⟩,λ_=>⟨true,u,w,⟨J,K,M⟩,by simp, .inl rfl, .inl rfl⟩⟩
    ·rintro⟨N,hs,rs⟩ ⟨p,j,q⟩;simp only at p j q;simp[-eB'];exact⟨N,hs,rs,⟨p,j,q⟩,rfl, .inl rfl, .inl rfl⟩
   ·rintro⟨N,hs,rs⟩ ⟨p,j,q⟩;simp only at p j q;simp;refine⟨λ_=>⟨{ c with heads:=hs,rels:=rs },_,rfl,rfl,?_,⟨hs,rs,rfl,by omega,by omega,q⟩⟩,λ_=>⟨{ c with heads:=[],rels:=[] },_,rfl,rfl,?_,⟨[], [],rfl,by simp,by simp,by simp⟩⟩⟩
    ·simp[qvf];exact⟨qvk bj rfl p.symm,qvk aw rfl j.symm⟩
    ·simp[qvf]
abbrev s_m_word:Spc:=aG (a1 Int) (λn=>0<=n/\n< 6) (enc (X:=B)) λ_ y=>y∈qaG
def qhp:ak Li Kr S (a1 Int) (λn=>0<=n/\n< 6) (enc (X:=B)) λ_ y=>y∈qaG:=by
 rintro n hn;have hn:0<=n/\n< 6:=hn;simp[Li,Kr];refine⟨hn.1,hn.2,?_⟩;have:n=0\/n=1\/n=2\/n=3\/n=4\/n=5:=by omega
 rcases this with rfl|rfl|rfl|rfl|rfl|rfl<;>simp[qaG]
abbrev s_m_tag:Spc:=aG (a1 Int) (λn=>0<=n/\n< 2) (enc (X:=B)) λ_ y=>y∈qlV
def qmL:ak Qq OP S (a1 Int) (λn=>0<=n/\n< 2) (enc (X:=B)) λ_ y=>y∈qlV:=by
 rintro n hn;have hn:0<=n/\n< 2:=hn;simp[Qq,OP];refine⟨hn.1,hn.2,?_⟩;have:n=0\/n=1:=by omega
 rcases this with rfl|rfl<;>simp[qlV]
abbrev s_m_features:Spc:=aG (a1 Int) (λn=>0<=n/\n< 4) (enc (X:=B)) λ_ y=>y∈TR
def Uq:ak zS zg S (a1 Int) (λn=>0<=n/\n< 4) (enc (X:=B)) λ_ y=>y∈TR:=by
 rintro n hn;have hn:0<=n/\n< 4:=hn;simp[zS,zg];refine⟨hn.1,hn.2,?_⟩;have:n=0\/n=1\/n=2\/n=3:=by omega
 rcases this with rfl|rfl|rfl|rfl<;>simp[TR]
abbrev s_m_Type:Spc:=aG (a1 Int) ca (enc (X:=B)) tR
def qhq(h1:S yx=s_m_Mod):ak AK Au S (a1 Int) ca (enc (X:=B)) tR:=by
 rintro n -;simp[AK,Au,h1];have h3:=Py n 3 (by omega);refine⟨h3.1,h3.2,?_⟩;have:KU n 3=0\/KU n 3=1\/KU n 3=2:=by omega
 rcases this with h|h|h<;>simp[h]
abbrev s_m_Attributes:Spc:=aG a0 ca (enc (X:=List Attr)) (λ_ l=>qp7 l)
def NW:ak vn uH S a0 ca (enc (X:=List Attr)) (λ_ l=>qp7 l):=by
 rintro x -;simp[vn,uH];exact aL (Y:=List Attr) [⟨⟨#[119,111,114,100]⟩,false⟩,⟨⟨#[116,97,103]⟩,false⟩,⟨⟨#[102,101,97,116]⟩,true⟩] (by simp) rfl
abbrev s_m_nodes:Spc:=qzx qxF qnL Fj WM
abbrev s_m_heads:Spc:=qzx qnL qvf Fj qeR
def qkm{H:ab}{id el n:Nat}{v:Value}{d a:D}(h:H id=some (.row v el n [d]))(b:FrzTo H d a)(hk:a.kn=true/\a.cells.length=n):FrzTo H (.own id v) (.list n [a]):=by
 refine .row h rfl (λe he=>?_) (λk c c' h1 h2=>?_)
 ·simp at he;subst he;exact hk
 ·cases k with
  |zero=>simp at h1 h2;subst h1;subst h2;exact b
  |succ k=>simp at h1
def qj1(l:List Int):List D:=l.map enc
def qu9(a b c d e f g h:Int):D.list 1 [.v (.int .i64 a), .v (.int .i64 b), .v (.int .i64 c), .v (.int .i64 d), .v (.int .i64 e), .v (.int .i64 f), .v (.int .i64 g), .v (.int .i64 h)]= .list 1 (qj1 [a,b,c,d,e,f,g,h]):=i' rfl
def qj0(l:List Int):(qj1 l).length=l.length:=by simp[qj1]
def qn9(l:List Int)(i:Nat)(d:D):((qj1 l)[i]? =some d)=∃s,l[i]? =some s/\ .v (.int .i64 s)=d:=by
 simp[qj1]
def qhM{l:List (List B)}{r:List B}(h:∀x∈l,JI x)(a:JI r):∀x∈l++ [r],JI x:=λx hx=>by
 rcases qFG.1 hx with hx|hx
 ·exact h x hx
 ·rw[qGT]at hx;rw[hx];exact a
theorem Us(h1:S bU=s_m_Next)(h2:S xh=s_m_Attributes)(h3:S P2=s_m_word)(h4:S Wd=s_m_tag)(h5:S BX=s_m_features)
 (h6:S uf=s_m_Type) (h7:S qT=s_r06_SortRegions) (h8:S xe=s_m_nodes) (h9:S xf=s_m_heads):
 ak pi ow S (aT (a2 B Int)) (λx=>1<=x.2.2/\x.2.2<=1000) (enc (X:=Corpus)) (λx c=>qaH c/\WX c/\(c.toks.length:Int)<=x.2.2):=by
 rintro⟨L,name,a⟩ hm;have hm:1<=a/\a<=1000:=hm;simp[pi,ow,h1,h2];refineλb6=>⟨by omega,λy hy=>⟨by simp only[InR];omega,trivial,λat_ C v26 E=>?_⟩⟩
 have hal:at_.length=3:=by rw[show at_=ij from C];rfl
 obtain⟨n,F,hn⟩:∃n:Nat,1+y=(n:Int)/\1<=n/\n<=1000:=⟨(1+y).toNat,by omega,by omega⟩
 rw[F];refine gc (X:=xX) [0,6,7,8] [6] [26] [] (λt=>t.b=0/\t.e=n) (λ_=>[]) (λt=>[(8, .box E [enc at_, .v (.slice none 0 0),enc [t], .v (.slice none 0 0), .v (.slice none 0 0), .v (.slice none 0 0), .v (.slice none 0 0)])]) [8] (λ_=>rfl) (by decide) ?_ ?_
 ·simp[h1,X6,nE,tz];refineλz _ _=>⟨λ_ u I J=>⟨I,J,λs _=>⟨⟨name,0,n, [⟨⟨#[121,101,97,114]⟩,s⟩]⟩,⟨rfl,rfl⟩, .inl (qkm (el:=ET) (by simp[Ma]) (.same _) ⟨rfl,rfl⟩)⟩⟩,λ_=>⟨⟨name,0,n, []⟩,⟨rfl,rfl⟩, .inl (qkm (el:=ET) (by simp[Ma];rfl) ?_ ⟨rfl,rfl⟩)⟩⟩
  rw[eU,eU,eU,eU];exact⟨.same _, .same _, .same _, .nil _, .same _⟩
 ·rintro t ⟨K,ht2⟩;refine gc (X:=List (List B)) [0,6,7,8] [6] [66] [] (λl=>l.length=n/\∀r∈l,JI r) (λ_=>[]) (λl=>[(8, .box E [enc at_,enc l,enc [t], .v (.slice none 0 0), .v (.slice none 0 0), .v (.slice none 0 0), .v (.slice none 0 0)])]) [8] (λ_=>rfl) (by decide) ?_ ?_
  ·simp[h1];refine rX (X:=Int×Value×List (List B)) [0,6,7,8] [6] [] [] [] [] (λx=>0<=x.1/\x.1<=n/\(x.2.2.length:Int)=x.1/\∀r∈x.2.2,JI r) (λx=>[(9,enc x.1)]) (λx=>[(8, .box E [enc at_, .own 66 x.2.1,enc [t], .v (.slice none 0 0), .v (.slice none 0 0), .v (.slice none 0 0), .v (.slice none 0 0)]),(66, .row x.2.1 yk 1 (x.2.2.map enc))]) (λx=>n -x.1.toNat) (0, .slice none 0 0, []) [8,66] (λ_=>rfl) (by decide) (by decide) ?_ ?_ ?_ ?_
   ·simp
   ·simp
   ·simp[isNilRow];exact .nilown 66
   ·rintro⟨i,v,l⟩ ⟨M,N,A,O⟩;simp only at M N A O;simp[h1,h3,h4,h5,qu9,qj0,qn9];refine⟨λhi y d hy1=>?_,λhi=>⟨l,⟨by omega,O⟩, .inl (fA yk (by simp[Ma]))⟩⟩;have a1:y.tmod 8=y % 8:=Int.tmod_eq_emod_of_nonneg d;have a2:y.tdiv 8=y/8:=Int.tdiv_eq_ediv_of_nonneg d;have a3:(y/8).tmod 2=(y/8) % 2:=Int.tmod_eq_emod_of_nonneg (by omega);have a4:y.tdiv 12=y/12:=Int.tdiv_eq_ediv_of_nonneg d;rw[a1,a2,a3,a4];refine⟨by omega,by omega,λs hs=>⟨?_,λw1 Q=>⟨by simp only[InR];omega,by omega,λw2 U=>⟨by simp only[InR];omega,by omega,λw3 W=>⟨by omega,by omega,λY=>⟨by simp only[InR];omega,i+1,Y,l++ [[w1,w2,w3]],⟨by omega,by omega,by simp;omega,qhM O ⟨w1,w2,w3,Q,U,W,rfl⟩⟩,⟨rfl, .inl (.inl rfl), .inl (.inl (by simp))⟩,by omega⟩⟩⟩⟩⟩⟩;have:=qFF hs;simp at this;omega
  ·rintro toks ⟨htk,Z⟩;refine gc (X:=List Region) [0,6,7,8] [6,8] [165] [] (λl=>l.length<=8/\∀r∈l,0<=r.b/\r.b<=n/\0<=r.e/\r.e<=n) (λl=>[(11,enc l)]) (λ_=>[]) [] (λ_=>rfl) (by decide) ?_ ?_
   ·simp[h1];intro k hk0 hk1;refine rX (X:=Int×Value×List Region) [0,6,7,8] [6,8] [] [] [] [] (λx=>0<=x.1/\x.1+x.2.2.length<=4/\∀r∈x.2.2,0<=r.b/\r.b<=n/\0<=r.e/\r.e<=n) (λx=>[(11, .own 165 x.2.1),(12,enc x.1)]) (λx=>[(165, .row x.2.1 pv 4 (x.2.2.map enc))]) (λx=>x.1.toNat) (k, .slice none 0 0, []) [165] (λ_=>rfl) (by decide) (by decide) ?_ ?_ ?_ ?_
    ·simp;omega
    ·simp;exact .nilown 165
    ·simp[isNilRow]
    ·rintro⟨k,v,l⟩ ⟨M,N,A⟩;simp only at M N A;simp[h1,h6];refine⟨λhk=>⟨by omega,λu hu z _ _=>⟨trivial,λty=>⟨by simp only[InR];omega,by simp only[InR];omega,by omega,λw hw=>⟨by simp only[InR];omega,λb14=>?_⟩⟩⟩⟩,λhk=>⟨l,⟨by omega,A⟩,fA pv (by simp[Ma])⟩⟩;have hr:0<=u/\u<=n/\0<=u+1+w/\u+1+w<=n:=by omega
     generalize u+1+w=e' at*;refine gc (X:=List Pair) [0,6,7,8,11,12,14] [6,8,165] [] [] (λ_=>True) (λ_=>[]) (λkv=>[(14, .box b14 [.v (.string ty), .v (.int .i64 u), .v (.int .i64 e'),enc kv])]) [14] (λ_=>rfl) (by decide) ?_ ?_
     ·simp[h1,Sj,nE,tz];exactλ_ _ _ _ q hq0 hq1=>⟨hq0,hq1,λs _=>⟨[⟨⟨#[110]⟩,s⟩], .inl (.inl rfl)⟩⟩
     ·rintro kv -;simp only[qrJ,qn2];simp;refine aS (X:=Bool) [0,6,7,8,11,12,14] [6,8,14,165] (λ_=>True) (λx=>[(15,enc x)]) (λ_=>[]) ?_ ?_
      ·simp[-eB'];intro _;refine ah (X:=Bool) [0,6,7,8,11,12,14,101] [6,8,14,165] l.length (λ_ _=>True) (λx=>[(15,enc x)]) (λ_=>[]) false trivial ?_ ?_
       ·rintro j cr hj -;obtain⟨x,hx⟩:=aQ hj;obtain⟨_,hgx⟩:=qFB.1 hx;simp[hj,hx,hgx,-eB'];exactλ_ _ _ _=>⟨λ_ _ _=>⟨_,(Bool.not_not _).symm⟩,λ_ _=>⟨_,(Bool.not_not _).symm⟩⟩
       ·rintro cr -;simp[-eB']
      ·rintro cr -;simp[-eB'];refine⟨λ_=>⟨by omega,by omega,λY=>⟨by simp only[InR];omega,k -1,Y,l++ [⟨ty,u,e',kv⟩],⟨by omega,by simp;omega,λr hrr=>?_⟩,⟨⟨.same _,rfl⟩, .inl (.inl (by simp))⟩,by omega⟩⟩,λ_=>⟨by simp only[InR];omega,k -1,v,l,⟨by omega,by omega,A⟩,⟨⟨.same _,rfl⟩, .inl (.inl rfl)⟩,by omega⟩⟩;rcases qFG.1 hrr with hrr|hrr
       ·exact A r hrr
       ·simp at hrr;subst hrr;exact hr
   ·rintro rg ⟨hr1,hr2⟩;simp[h7,h8];refine⟨by simp only[qcZ];omega,λrs ⟨hs1,hs2⟩=>⟨⟨at_,toks, [t],rs, [], [], []⟩,by simp[qxF],by simp only[Fj];omega,λc hc=>?_⟩⟩;obtain⟨ns,rfl,hns,p⟩:=hc;simp only at p;simp[qnL];refine gc (X:=List Int×List B) [6,8] [6] [] [] (λx=>x.1.length<=n/\x.2.length<=n/\∀h∈x.1,h<=n) (λ_=>[]) (λx=>[(8, .box E [enc at_,enc toks,enc [t],enc rs,enc ns,enc x.1,enc x.2])]) [8] (λ_=>rfl) (by decide) ?_ ?_
    ·simp[h1,h9];refineλz _ _=>⟨λ_=>⟨⟨at_,toks, [t],rs,ns, [], []⟩,by simp[qnL],by simp only[Fj];omega,λc hc=>?_⟩,λ_=>⟨[], [],⟨by simp,by simp,by simp⟩, .inl ⟨rfl,rfl⟩⟩⟩
     obtain⟨hs,rl,rfl,g1,g2,g3⟩:=hc;simp only at g1 g2 g3;simp[qvf];exact⟨hs,rl,⟨by omega,by omega,λh hh=>by have:=g3 h hh;omega⟩, .inl (.inl ⟨rfl,rfl⟩)⟩
    ·rintro⟨hs,rl⟩ ⟨p1,p2,p3⟩;simp only at p1 p2 p3;simp;refine aL ⟨at_,toks, [t],rs,ns,hs,rl⟩ (.same _) ⟨?_,⟨C,Z⟩,by show(toks.length:Int)<=a;omega⟩;refine⟨⟨K,by omega,by show t.e=(toks.length:Int);omega⟩,by simp,by simp only;omega,by simp,by simp only;omega,by simp only;omega,by simp only;omega,by simp only;omega,by simp only;omega,λr hr=>?_,λm hm=>?_,p.2,λh hh=>?_⟩
     ·have:=hr2 r (hs2 r hr);simp only;omega
     ·have:=p.1 m hm;simp only;omega
     ·have:=p3 h hh;simp only;omega
end
section
open Go.Proofs
variable {dq:Prop}
def UP:Tri dq Tryz.prog yx s_m_Mod.pt:=
 ac (ag ae) qji (qmN)
def de:Tri dq Tryz.prog bU s_m_Next.pt:=qhK (S:=JN [(yx,s_m_Mod)]) (ag (aa UP ae)) rfl Pp (by decide)
def qna:Tri dq Tryz.prog We s_m_New.pt:=qm7 (qbx (ag ae) qjh (by decide) qmM)
def LI:Tri dq Tryz.prog lM s_r04_First.pt:=
 ac (ag ae) IN (Xt)
def qbF:Tri dq Tryz.prog xa s_r04_Next.pt:=
 ac (ag (aa LI ae)) LY (qa7 rfl)
def gp:Tri dq Tryz.prog cD s_r04_ValidName.pt:=
 ac (ag (aa LI (aa qbF ae))) AA (Ml rfl rfl)
def X3:Tri dq Tryz.prog Ek s_r01_Units.pt:=
 ac (ag ae) Vy (Xv)
def X2:Tri dq Tryz.prog Ej s_r01_Valid.pt:=
 ac (ag (aa X3 ae)) Vx (Xu rfl)
def rY:Tri dq Tryz.prog iE s_r04_ValidValue.pt:=
 ac (ag (aa X2 ae)) IM (JX rfl)
def X1:Tri dq Tryz.prog Ei s_r05_Parse.pt:=
 ac (ag (aa rY ae)) Vw (Xr rfl)
def qbD:Tri dq Tryz.prog Hg s_r06_sign.pt:=
 ac (ag ae) Y4 (qa5)
def Rv:Tri dq Tryz.prog zy s_r06_compare.pt:=
 ac (ag ae) Pf (Q6)
def tS:Tri dq Tryz.prog gJ s_r06_CompareRegions.pt:=
 ac (ag (aa qbD (aa Rv ae))) CY (Dc rfl rfl)
def Kk:Tri dq Tryz.prog sQ s_r06_Attributes.pt:=
 ac (ag (aa gp ae)) IL (JW rfl)
def XY:Tri dq Tryz.prog Ef s_r06_Value.pt:=
 ac (ag (aa X1 (aa rY ae))) Vt (Xo rfl rfl)
def LH:Tri dq Tryz.prog yv s_r06_pairs.pt:=
 ac (ag (aa gp (aa rY ae))) Vr (Xm rfl rfl)
def H9:Tri dq Tryz.prog vM s_r06_within.pt:=
 ac (ag ae) RC (Ue)
def qbE:Tri dq Tryz.prog Hh s_r06_bare.pt:=
 ac (ag ae) Y5 (qa6)
def UM:Tri dq Tryz.prog BS s_r06_TextAt.pt:=
 ac (ag ae) RG (Uh)
def Oi:Tri dq Tryz.prog wZ s_r06_FindText.pt:=
 ac (ag ae) MO (NO)
def Dq:Tri dq Tryz.prog lL s_r06_sameAttributes.pt:=
 ac (ag ae) CX (Db)
def UL:Tri dq Tryz.prog BR s_r06_cyclic.pt:=
 ac (ag ae) RE (Ug)
def UK:Tri dq Tryz.prog BQ s_r06_tokens.pt:=
 ac (ag (aa XY ae)) RD (Uf rfl)
def XW:Tri dq Tryz.prog Ed s_r06_texts.pt:=
 ac (ag (aa gp (aa LH ae))) Vq (Xl rfl rfl)
def Ru:Tri dq Tryz.prog zx s_r06_regions.pt:=
 ac (ag (aa gp (aa LH (aa H9 (aa tS ae))))) Pe (Q5 rfl rfl rfl rfl)
def X0:Tri dq Tryz.prog Eh s_r06_Nodes.pt:=
 ac (ag (aa gp (aa H9 ae))) Vv (Xq rfl rfl)
def XX:Tri dq Tryz.prog Ee s_r06_heads.pt:=
 ac (ag (aa gp (aa qbE (aa UM (aa UL ae))))) Vs (Xn rfl rfl rfl rfl)
def Oh:Tri dq Tryz.prog wY s_r06_Validate.pt:=
 ac (ag (aa Kk (aa UK (aa XW (aa Ru (aa X0 (aa XX ae))))))) MN (NN rfl rfl rfl rfl rfl rfl)
def XZ:Tri dq Tryz.prog Eg s_r06_Valid.pt:=
 ac (ag (aa Oh ae)) Vu (Xp rfl)
def Ia:Tri dq Tryz.prog qT s_r06_SortRegions.pt:=
 ac (ag (aa tS ae)) GD (HB rfl)
def Og:Tri dq Tryz.prog wX s_r06_allHeads.pt:=
 ac (ag ae) MM (NM)
def UN:Tri dq Tryz.prog BT s_r06_Concat.pt:=
 ac (ag (aa XZ (aa Dq (aa Oi (aa Og ae))))) RH (Ui rfl rfl rfl rfl)
def qhS:Tri dq Tryz.prog P2 s_m_word.pt:=
 ac (ag ae) qfZ (qhp)
def qm9:Tri dq Tryz.prog Wd s_m_tag.pt:=
 ac (ag ae) qjg (qmL)
def UO:Tri dq Tryz.prog BX s_m_features.pt:=
 ac (ag ae) RQ (Uq)
def qhT:Tri dq Tryz.prog uf s_m_Type.pt:=
 ac (ag (aa UP ae)) SP (qhq rfl)
def Ol:Tri dq Tryz.prog xh s_m_Attributes.pt:=
 ac (ag ae) MY (NW)
def Oj:Tri dq Tryz.prog xe s_m_nodes.pt:=
 LF (ag (aa de ae)) MU (by decide) (qfd rfl)
def Ok:Tri dq Tryz.prog xf s_m_heads.pt:=
 LF (ag (aa de ae)) MW (by decide) (qfe rfl)
def Ib:Tri dq Tryz.prog qY s_m_Document.pt:=
 ac (ag (aa de (aa Ol (aa qhS (aa qm9 (aa UO (aa qhT (aa Ia (aa Oj (aa Ok ae)))))))))) GM (Us rfl rfl rfl rfl rfl rfl rfl rfl rfl)
def MH:Tri dq Tryz.prog uQ s_m_Corpus.pt:=
 ac (ag (aa de (aa Ib (aa UN ae)))) KM (qbb rfl rfl rfl)
end
section
open Cod (enc dec)
structure Cond where
 op:Int
 name:B
 arg:B
 val:B
 lab:B
 fold:Bool
 kids:List Cond
mutual
def Qa:Cond->D
 | .mk op n a v l f ks=> .agg [enc op,enc n,enc a,enc v,enc l,enc f, .list 7 (CF ks)]
def CF:List Cond->List D
 | []=>[]
 |k::ks=>Qa k::CF ks
end
mutual
def RV:D->Option Cond
 | .agg [b,c,d,h,j,k,p]=>(dec b).bind λop=>(dec c).bind λn=>(dec d).bind λa=>(dec h).bind λv=>(dec j).bind λl=>(dec k).bind λf=>(qad p).bind λks=>some (.mk op n a v l f ks)
 | _=>none
def qad:D->Option (List Cond)
 | .list n es=>if n=7 then Eu es else none
 | .v (.slice none 0 0)=>some []
 | _=>none
def Eu:List D->Option (List Cond)
 | []=>some []
 |d::ds=>(RV d).bind λx=>(Eu ds).bind λxs=>some (x::xs)
end
def La:∀l:List Cond,CF l=l.map Qa
 | []=>rfl
 | _::l=>by rw[CF,La l];rfl
def qep:∀c:Cond,(Qa c).kn=true
 | .mk .. =>rfl
def ZZ:∀c:Cond,(Qa c).cells.length=7
 | .mk .. =>rfl
mutual
def qai:∀c:Cond,RV (Qa c)=some c
 | .mk op n a v l f ks=>by
   have h:qad (.list 7 (CF ks))=some ks:=by rw[qad,if_pos rfl];exact TD ks
   simp only[Qa,RV,Cod.dec_enc,qFW,h]
def TD:∀l:List Cond,Eu (CF l)=some l
 | []=>by simp only[CF,Eu]
 |c::l=>by simp only[CF,Eu,qai c,TD l,qFW]
end
mutual
def qex:∀(d:D) (c:Cond),RV d=some c->FrzTo bS d (Qa c)
 | .agg [j,k,p,q,r,s,b],c,h=>by
   simp only[RV,qFA,qFQ]at h;obtain⟨op,h0,n,h1,a,h2,v,h3,l,h4,f,h5,ks,h6,rfl⟩:=h;rw[Qa];exact LeL.agg (.cons (Cod.le _ _ h0) (.cons (Cod.le _ _ h1) (.cons (Cod.le _ _ h2) (.cons (Cod.le _ _ h3) (.cons (Cod.le _ _ h4) (.cons (Cod.le _ _ h5) (.cons (qev b ks h6) .nil)))))))
def qev:∀(d:D) (l:List Cond),qad d=some l->FrzTo bS d (.list 7 (CF l))
 | .list n es,l,h=>by
   simp only[qad]at h;split at h
   ·rename_i hn;subst hn;have hl:=qah es l h;refine .list hl.1 (λe he=>?_) hl.2;rw[La]at he;obtain⟨x,a,rfl⟩:=qFL.1 he;exact⟨qep x,ZZ x⟩
   ·cases h
 | .v (.slice none 0 0),l,h=>by
   simp only[qad,qFQ]at h;subst h;exact .nil _
def qah:∀(es:List D) (l:List Cond),Eu es=some l->LeL es (CF l)
 | [],l,h=>by
   simp only[Eu,qFQ]at h;subst h;exact .nil
 | d::ds,l,h=>by
   simp only[Eu,qFA,qFQ]at h;obtain⟨x,h1,xs,h2,rfl⟩:=h;rw[CF];exact .cons (qex d x h1) (qah ds xs h2)
end
instance:Cod Cond where
 wd:=7
 enc:=Qa
 dec:=RV
 kn:=qep
 wid:=ZZ
 dec_enc:=qai
 le:=qex
def Tw(ks:List Cond):D.list 7 (CF ks)=enc ks:=by rw[La];rfl
def P6(op:Int)(n a v l:B)(f:Bool)(ks:List Cond):enc (Cond.mk op n a v l f ks)= .agg [enc op,enc n,enc a,enc v,enc l,enc f,enc ks]:=by
 rw[<-Tw];show Qa _=_;rw[Qa]
structure Pat where
 op:Int
 cond:Cond
 lab:B
 reg:B
 mn:Int
 mx:Int
 kids:List Pat
def Ew:Cond->List D
 | .mk op n a v l f ks=>[enc op,enc n,enc a,enc v,enc l,enc f,enc ks]
def Qp:∀c:Cond,(Ew c).length=7
 | .mk .. =>rfl
mutual
def M8:Pat->D
 | .mk op c l r mn mx ks=> .agg (enc op::(Ew c++ [enc l,enc r,enc mn,enc mx, .list 13 (CD ks)]))
def CD:List Pat->List D
 | []=>[]
 |k::ks=>M8 k::CD ks
end
mutual
def qac:D->Option Pat
 | .agg [a,b,d,h,j,k,p,q,s,t,u,w,x]=>(dec a).bind λop=>(dec (D.agg [b,d,h,j,k,p,q])).bind λc=>(dec s).bind λl=>(dec t).bind λr=>(dec u).bind λmn=>(dec w).bind λmx=>(Md x).bind λks=>some (.mk op c l r mn mx ks)
 | _=>none
def Md:D->Option (List Pat)
 | .list n es=>if n=13 then Es es else none
 | .v (.slice none 0 0)=>some []
 | _=>none
def Es:List D->Option (List Pat)
 | []=>some []
 |d::ds=>(qac d).bind λx=>(Es ds).bind λxs=>some (x::xs)
end
def K8:∀l:List Pat,CD l=l.map M8
 | []=>rfl
 | _::l=>by rw[CD,K8 l];rfl
def qen:∀c:Pat,(M8 c).kn=true
 | .mk .. =>rfl
def ZX:∀c:Pat,(M8 c).cells.length=13
 | .mk op c l r mn mx ks=>by simp[M8,D.cells,Qp]
mutual
def qab:∀c:Pat,qac (M8 c)=some c
 | .mk op (.mk b n a v cl f d) l r mn mx ks=>by
   have h:Md (.list 13 (CD ks))=some ks:=by rw[Md,if_pos rfl];exact TB ks
   have hc:dec (D.agg [enc b,enc n,enc a,enc v,enc cl,enc f,enc d])=some (Cond.mk b n a v cl f d):=by rw[<-P6];exact Cod.dec_enc _
   simp only[M8,Ew,qGk,qGz,qac,Cod.dec_enc,qFW,h,hc]
def TB:∀l:List Pat,Es (CD l)=some l
 | []=>by simp only[CD,Es]
 |c::l=>by simp only[CD,Es,qab c,TB l,qFW]
end
def qgT{d j k p q r b:D}{c:Cond}(h:dec (D.agg [d,j,k,p,q,r,b])=some c):LeL [d,j,k,p,q,r,b] (Ew c):=by
 have s:RV (D.agg [d,j,k,p,q,r,b])=some c:=h;simp only[RV,qFA,qFQ]at s;obtain⟨op,h0,n,h1,a,h2,v,h3,l,h4,f,h5,ks,h6,rfl⟩:=s;have hk:=qev b ks h6;rw[Tw]at hk;exact .cons (Cod.le _ _ h0) (.cons (Cod.le _ _ h1) (.cons (Cod.le _ _ h2) (.cons (Cod.le _ _ h3) (.cons (Cod.le _ _ h4) (.cons (Cod.le _ _ h5) (.cons hk .nil))))))
def LeL.append{a b c d:List D}(h:LeL a b)(k:LeL c d):LeL (a++c) (b++d):=by
 refine⟨by simp[h.1,k.1],λi x y j l=>?_⟩;rw[List.getElem?_append]at j l;by_cases hi:i<a.length
 ·rw[if_pos hi]at j;rw[if_pos (by rw[<-h.1];exact hi)]at l;exact h.2 i x y j l
 ·rw[if_neg hi]at j;rw[if_neg (by rw[<-h.1];exact hi),<-h.1]at l;exact k.2 _ x y j l
mutual
def qeu:∀(d:D) (c:Pat),qac d=some c->FrzTo bS d (M8 c)
 | .agg [b,j,k,p,q,s,t,u,w,x,y,A,a],c,h=>by
   simp only[qac,qFA,qFQ]at h;obtain⟨op,h0,c,h1,l,h2,r,h3,mn,h4,mx,h5,ks,h6,rfl⟩:=h;rw[M8];exact LeL.agg (.cons (Cod.le _ _ h0) ((qgT h1).append (.cons (Cod.le _ _ h2) (.cons (Cod.le _ _ h3) (.cons (Cod.le _ _ h4) (.cons (Cod.le _ _ h5) (.cons (qk0 a ks h6) .nil)))))))
def qk0:∀(d:D) (l:List Pat),Md d=some l->FrzTo bS d (.list 13 (CD l))
 | .list n es,l,h=>by
   simp only[Md]at h;split at h
   ·rename_i hn;subst hn;have hl:=qaa es l h;refine .list hl.1 (λe he=>?_) hl.2;rw[K8]at he;obtain⟨x,a,rfl⟩:=qFL.1 he;exact⟨qen x,ZX x⟩
   ·cases h
 | .v (.slice none 0 0),l,h=>by
   simp only[Md,qFQ]at h;subst h;exact .nil _
def qaa:∀(es:List D) (l:List Pat),Es es=some l->LeL es (CD l)
 | [],l,h=>by
   simp only[Es,qFQ]at h;subst h;exact .nil
 | d::ds,l,h=>by
   simp only[Es,qFA,qFQ]at h;obtain⟨x,h1,xs,h2,rfl⟩:=h;rw[CD];exact .cons (qeu d x h1) (qaa ds xs h2)
end
instance:Cod Pat where
 wd:=13
 enc:=M8
 dec:=qac
 kn:=qen
 wid:=ZX
 dec_enc:=qab
 le:=qeu
def qgP(ks:List Pat):D.list 13 (CD ks)=enc ks:=by rw[K8];rfl
def Wi(op:Int)(c:Cond)(l r:B)(mn mx:Int)(ks:List Pat):enc (Pat.mk op c l r mn mx ks)= .agg (enc op::(Ew c++ [enc l,enc r,enc mn,enc mx,enc ks])):=by
 rw[<-qgP];show M8 _=_;rw[M8]
def Qi:∀es:List D,Eu es=es.mapM (dec (X:=Cond))
 | []=>by simp[Eu]
 | d::es=>by
   rw[Eu,qGq,Qi es];rfl
def qoF:∀d:D,qad d=dec (X:=List Cond) d:=λd=>by
 unfold qad;split
 ·rename_i n es;show _=if n=7 then es.mapM (dec (X:=Cond))else none
  rw[Qi]
 ·rfl
 ·rename_i h1 h2;show _=(match d with
   | .list n es=>if n=7 then es.mapM (dec (X:=Cond))else none
   | .v (.slice none 0 0)=>some []
   | _=>none)
  split
  ·exact absurd rfl (h1 _ _)
  ·exact absurd rfl h2
  ·rfl
def Qg:∀es:List D,Es es=es.mapM (dec (X:=Pat))
 | []=>by simp[Es]
 | d::es=>by
   rw[Es,qGq,Qg es];rfl
def qk1:∀d:D,Md d=dec (X:=List Pat) d:=λd=>by
 unfold Md;split
 ·rename_i n es;show _=if n=13 then es.mapM (dec (X:=Pat))else none
  rw[Qg]
 ·rfl
 ·rename_i h1 h2;show _=(match d with
   | .list n es=>if n=13 then es.mapM (dec (X:=Pat))else none
   | .v (.slice none 0 0)=>some []
   | _=>none)
  split
  ·exact absurd rfl (h1 _ _)
  ·exact absurd rfl h2
  ·rfl
@[simp] theorem Jp(s:Cond):Cond.mk s.op s.name s.arg s.val s.lab s.fold s.kids=s:=by cases s;rfl
@[simp] theorem qkJ(s:Cond):enc s= .agg [enc s.op,enc s.name,enc s.arg,enc s.val,enc s.lab,enc s.fold,enc s.kids]:=by cases s;exact P6 ..
@[simp] theorem qwQ:Cod.wd Cond=7:=i' rfl
@[simp] theorem qkX(a b c d h j k:D):dec (X:=Cond) (.agg [a,b,c,d,h,j,k])=((dec a).bind λa=>(dec b).bind λb=>(dec c).bind λc=>(dec d).bind λd=>(dec h).bind λh=>(dec j).bind λj=>(dec k).bind λk=>some ⟨a,b,c,d,h,j,k⟩):=by
 show RV _=_;simp only[RV,qoF]
@[simp] theorem qot(s:Pat):Pat.mk s.op s.cond s.lab s.reg s.mn s.mx s.kids=s:=by cases s;rfl
@[simp] theorem Wl(s:Pat):enc s= .agg [enc s.op,enc s.cond.op,enc s.cond.name,enc s.cond.arg,enc s.cond.val,enc s.cond.lab,enc s.cond.fold,enc s.cond.kids,enc s.lab,enc s.reg,enc s.mn,enc s.mx,enc s.kids]:=by
 obtain⟨op,⟨a,b,c,d,e,f,g⟩,l,r,mn,mx,ks⟩:=s;exact Wi ..
@[simp] theorem qAc:Cod.wd Pat=13:=i' rfl
@[simp] theorem qy5(a b c d h j k l p q r s t:D):dec (X:=Pat) (.agg [a,b,c,d,h,j,k,l,p,q,r,s,t])=
 ((dec a).bind λa=>(dec b).bind λb=>(dec c).bind λc=>(dec d).bind λd=>(dec h).bind λh=>(dec j).bind λj=>(dec k).bind λk=>(dec l).bind λl=>
   (dec p).bind λp=>(dec q).bind λq=>(dec r).bind λr=>(dec s).bind λs=>(dec t).bind λt=>some ⟨a,⟨b,c,d,h,j,k,l⟩,p,q,r,s,t⟩):=by
 show qac _=_;simp only[qac,qk1,qkX,Option.bind_assoc,qFW]
end
end Go.Gv
