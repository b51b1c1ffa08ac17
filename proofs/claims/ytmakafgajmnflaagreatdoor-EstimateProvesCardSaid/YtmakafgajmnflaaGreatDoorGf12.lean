/- W4 -/
import Derived.Test.YtmakafgajmnflaaGreatDoorGf11
set_option linter.all false
set_option maxRecDepth 100000
open Bool renaming forall_bool → fB', exists_bool → eB'
namespace Go.Gv
section
open Cod (enc dec)
variable {S S0:Nat->Spc}
def rP{X Y:Type}(_:X)(_:Y):Prop:=True
@[simp] theorem qAc{X Y:Type}(x:X)(y:Y):rP x y=True:=i' rfl
def bW{X:Type}(_:X):Prop:=True
abbrev s_r04_First:Spc:=aJ (a1 U8) bW (enc (X:=Bool)) rP
def Ul:aq pG nX S (a1 U8) bW (enc (X:=Bool)) rP:=by
 rintro c -;simp[pG,nX]
abbrev s_r04_Next:Spc:=aJ (a1 U8) bW (enc (X:=Bool)) rP
def Ye(h1:S kM=s_r04_First):aq sj rS S (a1 U8) bW (enc (X:=Bool)) rP:=by
 rintro c -;simp[sj,rS,h1,bW]
abbrev s_r04_ValidName:Spc:=aJ (a1 B) bW (enc (X:=Bool)) rP
def J3(h1:S kM=s_r04_First)(h2:S uV=s_r04_Next):aq hZ gN S (a1 B) bW (enc (X:=Bool)) rP:=by
 rintro s -;simp[hZ,gN,h1,h2,bW];intro _ h1 _ a;refine⟨by omega,λc _=>?_⟩;refine aA (X:=Nat) [0] [] (λk=>k<=s.size) (λk=>[(3,enc (k:Int))]) (λ_=>[]) (λk=>s.size -k) 1 (by omega) ?_;intro k hk;simp[h2,bW,InR]
 repeat' first|apply And.intro|intro _
 all_goals first|omega|exact⟨k+1,by omega,by omega,by omega⟩
abbrev s_r01_Units:Spc:=aJ (a1 B) (λs=>s.size<=100000) (enc (X:=List xx)) rP
theorem Un:aq Ae yY S (a1 B) (λs=>s.size<=100000) (enc (X:=List xx)) rP:=by
 rintro s hs;have hs:s.size<=100000:=hs;simp[Ae,yY];intro b;refine bc (X:=Value×List xx) [0] [] (λx=>x.2.length<=100000/\∀u∈x.2,0<=u.pos/\u.pos<=100000) (λx=>[(3, .own 36 x.1)]) (λx=>[(36, .row x.1 db 4 (x.2.map enc))]) ?_ ?_
 ·simp;refine aA (X:=Nat×Value×List xx) [0,8] [] (λx=>x.1<=s.size/\x.2.2.length<=x.1/\∀u∈x.2.2,0<=u.pos/\u.pos<=x.1) (λx=>[(3, .own 36 x.2.1)]) (λx=>[(8, .iter b s x.1),(36, .row x.2.1 db 4 (x.2.2.map enc))]) (λx=>s.size -x.1) (0, .slice none 0 0, []) (by simp) ?_ (hh:=by simp[isNilRow]);rintro⟨p,v,l⟩ ⟨h1,h2,h3⟩;simp at h1 h2 h3;simp;refine⟨λhp=>?_,λhp=>?_⟩
  ·have q:=qdI s p hp;refine bc (X:=Value×List xx) [0,4,5,8] [8] (λx=>x.2.length<=p/\∀u∈x.2,0<=u.pos/\u.pos<=p) (λx=>[(3, .own 36 x.1)]) (λx=>[(36, .row x.1 db 4 (x.2.map enc))]) ?_ ?_
   ·simp;refineλ_=>⟨λh4 _=>?_,λh4=>⟨v,l,⟨h2,h3⟩,rfl, .inl ⟨rfl,rfl⟩⟩⟩
    obtain⟨a,d⟩:=bh (l:=l) (k:=l.length -1) (by omega);have h5:=h3 a (aY d);simp only[InR];refine⟨by omega,λ_=>⟨by omega,by omega,by omega,by omega,λj c=>?_⟩⟩;rw[d]at c;cases c;refine⟨by omega,by omega,by omega,by omega,λj c=>?_⟩;rw[d]at c;cases c;refine⟨v,l.set (l.length -1) ⟨a.r,a.pos,p -a.pos,a.ok⟩,⟨by simpa using h2,λu hu=>?_⟩,rfl, .inl ⟨rfl,jL l _ ⟨a.r,a.pos,p -a.pos,a.ok⟩⟩⟩;rcases qDi hu with hu|rfl
    ·exact h3 u hu
    ·exact h5
   ·rintro⟨v,l⟩ ⟨h4,h5⟩;simp at h4 h5;simp;refine⟨by omega,by omega,λv=>⟨p+ (Utf8.decode s p).2,v,l++ [⟨⟨(Utf8.decode s p).1⟩,p,0,false⟩],⟨q.2,by simp;omega,λu hu=>?_⟩,⟨rfl, .inl rfl, .inl ⟨rfl,TH l ⟨⟨(Utf8.decode s p).1⟩,p,0,false⟩⟩⟩,by omega⟩⟩;rcases qCk.1 hu with hu|hu
    ·have:=h5 u hu;omega
    ·simp at hu;subst hu;simp;omega
  ·exact⟨v,l,⟨by omega,λu hu=>by have:=h3 u hu;omega⟩,by simp⟩
 ·rintro⟨v,l⟩ ⟨h1,h2⟩;simp at h1 h2;simp;refine bc (X:=List xx) [3] [] (λx=>x.length=l.length) (λx=>[]) (λx=>[(36, .row v db 4 (x.map enc))]) ?_ ?_
  ·simp;refineλ_=>⟨λh4 _=>?_,λh4=>⟨l,rfl, .inl rfl⟩⟩
   obtain⟨a,d⟩:=bh (l:=l) (k:=l.length -1) (by omega);have h5:=h2 a (aY d);simp only[InR];refine⟨by omega,λ_ _=>⟨by omega,by omega,by omega,by omega,λj c=>?_⟩⟩;rw[d]at c;cases c;refine⟨by omega,by omega,by omega,by omega,λj c=>?_⟩;rw[d]at c;cases c;exact⟨l.set (l.length -1) ⟨a.r,a.pos,s.size -a.pos,a.ok⟩,by simp, .inl (jL l _ ⟨a.r,a.pos,s.size -a.pos,a.ok⟩)⟩
  ·intro l h3;simp;intro _;refine ah (X:=List xx) [3] [] l.length (λk x=>x.length=l.length) (λx=>[]) (λx=>[(36, .row v db 4 (x.map enc))]) l (by simp) ?_ ?_
   ·intro k x hk h4;simp;obtain⟨a,d⟩:=bh (l:=x) (k:=k) (by omega);simp[d];have h:k<x.length:=by omega
    exact⟨h,λ_=>⟨h,x.set k ⟨a.r,a.pos,a.sz,decide (a.sz=3)⟩,by simpa using h4, .inl (jL x k ⟨a.r,a.pos,a.sz,decide (a.sz=3)⟩)⟩,λ_=>⟨h,x.set k ⟨a.r,a.pos,a.sz,true⟩,by simpa using h4, .inl (jL x k ⟨a.r,a.pos,a.sz,true⟩)⟩⟩
   ·intro x h4;simp;exact bF x (gp db (by simp)) trivial
abbrev s_r01_Valid:Spc:=aJ (a1 B) (λs=>s.size<=100000) (enc (X:=Bool)) rP
def Um(h1:S BW=s_r01_Units):aq Ad yX S (a1 B) (λs=>s.size<=100000) (enc (X:=Bool)) rP:=by
 rintro s hs;have hs:s.size<=100000:=hs;simp[Ad,yX,h1];refine⟨hs,λl _=>?_⟩;refine ah (X:=Unit) [6] [] l.length (λ_ _=>True) (λ_=>[]) (λ_=>[]) () trivial ?_ ?_
 ·intro k _ hk _;simp[hk]
 ·intro _ _;simp
def tR(s:B)(y:Int):Prop:=y=0->s.size<=120
abbrev s_r04_ValidValue:Spc:=aJ (a1 B) bW (enc (X:=Int)) tR
def HF(h1:S BV=s_r01_Valid):aq pF nW S (a1 B) bW (enc (X:=Int)) tR:=by
 rintro s -;simp[pF,nW,h1];refineλ_=>⟨λh a=>by omega,λhs=>⟨by omega,λa=>by omega,λhlen=>?_⟩⟩
 refine ah (X:=Unit) [12] [] (s.data.toList.length) (λ_ _=>True) (λ_=>[]) (λ_=>[]) () trivial ?_ ?_ (hlen:=by simpa using hlen)
 ·intro k _ hk _;simp at hk;simp[hk,tR]
 ·intro _ _;simp[tR];omega
abbrev s_r05_Parse:Spc:=aJ (a1 B) bW (qR (Y:=List B) (Z:=Int)) rP
theorem Uj(h1:S gU=s_r04_ValidValue):aq Ac yW S (a1 B) bW (qR (Y:=List B) (Z:=Int)) rP:=by
 rintro s -;simp[Ac,yW,h1,bW];intro e he b _ d;have hs:=he b;have a:0<s.size:=by
  rcases qED s.size with h|h
  ·exact absurd (ByteArray.size_eq_zero_iff.1 h) d
  ·exact h
 refine⟨a,λc _ _=>⟨by simp[InR];omega,by omega,by omega,λc' _ _=>?_⟩⟩;refine aA (X:=Nat×Nat×Value×List B) [0,5] [] (λx=>1<=x.1/\x.1<=s.size/\x.2.1<=x.1/\x.2.2.2.length<=x.1) (λx=>[(8,enc (x.1:Int)),(7,enc (x.2.1:Int)),(6, .own 49 x.2.2.1)]) (λx=>[(49, .row x.2.2.1 au 1 (x.2.2.2.map enc))]) (λx=>s.size -x.1) (1,1, .slice none 0 0, []) (by simp;omega) ?_ (hh:=by simp[isNilRow]);rintro⟨i,fr,v,l⟩ ⟨j,p,q,r⟩;simp at j p q r;simp;refine⟨λhi=>⟨hi,λc _=>⟨λ_=>⟨by simp[InR];omega,i+1,fr,v,l,⟨by omega,by omega,by omega,by omega⟩,⟨⟨rfl,rfl,rfl⟩, .inl ⟨rfl,rfl⟩⟩,by omega⟩,λ_ _=>⟨by omega,by omega,by omega,by omega,λv=>⟨by simp[InR];omega,i+1,i+1,v,l++ [s.extract fr i],⟨by omega,by omega,by omega,by simp;omega⟩,⟨⟨rfl,rfl,rfl⟩, .inl ⟨rfl,TH l _⟩⟩,by omega⟩⟩⟩⟩,λ_=>?_⟩;refine aA (X:=Nat) [6] [49] (λx=>1<=x/\x<=l.length+1) (λx=>[(9,enc (x:Int))]) (λx=>[]) (λx=>l.length+1 -x) 1 (by simp) ?_;intro k hk;simp;exactλ_=>⟨λ_=>⟨by simp[InR];omega,by omega,by omega,by omega,λ_ _=>⟨by omega,λ_ _ _=>⟨by simp[InR];omega,k+1,by omega,by omega,by omega⟩⟩⟩,λ_=>⟨l,gp au (by simp)⟩⟩
def Bb{X:Type}[Cod X](l:List X)(k:Nat):List.take k (List.map enc l)=List.map enc (List.take k l):=List.map_take.symm
def qhk{X:Type}[Cod X](l:List X)(k:Nat):List.drop k (List.map enc l)=List.map enc (List.drop k l):=List.map_drop.symm
abbrev s_r06_sign:Spc:=aJ (a1 Bool) bW (enc (X:=Int)) rP
def Yc:aq B9 Bh S (a1 Bool) bW (enc (X:=Int)) rP:=by
 rintro s -;simp[B9,Bh,-fB']
abbrev s_r06_compare:Spc:=aJ (a2 B B) bW (enc (X:=Int)) rP
def Oy:aq vt uv S (a2 B B) bW (enc (X:=Int)) rP:=by
 rintro⟨a,b⟩ -;simp[vt,uv]
abbrev s_r06_CompareRegions:Spc:=aJ (a2 Region Region) bW (enc (X:=Int)) rP
def A0(h1:S EJ=s_r06_sign)(h2:S wV=s_r06_compare):aq jC jq S (a2 Region Region) bW (enc (X:=Int)) rP:=by
 rintro⟨a,b⟩ -;simp[jC,jq,h1,h2,bW,-fB'];intro _ _ _;refine aA (X:=Nat) [2,3] [] (λk=>True) (λk=>[(5,enc (k:Int))]) (λ_=>[]) (λk=>a.kv.length -k) 0 trivial ?_;intro k _;simp[h1,h2,bW,-fB']
 repeat' first|apply And.intro|intro _
 all_goals first|omega|(simp only[InR];omega)|exact⟨k+1,by omega,by omega⟩
abbrev s_r06_Attributes:Spc:=aJ (a1 (List Attr)) bW (qR (Y:=Int) (Z:=Int)) rP
def HD(h1:S cq=s_r04_ValidName):aq pE nV S (a1 (List Attr)) bW (qR (Y:=Int) (Z:=Int)) rP:=by
 rintro l -;simp[pE,nV,h1,bW,-fB'];intro _ _ _ _ _;refine ah (X:=Unit) [0,14] [] (l.length) (λ_ _=>True) (λ_=>[]) (λ_=>[]) () trivial ?_ ?_
 ·intro k _ hk _;obtain⟨x,a⟩:=bh hk;simp[h1,bW,-fB',a,hk];refineλb=>⟨by omega,λ_=>?_⟩
  refine ah (X:=Unit) [0,4,5,14,15,16,28] [5] (min k l.length) (λ_ _=>True) (λ_=>[]) (λ_=>[]) () trivial ?_ ?_
  ·intro j _ d _;obtain⟨y,c⟩:∃y,(l.take k)[j]? =some y:=bh (by grind);simp[c,Bb, -List.map_take];omega
  simp
 simp
abbrev s_r06_Value:Spc:=aJ (a2 Attr B) bW (enc (X:=Int)) rP
def Ug(h1:S BU=s_r05_Parse)(h2:S gU=s_r04_ValidValue):aq zZ yT S (a2 Attr B) bW (enc (X:=Int)) rP:=by
 rintro⟨a,b⟩ -;simp_all [zZ,yT,bW]
abbrev s_r06_pairs:Spc:=aJ (a1 (List Pair)) bW (enc (X:=Int)) rP
def Ue(h1:S cq=s_r04_ValidName)(h2:S gU=s_r04_ValidValue):aq zX yR S (a1 (List Pair)) bW (enc (X:=Int)) rP:=by
 rintro l -;simp[zX,yR,h1,h2,bW,-fB'];intro _ _ _;refine ah (X:=Unit) [0,9] [] (l.length) (λ_ _=>True) (λ_=>[]) (λ_=>[]) () trivial ?_ ?_
 ·intro k _ hk _;obtain⟨x,a⟩:=bh hk;simp[h1,h2,bW,-fB',a,hk]
  ((repeat' first|apply And.intro|intro _)<;>first|omega|(simp only[InR];omega)|assumption|trivial)
 simp
abbrev s_r06_within:Spc:=aJ (a3 Corpus Int Int) bW (enc (X:=Bool)) rP
def Q9:aq xf wy S (a3 Corpus Int Int) bW (enc (X:=Bool)) rP:=by
 rintro⟨c,x,y⟩ -;simp[xf,wy,-fB'];intro _;refine ah (X:=Unit) [1,2,10] [] (c.texts.length) (λ_ _=>True) (λ_=>[]) (λ_=>[]) () trivial ?_ ?_;simp;simp
abbrev s_r06_bare:Spc:=aJ (a2 (List Int) (List B)) (λx=>x.1.length=x.2.length) (enc (X:=Bool)) rP
def Yd:aq Ca Bj S (a2 (List Int) (List B)) (λx=>x.1.length=x.2.length) (enc (X:=Bool)) rP:=by
 rintro⟨l,r⟩ hl;have hl:l.length=r.length:=hl;simp[Ca,Bj,-fB'];intro _;refine ah (X:=Unit) [0,1] [] (l.length) (λ_ _=>True) (λ_=>[]) (λ_=>[]) () trivial ?_ ?_
 ·intro k _ hk _;obtain⟨t,b⟩:=bh hk;obtain⟨u,c⟩:=bh (l:=r) (k:=k) (by omega);have a:k<r.length:=by omega
  simp[b,c,hk,a,-fB']
 simp
abbrev s_r06_TextAt:Spc:=aJ (a2 Corpus Int) bW (enc (X:=Int)) rP
def Rc:aq xi wB S (a2 Corpus Int) bW (enc (X:=Int)) rP:=by
 rintro⟨c,x⟩ -;simp[xi,wB,-fB'];intro _;refine ah (X:=Unit) [1,8] [] (c.texts.length) (λ_ _=>True) (λ_=>[]) (λ_=>[]) () trivial ?_ ?_;simp;simp
abbrev s_r06_FindText:Spc:=aJ (a2 Corpus B) bW (enc (X:=Int)) rP
def LC:aq sX sy S (a2 Corpus B) bW (enc (X:=Int)) rP:=by
 rintro⟨c,x⟩ -;simp[sX,sy,-fB'];intro _;refine ah (X:=Unit) [1,8] [] (c.texts.length) (λ_ _=>True) (λ_=>[]) (λ_=>[]) () trivial ?_ ?_;simp;simp
abbrev s_r06_sameAttributes:Spc:=aJ (a2 (List Attr) (List Attr)) bW (enc (X:=Bool)) rP
def AZ:aq jB jp S (a2 (List Attr) (List Attr)) bW (enc (X:=Bool)) rP:=by
 rintro⟨l,r⟩ -;simp[jB,jp,-fB'];intro _ _ he _;refine ah (X:=Unit) [0,1] [] (l.length) (λ_ _=>True) (λ_=>[]) (λ_=>[]) () trivial ?_ ?_;simp_all;omega;simp
abbrev s_r06_cyclic:Spc:=aJ (a2 (List Int) Int) (λx=>0<=x.2/\x.2<x.1.length) (enc (X:=Bool)) rP
def Rb:aq xh wA S (a2 (List Int) Int) (λx=>0<=x.2/\x.2<x.1.length) (enc (X:=Bool)) rP:=by
 rintro⟨l,i⟩ hl;have hl:0<=i/\i<l.length:=hl;simp[xh,wA,-fB'];intro _;refine ah (X:=Int) [0,1] [] l.length (λ_ a=>0<=a/\a<l.length) (λa=>[(5,enc a)]) (λ_=>[]) i hl ?_ ?_
 ·intro k a hk b;simp[-fB'];grind
 simp
abbrev s_r06_tokens:Spc:=aJ (a1 Corpus) bW (qR (Y:=Int) (Z:=Int)) rP
def Ra(h1:S BR=s_r06_Value):aq xg wz S (a1 Corpus) bW (qR (Y:=Int) (Z:=Int)) rP:=by
 rintro c -;simp[xg,wz,h1,bW,-fB'];intro _ _ _;refine ah (X:=Unit) [1,14] [] (c.toks.length) (λ_ _=>True) (λ_=>[]) (λ_=>[]) () trivial ?_ ?_
 ·intro k _ hk _;obtain⟨t,b⟩:=bh hk;simp[b,hk,-fB'];intro d h l p;refine ah (X:=Unit) [1,4,14,15,16,28] [] (c.toks[k].length) (λ_ _=>True) (λ_=>[]) (λ_=>[]) () trivial ?_ ?_
  ·intro j _ q _;have a:j<c.attrs.length:=by omega
   simp[q,a,h1,bW,-fB']
  simp
 simp
abbrev s_r06_texts:Spc:=aJ (a1 Corpus) bW (qR (Y:=Int) (Z:=Int)) rP
theorem Ud(h1:S cq=s_r04_ValidName)(h2:S wg=s_r06_pairs):aq zW yQ S (a1 Corpus) bW (qR (Y:=Int) (Z:=Int)) rP:=by
 rintro c -;simp[zW,yQ,h1,h2,bW,-fB'];intro _ _ _ _ _ _;refine ah (X:=Int) [1,4,26] [] c.texts.length (λ_ _=>True) (λa=>[(5,enc a)]) (λ_=>[]) 0 trivial ?_ ?_
 ·intro k a hk _;obtain⟨t,h⟩:=bh hk;simp[h,hk,h1,bW,-fB'];refineλb=>⟨by omega,λ_=>?_⟩
  refine ah (X:=Unit) [1,4,5,6,7,26,27,28,41] [7] (min k c.texts.length) (λ_ _=>True) (λ_=>[]) (λ_=>[]) () trivial ?_ ?_
  ·intro j _ d _;obtain⟨y,l⟩:∃y,(c.texts.take k)[j]? =some y:=bh (by simpa using d);simp[l,Bb, -List.map_take];simpa using d
  ·intro _ _;simp[h2,bW,-fB']
   ((repeat' first|apply And.intro|intro _)<;>first|omega|(simp only[InR];omega)|assumption|trivial)
 simp
abbrev s_r06_regions:Spc:=aJ (a1 Corpus) bW (qR (Y:=Int) (Z:=Int)) rP
theorem Ox(h1:S cq=s_r04_ValidName)(h2:S wg=s_r06_pairs)(h3:S tO=s_r06_within)(h4:S gc=s_r06_CompareRegions):aq vr uu S (a1 Corpus) bW (qR (Y:=Int) (Z:=Int)) rP:=by
 rintro c -;simp[vr,uu,h1,h2,h3,h4,bW,-fB'];intro _ _ _;refine ah (X:=Unit) [1,15] [] (c.regs.length) (λ_ _=>True) (λ_=>[]) (λ_=>[]) () trivial ?_ ?_ (hlen:=by first|omega|(simp;omega))
 ·intro k _ hk _;obtain⟨t,h⟩:=bh hk;simp[h,hk,h1,h2,h3,h4,bW,-fB'];refineλb=>⟨λh0=>⟨by simp only[InR];omega,by omega,by omega,λa _ y _=>⟨by simp only[InR];omega,by omega,by omega,λ_=>?_⟩⟩,λh0=>⟨by simp only[InR];omega,by omega,by omega,λ_=>?_⟩⟩
  all_goals
   refine ah (X:=Nat) [1,4,5,15,16,17,62] [5] (min (k+1) c.regs.length) (λj d=>d<=j) (λd=>[(7,enc (d:Int))]) (λ_=>[]) 0 (by omega) ?_ ?_
   ·intro j d l p;obtain⟨y,q⟩:∃y,(c.regs.take (k+1))[j]? =some y:=bh (by simpa using l);simp[q,Bb, -List.map_take,-fB']
    repeat' first|apply And.intro|intro _
    all_goals first|omega|(simp only[InR];omega)|exact⟨d,by omega,by omega⟩|exact⟨d+1,by omega,by omega⟩|(simp;omega)|skip
   ·intro d p;simp
 ·intro _ _;simp
def qb1(x:List yz×Corpus):Prop:=∀(j:Nat) (y:yz),x.1[j]? =some y->y.par<j
abbrev s_r06_Nodes:Spc:=aJ (a2 (List yz) Corpus) qb1 (qR (Y:=Int) (Z:=Int)) rP
theorem Ui(h1:S cq=s_r04_ValidName)(h3:S tO=s_r06_within):aq Ab yV S (a2 (List yz) Corpus) qb1 (qR (Y:=Int) (Z:=Int)) rP:=by
 rintro⟨l,c⟩ hp;have hp:∀(j:Nat) (y:yz),l[j]? =some y->y.par<j:=hp;simp[Ab,yV,h1,h3,bW,-fB'];intro _ _ _;refine⟨by omega,by omega,λx _=>?_⟩;refine ah (X:=List Int) [0,3,18] [] l.length (λ_ d=>d.length=l.length/\∀a∈d,0<=a/\a<=40) (λ_=>[(6, .own 17 x)]) (λd=>[(17, .row x bE 1 (d.map enc))]) (List.replicate l.length 0) (by simp) ?_ ?_
 ·rintro k d hk ⟨p,h⟩;obtain⟨t,s⟩:=bh hk;have w:=hp k t s;have q:=qCd.1 s;obtain⟨_,q⟩:=q;simp[s,q,hk,h1,h3,bW,-fB'];refineλb=>⟨by simp only[InR];omega,?_⟩
  refine bc (X:=Int) [0,3,6,7,8,18,19,20] [8,17] (λ_=>True) (λa=>[(9,enc a)]) (λ_=>[]) ?_ ?_
  ·simp;refine aA (X:=Int) [0,3,6,7,8,18,19,20] [8,17] (λa=>a<k) (λa=>[(9,enc a)]) (λ_=>[]) (λa=>(a+1).toNat) ((k:Int) -1) (by omega) ?_;intro a A;simp;intro h0 _;refine⟨h0,by omega,λy C=>?_⟩;have:=hp a.toNat y C;exact⟨y.par,by omega,rfl,by omega⟩
  ·intro a _;refine bc (X:=Unit) [0,3,6,7,8,18,19,20] [8,17] (λ_=>True) (λ_=>[]) (λ_=>[]) ?_ ?_
   ·simp
   ·rintro - -;refine bc (X:=List Int) [0,3,6,7,8,18,19,20] [8] (λd=>d.length=l.length/\∀a∈d,0<=a/\a<=40) (λ_=>[]) (λd=>[(17, .row x bE 1 (d.map enc))]) ?_ ?_
    ·simp;refine⟨λh0=>⟨h0,by omega,λy _ _ _=>⟨h0,by omega,by omega,λa2 r=>⟨by omega,λa3 _=>⟨d.set k a2,⟨by simpa using p,λa4 h4=>?_⟩, .inl (jL d k a2)⟩⟩⟩⟩,λ_=>⟨d,⟨p,h⟩, .inl rfl⟩⟩;rcases qDi h4 with h4|rfl
     ·exact h _ h4
     ·exact h _ (aY r)
    ·rintro d ⟨p,h⟩;refine bc (X:=Unit) [0,3,6,7,18,19,20] [17] (λ_=>True) (λ_=>[]) (λ_=>[]) ?_ ?_
     ·simp;refine⟨by simp only[InR];omega,?_⟩;refine aA (X:=Int) [0,3,6,7,8,18,19,20] [8,17] (λa=>a<k) (λa=>[(11,enc a)]) (λ_=>[]) (λa=>(a+1).toNat) ((k:Int) -1) (by omega) ?_;intro a A;simp;exactλh0=>⟨h0,by omega,λy _=>⟨λ_=>⟨h0,by omega⟩,λ_=>⟨by simp only[InR];omega,a -1,by omega,rfl,by omega⟩⟩⟩
     ·rintro - -;simp;refine⟨by omega,λa2 r=>?_⟩;have h4:=h _ (aY r);refine⟨by simp only[InR];omega,by omega,λ_ _=>⟨by omega,λE h5=>?_⟩⟩;have u:k<d.length:=by omega
      rw[qDd (by simpa using u)]at h5;cases h5;simp;refineλh6=>⟨d.set k (a2+1),⟨by simpa using p,λa4 h4=>?_⟩, .inl (jL d k (a2+1))⟩
      rcases qDi h4 with h4|rfl
      ·exact h _ h4
      ·omega
 ·intro d F;simp
def qbY(c:Corpus):Prop:=True
abbrev s_r06_heads:Spc:=aJ (a1 Corpus) qbY (qR (Y:=Int) (Z:=Int)) rP
theorem Uf(h1:S cq=s_r04_ValidName)(h3:S EK=s_r06_bare)(h4:S zK=s_r06_TextAt)(h5:S zJ=s_r06_cyclic):aq zY yS S (a1 Corpus) qbY (qR (Y:=Int) (Z:=Int)) rP:=by
 rintro c -;simp[zY,yS,h1,h3,h4,h5,bW,-fB'];intro _;refine bc (X:=Unit) [1,4] [] (λ_=>c.heads.length=c.rels.length) (λ_=>[]) (λ_=>[]) ?_ ?_
 ·simp
  ((repeat' first|apply And.intro|intro _)<;>first|omega|(simp only[InR];omega)|assumption|trivial)
 ·rintro -hl;refine bc (X:=Unit) [1,4] [] (λ_=>True) (λ_=>[]) (λ_=>[]) ?_ ?_
  ·simp[h1,h3,h4,h5,bW,hl,-fB']
  ·rintro - -;simp;intro _;refine ah (X:=Unit) [1,4,36] [] (c.heads.length) (λ_ _=>True) (λ_=>[]) (λ_=>[]) () trivial ?_ ?_ (hlen:=by first|omega|(simp;omega))
   ·intro k _ hk _;have a:k<c.rels.length:=by omega
    simp[hk,a];refine bc (X:=Unit) [1,4,5,36,37,38] [] (λ_=>True) (λ_=>[]) (λ_=>[]) ?_ ?_
    ·simp[h1,h3,h4,h5,bW,hk,a,hl,-fB']
    ·rintro - -;refine bc (X:=Unit) [1,4,5,36,37,38] [] (λ_=>True) (λ_=>[]) (λ_=>[]) ?_ ?_
     ·simp[h1,h3,h4,h5,bW,hk,a,hl,-fB']
     ·rintro - -;simp[h1,h3,h4,h5,bW,hk,a,hl,-fB']
   ·intro _ _;simp
def rp(c:Corpus):Prop:=∀(j:Nat) (y:yz),c.nodes[j]? =some y->y.par<j
abbrev s_r06_Validate:Spc:=aJ (a1 Corpus) rp (qmj (Y:=Int) (Z:=Int) (W:=Int)) rP
def LB(h1:S qK=s_r06_Attributes)(h2:S zI=s_r06_tokens)(h3:S BP=s_r06_texts)(h4:S wU=s_r06_regions)(h5:S BT=s_r06_Nodes)(h6:S BQ=s_r06_heads):aq sW sx S (a1 Corpus) rp (qmj (Y:=Int) (Z:=Int) (W:=Int)) rP:=by
 rintro c hc;simp[sW,sx,h1,h2,h3,h4,h5,h6,bW,-fB'];exact⟨hc,trivial⟩
abbrev s_r06_Valid:Spc:=aJ (a1 Corpus) rp (enc (X:=Bool)) rP
def Uh(h1:S uT=s_r06_Validate):aq Aa yU S (a1 Corpus) rp (enc (X:=Bool)) rP:=by
 rintro c hc;simp[Aa,yU,h1,bW,-fB'];exact hc
theorem qoa{α:Type}(m:List α)(bl x:α)(j:Nat)(a:j<=m.length):(List.take (j+1) (m++ [bl]) ++ (List.take (m.length -j) (List.drop j (List.take (m.length+1) (m++ [bl]))) ++List.drop (j+1+min (m.length+1-j) (m.length-j)) (m++ [bl]))).set j x=m.take j++x::m.drop j:=by
 have h1:List.take (m.length+1) (m++ [bl])=m++ [bl]:=qC7 (by simp);have h2:List.drop j (m++ [bl])=m.drop j++ [bl]:=List.drop_append_of_le_length a;have h3:List.take (m.length -j) (m.drop j++ [bl])=m.drop j:=by rw[List.take_left'];simp
 have h4:List.drop (j+1+min (m.length+1-j) (m.length-j)) (m++ [bl])=[]:=List.drop_of_length_le (by simp;omega);rw[h1,h2,h3,h4,qDo];have h5:List.take (j+1) (m++[bl])=m.take j++ [(m++ [bl])[j]'(by simp;omega)]:=by
  rw[List.take_succ_eq_append_getElem (by simp;omega),List.take_append_of_le_length a]
 rw[h5,qDf,List.set_append_right _ _ (by simp;omega)];simp[a]
def qkG{α:Type}{m:List α}{bl x:α}{j n:Nat}(hn:m.length=n)(a:j<=n):(List.take (j+1) (m++ [bl]) ++ (List.take (n -j) (List.drop j (List.take (n+1) (m++ [bl]))) ++List.drop (j+1+min (n+1-j) (n-j)) (m++ [bl]))).set j x=m.take j++x::m.drop j:=by
 subst hn;exact qoa m bl x j a
def qir(l m:List Region):Prop:=m.length=l.length/\∀x∈m,x∈l
def ZU(l:List Region):Prop:=l.length<=1000000
abbrev s_r06_SortRegions:Spc:=aJ (a1 (List Region)) ZU (enc (X:=List Region)) qir
theorem Fg(h1:S gc=s_r06_CompareRegions):aq ng mQ S (a1 (List Region)) ZU (enc (X:=List Region)) qir:=by
 rintro l hl;have hl:l.length<=1000000:=hl;simp[ng,mQ,-fB'];intro _;refine ah (X:=Value×List Region) [7] [] l.length (λk x=>x.2.length=k/\∀y∈x.2,y∈l) (λx=>[(3, .own 32 x.1)]) (λx=>[(32, .row x.1 nz 4 (x.2.map enc))]) (.slice none 0 0, []) (by simp) ?_ ?_ (hh:=by simp[isNilRow])
 ·rintro k ⟨v,m⟩ hk ⟨p,c⟩;simp at p c;simp[hk];refineλb _=>?_
  refine bc (X:=Nat) [3,5,7,8,9] [5,32] (λx=>x<=m.length) (λx=>[(6,enc (x:Int))]) (λx=>[]) ?_ ?_
  ·simp;refine aA (X:=Nat) [3,5,7,8,9] [5,32] (λx=>x<=m.length) (λx=>[(6,enc (x:Int))]) (λx=>[]) (λx=>x) m.length (by simp) ?_;intro j q;simp[h1,bW];refine⟨λh0=>⟨by simp only[InR];omega,by omega,by omega,by omega,λa _ y=>⟨λ_=>⟨by simp only[InR];omega,j -1,by omega,by omega,by omega⟩,λ_=>⟨j,q,rfl⟩⟩⟩,λ_=>⟨j,q,rfl⟩⟩
  ·intro j q;simp;have r:D.agg [D.v (Value.string l[k].ty),D.v (Value.int IntKind.i64 l[k].b),D.v (Value.int IntKind.i64 l[k].e),D.list 2 (List.map enc l[k].kv)]=enc l[k]:=by simp
   refine⟨by omega,by omega,λv=>⟨by simp only[InR];omega,by omega,by omega,by omega,by omega,by omega,λd _=>⟨v,m.take j++l[k]::m.drop j,⟨by simp;omega,λy s=>?_⟩,rfl, .inl ⟨rfl,?_⟩⟩⟩⟩
   ·rcases qCk.1 s with h|h
    ·exact c _ (qCD h)
    ·rcases qCm.1 h with rfl|h
     ·exact qDr hk
     ·exact c _ (qC1 h)
   ·refine(qkG (by simp) q).trans ?_;rw[r,Bb,qhk,qDZ,qCW]
 ·rintro⟨v,m⟩ ⟨p,c⟩;simp at p c;simp;exact bF m (gp nz (by simp)) ⟨p,c⟩
def lI(s:Int):List ro->Int->Prop
 | [],e=>s=e
 |t::r,e=>t.b=s/\t.b<t.e/\lI t.e r e
def X6(c:Corpus):Prop:=lI 0 c.texts c.toks.length/\c.texts≠ []/\c.toks.length<=4096/\c.texts.length<=64/\c.regs.length<=1024/\c.nodes.length<=2048/\c.attrs.length<=1000/\c.heads.length<=c.toks.length/\c.rels.length<=c.toks.length/\
 (∀x∈c.regs,0<=x.b/\x.b<=c.toks.length/\0<=x.e/\x.e<=c.toks.length)/\(∀x∈c.nodes,0<=x.b/\x.b<=c.toks.length/\0<=x.e/\x.e<=c.toks.length)/\(∀(j:Nat) (y:yz),c.nodes[j]? =some y->y.par<j)/\∀h∈c.heads,h<=c.toks.length
def Oa(c:Corpus)(x:List Int×List B):Prop:=(∀h∈x.1,h<=c.toks.length)/\x.1.length<=c.toks.length/\x.2.length<=c.toks.length
abbrev s_r06_allHeads:Spc:=aJ (a1 Corpus) X6 (qR (Y:=List Int) (Z:=List B)) Oa
theorem LA:aq sV sw S (a1 Corpus) X6 (qR (Y:=List Int) (Z:=List B)) Oa:=by
 rintro c hc;obtain⟨c1,c2,c3,c4,w,A,C,q,r,s,t,u,l⟩:=hc;simp[sV,sw,-fB'];refineλ_=>⟨λ_=>⟨c.heads, .same _,c.rels, .same _,l,q,r⟩,λ_ _=>⟨by omega,by omega,λv _=>?_⟩⟩
 refine ah (X:=List Int) [1] [] c.toks.length (λk x=>x.length=c.toks.length/\∀(j:Nat) (y:Int),x[j]? =some y->j<k->y= -1) (λx=>[(4, .own 17 v)]) (λx=>[(17, .row v bE 1 (x.map enc))]) (List.replicate c.toks.length 0) (by simp) ?_ ?_
 ·rintro k m hk ⟨h,d⟩;simp;refine⟨by omega,λa _=>⟨m.set k (-1),⟨by simpa using h,λj y b p=>?_⟩, .inl (jL m k (-1))⟩⟩;rw[List.getElem?_set]at b;split at b
  ·split at b
   ·cases b;rfl
   ·cases b
  ·exact d j y b (by omega)
 ·rintro m ⟨h,d⟩;simp;refineλ_=>⟨by omega,by omega,λx=>⟨m,gp bE (by simp),List.replicate c.toks.length ⟨#[]⟩,gp au (by simp),λy b=>?_,by show m.length<=_;omega,by simp⟩⟩
  obtain⟨j,p⟩:=qCF.1 b;have:=d j y p (by have:=(qCd.1 p).1;have E:j<m.length:=this;omega);omega
def cg(H:ab)(a b:D)(l d:List D):FrzTo H (.agg (a::l)) (.agg (b::d))=(FrzTo H a b/\FrzTo H (.agg l) (.agg d)):=by
 refine propext ⟨λh=>?_,λ⟨h1,h2⟩=>?_⟩
 ·cases h with
  |same=>simp
  |agg hl h=>exact⟨h 0 a b rfl rfl, .agg (by grind) λk c c' h1 h2=>h (k+1) c c' (by grind) (by grind)⟩
 ·have hl:l.length=d.length:=by
   grind [FrzTo]
  refine .agg (by grind) λk c c' j p=>?_
  grind [FrzTo]
def zc:Corpus:=⟨[], [], [], [], [], [], []⟩
def vX{X:Type}(f:X->X)(a b:List X)(j:Nat):List X:=a++ ((b.take j).map f++b.drop j)
def qf9{X:Type}(f:X->X)(a b:List X):vX f a b 0=a++b:=by rfl
def qf8{X:Type}(f:X->X)(a b:List X):vX f a b b.length=a++b.map f:=by simp[vX]
def Cx{X:Type}(f:X->X)(a b:List X)(j:Nat):(vX f a b j).length=a.length+b.length:=by grind [vX]
theorem qnZ{X:Type}(f:X->X)(a b:List X){j:Nat}{y:X}(c:b[j]? =some y):(vX f a b j)[a.length+j]? =some y:=by
 grind [vX]
theorem qkr{X:Type}(f:X->X)(a b:List X){j:Nat}{y:X}(c:b[j]? =some y):(vX f a b j).set (a.length+j) (f y)=vX f a b (j+1):=by
 have d:=(qCd.1 c).1;have h:b.drop j=y::b.drop (j+1):=by
  grind [List.drop_eq_getElem_cons]
 simp only[vX];rw[List.set_append_right _ _ (by omega),List.set_append_right _ _ (by grind)];have:a.length+j -a.length - (List.map f (List.take j b)).length=0:=by grind
 grind
def SA{X:Type}(f:X->X)(a b:List X){k:Nat}{y:X}(hk:a.length<=k)(c:b[k -a.length]? =some y):(vX f a b (k -a.length))[k]? =some y:=by
 grind [qnZ]
def M2{X:Type}(f:X->X)(a b:List X){k:Nat}{y:X}(hk:a.length<=k)(c:b[k -a.length]? =some y):(vX f a b (k -a.length)).set k (f y)=vX f a b (k+1 -a.length):=by
 grind [qkr]
def QP:∀{l:List ro} {s e:Int},lI s l e->∀t∈l,s<=t.b/\t.b<t.e/\t.e<=e
 | [],s,e,h,t,ht=>by grind
 | x::r,s,e,h,t,ht=>by
   obtain⟨h1,h2,h3⟩:=h;have c:∀{l:List ro} {s e:Int},lI s l e->s<=e:=by
    intro l
    induction l with
    |nil=>intro s e h;have h:s=e:=h;omega
    |cons a l d=>intro s e h;have:=d h.2.2;have:=h.1;have:=h.2.1;omega
   rcases qCm.1 ht with rfl|ht;grind
   ·have:=QP h3 t ht;omega
def qlU(n:Int)(t:ro):ro:=⟨t.nm,t.b+n,t.e+n,t.kv⟩
def QQ:∀{l:List ro} {s e:Int} {r:List ro} {n f:Int},lI s l e->lI 0 r f->n=e->lI s (l++r.map (qlU n)) (n+f)
 | [],s,e,r,n,f,h,c,hn=>by
   have h:s=e:=h;subst h;subst hn;have go:∀(r:List ro) (a:Int),lI a r f->lI (a+n) (r.map (qlU n)) (n+f):=by
    intro r
    induction r with
    |nil=>grind [lI]
    |cons x r d=>intro a h;obtain⟨h1,h2,h3⟩:=h;exact⟨by show x.b+n=a+n;omega,by show x.b+n<x.e+n;omega,d _ h3⟩
   grind
 |x::l,s,e,r,n,f,h,c,hn=>⟨h.1,h.2.1,QQ h.2.2 c hn⟩
def qnl(n:Int)(x:Region):Region:=⟨x.ty,x.b+n,x.e+n,x.kv⟩
def qjL(n m:Int)(x:yz):yz:=⟨x.lb,x.b+n,x.e+n,if 0<=x.par then x.par+m else x.par⟩
def gT(a b:Corpus)(c:List Int)(d:List B):Corpus:=⟨a.attrs,a.toks++b.toks,a.texts++b.texts.map (qlU a.toks.length),a.regs++b.regs.map (qnl a.toks.length),a.nodes++b.nodes.map (qjL a.toks.length a.nodes.length),c,d⟩
theorem Z2{a b:Corpus}{c:List Int}{d:List B}(k:X6 a)(hb:X6 b)(C:a.toks.length+b.toks.length<=4096)(E:a.texts.length+b.texts.length<=64)(l3:a.regs.length+b.regs.length<=1024)(F:a.nodes.length+b.nodes.length<=2048)
 (h1:c.length<=a.toks.length+b.toks.length) (h2:d.length<=a.toks.length+b.toks.length) (h3:∀h∈c,h<=a.toks.length+b.toks.length):X6 (gT a b c d):=by
 obtain⟨a1,a2,a3,a4,I,J,l,K,L,p,q,r,s⟩:=k;obtain⟨b1,b2,M,N,O,Q,U,W,Y,t,u,w,x⟩:=hb;refine⟨?_,?_,?_,?_,?_,?_,l,?_,?_,?_,?_,?_,?_⟩
 ·have:=QQ (n:=a.toks.length) a1 b1 rfl;grind [lI,gT]
 simp_all [gT];grind [lI,gT];grind [lI,gT];grind [lI,gT];grind [lI,gT];grind [lI,gT];grind [lI,gT];grind [lI,gT,qnl];grind [lI,gT,qjL]
 ·intro j y A;simp only[gT]at A;by_cases Z:j<a.nodes.length;grind;grind [lI,qjL]
 grind [lI,gT]
def XZ(x:Corpus×Corpus):Prop:=X6 x.1/\X6 x.2
def XX(x:Corpus×Corpus)(z:Corpus×Int):Prop:=z.2=0->X6 z.1/\z.1.attrs=x.1.attrs/\z.1.toks=x.1.toks++x.2.toks
abbrev s_r06_Concat:Spc:=aJ (a2 Corpus Corpus) XZ (qR (Y:=Corpus) (Z:=Int)) XX
theorem Rd(h1:S BS=s_r06_Valid)(h2:S kL=s_r06_sameAttributes)(h3:S uU=s_r06_FindText)(h4:S uS=s_r06_allHeads):aq xj wC S (a2 Corpus Corpus) XZ (qR (Y:=Corpus) (Z:=Int)) XX:=by
 rintro⟨a,b⟩ ⟨C,hb⟩;have C:X6 a:=C;have hb:X6 b:=hb;have va:rp a:=C.2.2.2.2.2.2.2.2.2.2.2.1;have vb:rp b:=hb.2.2.2.2.2.2.2.2.2.2.2.1;simp[xj,wC,h1,h2,va,vb,bW,-fB'];intro r y;refine⟨λ_ y2=>⟨λ_=>?_,λ_ y3=>⟨λ_=>?_,λ_=>?_⟩⟩,λ_=>?_⟩
 case refine_1=>exact⟨zc,by simp[zc,cg],λh=>by omega⟩
 case refine_2=>exact⟨zc,by simp[zc,cg],λh=>by omega⟩
 case refine_4=>exact⟨zc,by simp[zc,cg],λh=>by omega⟩
 refine bc (X:=Unit) [2,3,4] [4] (λ_=>True) (λ_=>[]) (λ_=>[]) ?_ ?_
 ·simp;intro _;refine ah (X:=Unit) [2,3,4,37] [4] (b.texts.length) (λ_ _=>True) (λ_=>[]) (λ_=>[]) () trivial ?_ ?_
  ·intro k _ hk _;simp[hk,h3,bW];intro _ _;exact⟨zc,by simp[zc,cg],λh=>by simp at h⟩
  ·simp
 rintro - -;simp;intro _ _;refine bc (X:=Unit) [2,3,4,8,9] [4] (λ_=>a.toks.length+b.toks.length<=4096/\a.texts.length+b.texts.length<=64/\a.regs.length+b.regs.length<=1024/\a.nodes.length+b.nodes.length<=2048) (λ_=>[]) (λ_=>[]) ?_ ?_
 ·obtain⟨a1,a2,a3,a4,a5,a6,a7,a8,a9,O,Q,U,W⟩:=C;obtain⟨b1,b2,b3,b4,b5,b6,b7,b8,b9,E,F,I,b13⟩:=hb;simp;intro _;refine⟨by simp only[InR];omega,λ_ _ _=>⟨by simp only[InR];omega,λ_ _ _=>⟨by simp only[InR];omega,λ_ _=>⟨by simp only[InR];omega,λ_=>?_,by omega⟩,λ_=>?_⟩,λ_=>?_⟩,λ_=>?_⟩
  all_goals exact⟨zc,by simp[zc,cg],λh=>by simp at h⟩
 ·rintro - ⟨l1,l2,l3,l4⟩;have hA:=C;have hB:=hb;obtain⟨a1,a2,a3,a4,a5,a6,a7,a8,a9,O,Q,U,W⟩:=C;obtain⟨b1,b2,b3,b4,b5,b6,b7,b8,b9,E,F,I,b13⟩:=hb;simp;refine⟨by omega,by omega,λv0 bx=>⟨by omega,by omega,by omega,by omega,λv1=>⟨by omega,by omega,by omega,by omega,λL=>?_⟩⟩⟩;refine bc (X:=Unit) [2,3,4,8,9,10] [4,10,93,97] (λ_=>True) (λ_=>[]) (λ_=>[(104, .row L Cp 4 ((a.texts++b.texts.map (qlU a.toks.length)).map enc))]) ?_ ?_
  ·simp;intro _;refine aA (X:=Nat) [2,3,4,8,9,10] [4,10,93,97] (λk=>a.texts.length<=k/\k<=a.texts.length+b.texts.length) (λk=>[(11,enc (k:Int))]) (λk=>[(104, .row L Cp 4 ((vX (qlU a.toks.length) a.texts b.texts (k -a.texts.length)).map enc))]) (λk=>a.texts.length+b.texts.length -k) a.texts.length (by omega) ?_ (hh:=by simp[qf9]);intro k hk;by_cases j:k<a.texts.length+b.texts.length
   ·obtain⟨t,q⟩:=bh (l:=b.texts) (k:=k -a.texts.length) (by omega);have p:=SA (qlU a.toks.length) a.texts b.texts hk.1 q;have d:=M2 (qlU a.toks.length) a.texts b.texts hk.1 q;have hc:=QP b1 t (aY q);obtain⟨J,s⟩:=qCd.1 p;simp[Cx,p,s,j,qDd,List.set_set];refineλ_=>⟨λ_=>⟨by omega,by simp only[InR];omega,by omega,by simp only[InR];omega,by omega,by simp only[InR];omega,k+1,by omega,⟨by omega, .inl ?_⟩,by omega⟩,λh=>by omega⟩
    rw[<-d,<-jL];simp[qlU]
   ·have u:k -a.texts.length=b.texts.length:=by omega
    simp[Cx,j,u,qf8];omega
  rintro - -;simp;refine⟨by omega,by omega,by omega,by omega,λM=>?_⟩;refine bc (X:=Unit) [2,3,4,8,9,10] [4,10,93,97,104] (λ_=>True) (λ_=>[]) (λ_=>[(141, .row M nz 4 ((a.regs++b.regs.map (qnl a.toks.length)).map enc))]) ?_ ?_
  ·simp;intro _;refine aA (X:=Nat) [2,3,4,8,9,10] [4,10,93,97,104] (λk=>a.regs.length<=k/\k<=a.regs.length+b.regs.length) (λk=>[(12,enc (k:Int))]) (λk=>[(141, .row M nz 4 ((vX (qnl a.toks.length) a.regs b.regs (k -a.regs.length)).map enc))]) (λk=>a.regs.length+b.regs.length -k) a.regs.length (by omega) ?_ (hh:=by simp[qf9]);intro k hk;by_cases j:k<a.regs.length+b.regs.length
   ·obtain⟨t,q⟩:=bh (l:=b.regs) (k:=k -a.regs.length) (by omega);have p:=SA (qnl a.toks.length) a.regs b.regs hk.1 q;have d:=M2 (qnl a.toks.length) a.regs b.regs hk.1 q;have hc:=E t (aY q);obtain⟨J,s⟩:=qCd.1 p;simp[Cx,p,s,j,qDd,List.set_set];refineλ_=>⟨λ_=>⟨by omega,by simp only[InR];omega,by omega,by simp only[InR];omega,by omega,by simp only[InR];omega,k+1,by omega,⟨by omega, .inl ?_⟩,by omega⟩,λh=>by omega⟩
    rw[<-d,<-jL];simp[qnl]
   ·have u:k -a.regs.length=b.regs.length:=by omega
    simp[Cx,j,u,qf8];omega
  rintro - -;simp;refine⟨by omega,by omega,by omega,by omega,λN=>?_⟩;refine bc (X:=Unit) [2,3,4,8,10] [4,10,93,97,104,141] (λ_=>True) (λ_=>[]) (λ_=>[(178, .row N vT 4 ((a.nodes++b.nodes.map (qjL a.toks.length a.nodes.length)).map enc))]) ?_ ?_
  ·simp;refine aA (X:=Nat) [2,3,4,8,9,10] [4,10,93,97,104,141] (λk=>a.nodes.length<=k/\k<=a.nodes.length+b.nodes.length) (λk=>[(13,enc (k:Int))]) (λk=>[(178, .row N vT 4 ((vX (qjL a.toks.length a.nodes.length) a.nodes b.nodes (k -a.nodes.length)).map enc))]) (λk=>a.nodes.length+b.nodes.length -k) a.nodes.length (by omega) ?_ (hh:=by simp[qf9]);intro k hk;by_cases j:k<a.nodes.length+b.nodes.length
   ·obtain⟨t,q⟩:=bh (l:=b.nodes) (k:=k -a.nodes.length) (by omega);have p:=SA (qjL a.toks.length a.nodes.length) a.nodes b.nodes hk.1 q;have d:=M2 (qjL a.toks.length a.nodes.length) a.nodes b.nodes hk.1 q;have hc:=F t (aY q);have hc2:=I _ t q;obtain⟨J,s⟩:=qCd.1 p;simp[Cx,p,s,j,qDd,List.set_set];refineλ_=>⟨λ_=>⟨by omega,by simp only[InR];omega,by omega,by simp only[InR];omega,by omega,λhp=>⟨by omega,by simp only[InR];omega,by omega,by simp only[InR];omega,k+1,by omega,⟨by omega, .inl ?_⟩,by omega⟩,λhp=>⟨by simp only[InR];omega,k+1,by omega,⟨by omega, .inl ?_⟩,by omega⟩⟩,λh=>by omega⟩
    ·rw[<-d,<-jL];simp[qjL,hp]
    ·rw[<-d,<-jL];simp[qjL,show ¬(0<=t.par)by omega]
   ·have u:k -a.nodes.length=b.nodes.length:=by omega
    simp[Cx,j,u,qf8];omega
  rintro - -;simp[h4,hA,hB];refineλ_ _=>⟨by simp only[InR];omega,λ_=>?_,λ_=>?_⟩
  ·rintro K rl1 ⟨q1,q2,q3⟩ hd2 rl2 ⟨p1,p2,p3⟩;simp only at q1 q2 q3 p1 p2 p3;refine⟨by omega,by omega,λv5=>⟨by omega,by omega,by omega,by omega,λv6 _=>?_⟩⟩;refine HR (qmJ 247 269 10 bx _ [D.own 93 v0,D.own 97 v1,D.own 104 L,D.own 141 M,D.own 178 N,D.own 269 v5,D.own 249 v6] (by decide) (by decide) rfl rfl (λm c c' h h'=>?_)) ?_
   ·rcases m with _|_|_|_|_|_|_|m<;>simp at h h'<;>subst h<;>subst h'<;>simp
   refine ah (X:=Value×List Int) [4,8,10,254] [4,93,97,104,141,178,249] hd2.length (λk x=>x.2.length=K.length+k/\∀h∈x.2,h<=a.toks.length+b.toks.length) (λ_=>[]) (λx=>[(10, .box bx [D.own 93 v0,D.own 97 v1,D.own 104 L,D.own 141 M,D.own 178 N,D.own 269 x.1,D.own 249 v6]),(269, .row x.1 bE 1 (x.2.map enc))]) (v5,K) ⟨rfl,λh hh=>by have:=q1 h hh;omega⟩ ?_ ?_
   ·rintro k ⟨v,l⟩ hk ⟨A,w⟩;simp only at A w;obtain⟨x,hx⟩:=bh hk;have hpx:=p1 x (aY hx);obtain⟨_,hgx⟩:=qCd.1 hx;simp[hk,hx,hgx];refine bc (X:=Int) [4,8,10,254,255,256] [4,10,93,97,104,141,178,249,269] (λy=>y<=a.toks.length+b.toks.length) (λy=>[(19,enc y)]) (λ_=>[]) ?_ ?_
    ·simp;exact⟨λh0=>⟨by simp only[InR];omega,by omega⟩,λh0=>by omega⟩
    ·intro y hy;simp;refine⟨by omega,by omega,λv=>⟨v,l++ [y],⟨by simp;omega,λh hh=>?_⟩, .inl rfl, .inl ⟨rfl,TH l y⟩⟩⟩;rcases qCk.1 hh with hh|hh
     ·exact w h hh
     ·simp at hh;omega
   ·rintro⟨v,l⟩ ⟨A,w⟩;simp only at A w;simp;refine⟨gT a b l (rl1++rl2),?_,λ_=>⟨Z2 hA hB l1 l2 l3 l4 (by omega) (by simp;omega) w,rfl,rfl⟩⟩;simp only[cg];refine⟨gp (X:=Attr) FE (by simp[gT]),gp (X:=List B) vU (by simp[gT]),gp (X:=ro) Cp (by simp[gT]),gp (X:=Region) nz (by simp[gT]),gp (X:=yz) vT (by simp[gT]),gp (X:=Int) bE (by simp[gT]),gp (X:=B) au (by simp[gT]), .same _⟩
  ·refine⟨gT a b [] [],?_,λ_=>⟨Z2 hA hB l1 l2 l3 l4 (by simp) (by simp) (by simp),rfl,rfl⟩⟩;simp only[cg];refine⟨gp (X:=Attr) FE (by simp[gT]),gp (X:=List B) vU (by simp[gT]),gp (X:=ro) Cp (by simp[gT]),gp (X:=Region) nz (by simp[gT]),gp (X:=yz) vT (by simp[gT]), .nil _, .nil _, .same _⟩
end
section
def XR:List B:=[⟨#[97]⟩,⟨#[98]⟩,⟨#[99]⟩,⟨#[65]⟩,⟨#[97,98]⟩,⟨#[]⟩]
def qil:List B:=[⟨#[88]⟩,⟨#[89]⟩]
def QX:List B:=[⟨#[124]⟩,⟨#[124,112,124]⟩,⟨#[124,112,124,113,124]⟩,⟨#[124,113,124]⟩]
def iS:List Attr:=[⟨⟨#[119,111,114,100]⟩,false⟩,⟨⟨#[116,97,103]⟩,false⟩,⟨⟨#[102,101,97,116]⟩,true⟩]
def qmE(l:List Attr):Prop:=l=iS
def Dw(r:List B):Prop:=∃w t f,w∈XR/\t∈qil/\f∈QX/\r=[w,t,f]
def TX(c:Corpus):Prop:=c.attrs=iS/\∀r∈c.toks,Dw r
open Cod (enc dec)
variable {S S0:Nat->Spc}
def qgK{a b c:Corpus}(d:TX a)(hb:TX b)(h:c.attrs=a.attrs/\c.toks=a.toks++b.toks):TX c:=by
 refine⟨h.1.trans d.1,λr hr=>?_⟩;rw[h.2]at hr;rcases qCk.1 hr with hr|hr
 ·exact d.2 r hr
 ·exact hb.2 r hr
abbrev s_m_Document:Spc:=aJ (aT (a2 B Int)) (λx=>1<=x.2.2/\x.2.2<=1000) (enc (X:=Corpus)) (λx c=>X6 c/\TX c/\(c.toks.length:Int)<=x.2.2)
abbrev s_m_Corpus:Spc:=aJ (aT (a1 Int)) (λx=>1<=x.2/\x.2<=1000) (enc (X:=Corpus)) (λx c=>X6 c/\TX c/\(c.toks.length:Int)<=3*x.2)
theorem Yi(h1:S cv=s_m_Next)(h2:S pj=s_m_Document)(h3:S zL=s_r06_Concat):aq rf qv S (aT (a1 Int)) (λx=>1<=x.2/\x.2<=1000) (enc (X:=Corpus)) (λx c=>X6 c/\TX c/\(c.toks.length:Int)<=3*x.2):=by
 rintro⟨L,n⟩ hn;have hn:1<=n/\n<=1000:=hn;simp[rf,qv,h1,h2,hn];intro b y l d p b1 k q r;refine aA (X:=Int×Corpus) [0,1,4,5] [4] (λx=>0<=x.1/\x.1<=2/\X6 x.2/\TX x.2/\(x.2.toks.length:Int) +x.1*n<=3*n) (λx=>[(6,enc x.1)]) (λx=>[(5, .box b1 (enc x.2).cells)]) (λx=>x.1.toNat) (k,y) ⟨q,by omega,l,d,by
  have:k=0\/k=1\/k=2:=by omega
  show(y.toks.length:Int) +k*n<=3*n;rcases this with rfl|rfl|rfl<;>omega⟩ ?_
 rintro⟨k,c⟩ ⟨s,t,h,j,u⟩;simp only at s t h j u;simp[h1,h2,h3,hn];refine⟨λhk=>⟨by omega,by omega,?_⟩,λhk=>?_⟩
 ·have:k=1\/k=2:=by omega
  rcases this with rfl|rfl
  all_goals
   simp[hn];refineλy l d p=>⟨⟨h,l⟩,λa e he=>⟨λh0=>⟨by simp[InR],_,a,⟨?_,?_,(he h0).1,qgK j d (he h0).2,by
    have e:=(he h0).2.2;simp only at e;rw[e,qCJ];omega⟩,⟨rfl, .inl ⟨rfl,rfl,rfl,rfl,rfl,rfl,rfl⟩⟩,?_⟩,λh0=>⟨by simp[InR],_,c,⟨?_,?_,h,j,by omega⟩,⟨rfl, .inl ⟨rfl,rfl,rfl,rfl,rfl,rfl,rfl⟩⟩,?_⟩⟩⟩
   all_goals omega
 ·have:k=0:=by omega
  subst this;exact bF c (by simp) ⟨h,j,by show(c.toks.length:Int)<=3*n;omega⟩
end
section
def RFz(Hf:ab):Res->Res->Prop
 | .box b cs, .box b' cs'=>b=b'/\cs.length=cs'.length/\∀(m:Nat) (c c':D),cs[m]? =some c->cs'[m]? =some c'->FrzTo Hf c c'
 | .row x el n es, .row h a l es'=>x=h/\el=a/\n=l/\es.length=es'.length/\(∀d∈es',d.kn=true/\d.cells.length=n)/\∀(m:Nat) (c c':D),es[m]? =some c->es'[m]? =some c'->∀(j:Nat) (e k:D),c.cells[j]? =some e->c'.cells[j]? =some k->FrzTo Hf e k
 | .tbox el b cs, .tbox a b' cs'=>el=a/\b=b'/\cs.length=cs'.length/\∀(m:Nat) (c c':D),cs[m]? =some c->cs'[m]? =some c'->FrzTo Hf c c'
 | .mrow x es, .mrow h es'=>x=h/\es.length=es'.length/\∀(m:Nat) (c c':D),es[m]? =some c->es'[m]? =some c'->FrzTo Hf c c'
 |r,r'=>r=r'
theorem RFz.blk{Hf:ab}{r r':Res}(h:RFz Hf r r'):r'.blk=r.blk:=by
 cases r<;>cases r'<;>simp only[RFz]at h;grind [Res.blk]
 all_goals first
  |(obtain⟨rfl,rfl,rfl,_⟩:=h;rfl)
  |(obtain⟨rfl,rfl,_⟩:=h;rfl)
  |(obtain⟨rfl,_⟩:=h;rfl)
  |grind
  |(cases h;rfl)
theorem RFz.ok{tp I A:Nat->Prop}{w:World}{Hf:ab}{r r':Res}(h:RFz Hf r r')(a:ResOk (R tp I w) w r)(N:∀i q,Hf i=some q->ResOk (R tp I w) w q)(hI:∀b,I b->A b)(hb:∀i q b,Hf i=some q->q.blk=some b->A b):ResOk (R tp A w) w r':=by
 have fz:∀{c c':D} {y:Value},FrzTo Hf c c'->R tp I w y c->R tp A w y c':=λh a=>h.R (H:=bV) N hI hb a
 have same:ResOk (R tp A w) w r:=a.conv (λx d a=>a.mono (λ_ h=>h) (λb hb=>⟨hI b hb,rfl⟩) (λb _=> .refl _ _)) (λ_ _=>rfl);cases r with
 | box b cs=>
   cases r' with
   | box b' cs'=>
     obtain⟨rfl,hl,hc⟩:=h;obtain⟨xs,el,h1,h2,h3⟩:=a;refine⟨xs,el,h1,h2.trans hl,λk y c C t=>?_⟩;have hk:k<cs.length:=by grind
     have h4:=h3 k y cs[k] C (qCe hk);grind
   |row x el n es=>cases h
   |iter b s p=>cases h
   |tbox b s p=>cases h
   |mrow=>cases h
   |miter=>cases h
   |raw=>cases h
 | iter b s p=>
   cases r' with
   |box b' cs'=>cases h
   |row x el n es=>cases h
   |iter b' E M=>cases h;omega
   |tbox b' E M=>cases h
   |mrow=>cases h
   |miter=>cases h
   |raw=>cases h
 | tbox b s p=>
   cases r' with
   |box b' cs'=>cases h
   |row x el n es=>cases h
   |iter b' E M=>cases h
   |mrow=>cases h
   |miter=>cases h
   |raw=>cases h
   | tbox b' E cs'=>
     obtain⟨rfl,rfl,hl,hc⟩:=h;obtain⟨xs,h1,h2,h3⟩:=a;refine⟨xs,h1,h2.trans hl,λk y c C t=>?_⟩;have hk:k<p.length:=by grind
     have h4:=h3 k y p[k] C (qCe hk);grind
 | row x el n es=>
   cases r' with
   |box b' cs'=>cases h
   |iter b' E M=>cases h
   |tbox b' E M=>cases h
   |mrow=>cases h
   |miter=>cases h
   |raw=>cases h
   | row W Y n' es'=>
     obtain⟨rfl,rfl,rfl,hl,F,hc⟩:=h;obtain⟨xs,h1,h2,h3⟩:=a;refine⟨xs,hl ▸h1,F,λk y c C t=>?_⟩;have Q:∀d∈es,d.cells.length=n:=λd O=>(h2 d O).2
     have J:∀d∈es',d.cells.length=n:=λd O=>(F d O).2
     have Z:=aS Q;have U:=aS J;have hk:k<(ba es).length:=by
      grind
     have hk2:k<es.length*n:=by omega
     have hn:0<n:=by
      grind
     have h4:=h3 k y (ba es)[k] C (qCe hk);refine⟨h4.1,fz ?_ h4.2⟩;have hdm:k=(k/n) *n+k % n:=by grind [ResOk,Nat.div_add_mod]
     have u:k % n<n:=qDs _ hn;have g1:=dJ Q (i:=k/n) (j:=k % n) u;have g2:=dJ J (i:=k/n) (j:=k % n) u;grind
 | mrow x es=>
   cases r' with
   |box=>cases h
   |iter=>cases h
   |tbox=>cases h
   |row=>cases h
   |miter=>cases h
   |raw=>cases h
   | mrow W es'=>
     obtain⟨rfl,hl,hc⟩:=h;obtain⟨b,L,clock,rfl,h1,h2,h3⟩:=a;refine⟨b,L,clock,rfl,h1,h2,h3.1.trans hl,λk e c he t=>?_⟩;have hk:k<es.length:=by grind
     exact fz (hc k _ _ (qCe hk) t) (h3.2 k e _ he (qCe hk))
 | miter b c l=>
   cases r' with
   |box=>cases h
   |iter=>cases h
   |tbox=>cases h
   |row=>cases h
   |mrow=>cases h
   |raw=>cases h
   |miter=>cases h;omega
 | raw k=>
   cases r' with
   |box=>cases h
   |iter=>cases h
   |tbox=>cases h
   |row=>cases h
   |mrow=>cases h
   |miter=>cases h
   |raw k'=>cases h;omega
def RFe(Hf:ab)(r r':Res):Prop:=r=r'\/RFz Hf r r'
theorem RFe.blk{Hf:ab}{r r':Res}(h:RFe Hf r r'):r'.blk=r.blk:=by
 rcases h with rfl|h
 ·rfl
 ·exact h.blk
def RFe.ok{tp I c:Nat->Prop}{w:World}{Hf:ab}{r r':Res}(h:RFe Hf r r')(a:ResOk (R tp I w) w r)(j:∀i q,Hf i=some q->ResOk (R tp I w) w q)(hI:∀b,I b->c b)(hb:∀i q b,Hf i=some q->q.blk=some b->c b):ResOk (R tp c w) w r':=by
 rcases h with rfl|h
 ·exact a.conv (λx d a=>a.mono (λ_ h=>h) (λb hb=>⟨hI b hb,rfl⟩) (λb _=> .refl _ _)) (λ_ _=>rfl)
 ·exact h.ok a j hI hb
theorem isNilRow.blk'{r:Res}(h:isNilRow r):r.blk=none:=by
 cases r with
 |box b c=>exact h.elim
 |iter b s p=>exact h.elim
 |tbox b s p=>exact h.elim
 |mrow=>exact h.elim
 |miter=>exact h.elim
 |raw=>exact h.elim
 |row x el n es=>obtain⟨rfl,rfl⟩:=h;rfl
theorem X8{σ M:Sg}{H H' Hf:ab}(ρ:Nat->Nat)(h1:∀t,FrzTo Hf (σ t) (M t))(h2:∀i r,H' i=some r->(∃u,H (ρ i)=some u/\RFe Hf u r)\/isNilRow r)
 (h3:∀i j r s,H' i=some r->H' j=some s->ρ i=ρ j->i=j\/isNilRow r\/isNilRow s) (h4:∀i r,Hf i=some r->H i=some r/\∀j r',H' j=some r'->ρ j=i->isNilRow r'):Wk σ H M H':=by
 intro E a w ⟨Y,Z,tp,h,Q⟩;have l:∀i r c,H' i=some r->r.blk=some c->∃u,H (ρ i)=some u/\u.blk=some c/\ ¬isNilRow r:=λi r c A F=>by
  have hn:¬isNilRow r:=λhn=>by grind [hn.blk']
  rcases h2 i r A with⟨u,k3,I⟩|k3;grind [I.blk];grind
 have J:∀c,bz H' c->bz H c:=λc ⟨i,r,A,F⟩=>by
  obtain⟨u,k3,I,_⟩:=l i r c A F;exact⟨ρ i,u,k3,I⟩
 have C:∀c,aN E.O tp H w c->aN E.O tp H' w c:=λc hb=>⟨hb.1,hb.2.1,hb.2.2.1,λho=>hb.2.2.2 (J c ho)⟩
 have L:∀i q,Hf i=some q->ResOk (R tp (aN E.O tp H w) w) w q:=λi q U=>h.sat.ok i q (h4 i q U).1
 have N:∀i q b,Hf i=some q->q.blk=some b->aN E.O tp H' w b:=λi q b U hb=>by
  obtain⟨A,F⟩:=h4 i q U;have ho:=h.sat.out i q b A hb;refine⟨(h.sat.ok i q A).lt hb,ho.1,ho.2,λ⟨j,s,k3,I⟩=>?_⟩;obtain⟨W,k5,k6,k7⟩:=l j s b k3 I;exact k7 (F j s k3 (h.sat.dis (ρ j) i W q b k5 A k6 hb))
 have move:∀x d,R tp (aN E.O tp H w) w x d->R tp (aN E.O tp H' w) w x d:=λx d Q=>
  Q.mono (λ_ h=>h) (λb hb=>⟨C b hb,rfl⟩) (λb _=> .refl _ _)
 refine⟨Y,Z,tp,⟨h.hO,h.tpx,h.tpn,h.tpl,h.step,λb hb=>h.loc b (J b hb),⟨λi j r s c A F k3 I=>?_,λi r c A F=>?_,λi r A=>?_⟩⟩,λt=>(h1 t).R (H:=bV) L C N (Q t)⟩
 ·obtain⟨u,a1,a2,a3⟩:=l i r c A k3;obtain⟨W,b1,b2,b3⟩:=l j s c F I;rcases h3 i j r s A F (h.sat.dis _ _ u W c a1 b1 a2 b2)with e|e|e;omega;grind;grind
 ·obtain⟨u,a1,a2,_⟩:=l i r c A F;exact h.sat.out _ u c a1 a2
 ·rcases h2 i r A with⟨u,k3,I⟩|k3
  ·exact I.ok (h.sat.ok _ u k3) L C N
  ·cases r with
   |box b c=>exact k3.elim
   |iter b s p=>exact k3.elim
   |tbox b s p=>exact k3.elim
   |mrow=>exact k3.elim
   |miter=>exact k3.elim
   |raw=>exact k3.elim
   | row x el n es=>
     obtain⟨rfl,rfl⟩:=k3;exact⟨[],qDx _ _ _ _,by simp,λk y c h=>by grind⟩
def Al(Hf:ab):List (Nat×D)->Sg->Prop
 | [],_=>True
 |(t,d)::l,σ=>FrzTo Hf (σ t) d/\Al Hf l σ
@[simp] theorem qrr(Hf:ab)(σ:Sg):Al Hf [] σ=True:=i' rfl
@[simp] theorem qrs(Hf:ab)(t:Nat)(d:D)(l:List (Nat×D))(σ:Sg):Al Hf ((t,d)::l) σ=(FrzTo Hf (σ t) d/\Al Hf l σ):=i' rfl
def YU(rn:List (Nat×Nat))(i:Nat):Nat:=(rn.lookup i).getD i
def xz(Hf:ab)(rn:List (Nat×Nat)):List (Nat×Res)->ab->Prop
 | [],_=>True
 |(i,r)::l,H=>((∃a,H (YU rn i)=some a/\RFe Hf a r)\/isNilRow r)/\xz Hf rn l H
@[simp] theorem qrp(Hf:ab)(rn:List (Nat×Nat))(H:ab):xz Hf rn [] H=True:=i' rfl
@[simp] theorem qrq(Hf:ab)(rn:List (Nat×Nat))(i:Nat)(r:Res)(l:List (Nat×Res))(H:ab):xz Hf rn ((i,r)::l) H=(((∃a,H (YU rn i)=some a/\RFe Hf a r)\/isNilRow r)/\xz Hf rn l H):=i' rfl
def JS(a:List Nat)(H:ab):ab:=λi=>if i∈a then H i else none
def qpk(rn:List (Nat×Nat))(ids a:List Nat):Prop:=(∀i∈ids,∀j∈ids,YU rn i=YU rn j->i=j)/\(∀i∈ids,YU rn i∉a)
instance (rn:List (Nat×Nat)) (ids a:List Nat):Decidable (qpk rn ids a):=by unfold qpk;infer_instance
def dM{l:List (Nat×Res)}{H:ab}{i:Nat}{r:Res}(h:gD l H i=some r):(i,r) ∈l\/(i∉l.map (·.1)/\H i=some r):=by
 induction l with
 |nil=>simp_all
 | cons p l a=>
   obtain⟨j,q⟩:=p;simp only[gD,ai]at h;grind
theorem Y6{Hf:ab}{rn:List (Nat×Nat)}{l:List (Nat×Res)}{H:ab}{i:Nat}{r:Res}(h:xz Hf rn l H)(hm:(i,r) ∈l):(∃a,H (YU rn i)=some a/\RFe Hf a r)\/isNilRow r:=by
 induction l<;>grind [xz]
theorem Hx{b σ:Sg}{l H:ab}{ks hk c:List Nat}{rn:List (Nat×Nat)}{k:List (Nat×D)}{hp:List (Nat×Res)}(hi:qpk rn (hp.map (·.1) ++hk) c)(hid:∀i∈hk,i∉hp.map (·.1)->YU rn i=i)
 (h1:Al (JS c H) k σ) (h2:wo ks b σ) (h3:xz (JS c H) rn hp H) (h4:AD hk l H):Wk σ H (ss k (ja ks b)) (gD hp (jc hk l)):=by
 have a:∀i r,gD hp (jc hk l) i=some r->i∈hp.map (·.1) ++hk:=λi r h=>by
  rcases dM h with h|⟨_,h⟩;grind;grind [Nf]
 refine X8 (Hf:=JS c H) (YU rn) (λt=>?_) (λi r h=>?_) (λi j r s q u e=> .inl (hi.1 i (a i r q) j (a j s u) e)) (λi r h=>?_)
 ·clear hi hid h3 a
  induction k with
  | nil=>
    rw[ZL,Ne];grind [FrzTo,wo]
  | cons p k w=>
    obtain⟨s,d⟩:=p;simp only[ss,upd];grind [Al]
 ·rcases dM h with h|⟨h5,h⟩;grind [Y6]
  ·rw[Nf]at h;split at h
   ·rename_i e;rw[hid i e h5,h4 i e];exact .inl ⟨r,h, .inl rfl⟩
   grind
 grind [qpk,JS]
@[simp] theorem qAi(i:Nat):YU [] i=i:=i' rfl
@[simp] theorem qAj(i j:Nat)(l:List (Nat×Nat))(k:Nat):YU ((i,j)::l) k=if k=i then j else YU l k:=by
 simp only[YU,List.lookup];by_cases e:k=i
 ·subst e;simp
 ·have:(k==i)=false:=by simpa using e
  simp[this,e]
def FzL(Hf:ab):List D->List D->Prop
 | [], []=>True
 |a::l,b::r=>FrzTo Hf a b/\FzL Hf l r
 | _,_=>False
@[simp] theorem qAR(Hf:ab):FzL Hf [] []=True:=i' rfl
@[simp] theorem qAS(Hf:ab)(a b:D)(l r:List D):FzL Hf (a::l) (b::r)=(FrzTo Hf a b/\FzL Hf l r):=i' rfl
def FzL.get{Hf:ab} :∀{l r:List D},FzL Hf l r->l.length=r.length/\∀(m:Nat) (c c':D),l[m]? =some c->r[m]? =some c'->FrzTo Hf c c'
 | [], [],_=>⟨rfl,λm c c' h=>by simp⟩
 | a::l,b::r,h=>by
   obtain⟨h1,h2⟩:=h;have d:=FzL.get h2;grind
@[simp] theorem qtW(Hf:ab)(b:Nat)(cs cs':List D):RFe Hf (.box b cs) (.box b cs')=(cs=cs'\/FzL Hf cs cs'):=by
 refine propext ⟨λh=>?_,λh=>?_⟩
 ·rcases h with h|⟨_,hl,hc⟩
  ·cases h;exact .inl rfl
  ·right
   induction cs generalizing cs' with
   | nil=>cases cs' with
     |nil=>trivial
     |cons b r=>simp at hl
   | cons a l d=>cases cs' with
     |nil=>simp at hl
     |cons b r=>exact⟨hc 0 a b rfl rfl,d r (by simpa using hl) λm c c' h1 h2=>hc (m+1) c c' (by simpa using h1) (by simpa using h2)⟩
 ·rcases h with rfl|h
  ·exact .inl rfl
  ·exact .inr ⟨rfl,h.get.1,h.get.2⟩
def qb6(a:Sg)(c:ab)(ks hk b:List Nat)(rn:List (Nat×Nat))(d:List (Nat×D))(hp:List (Nat×Res))(σ:Sg)(H:ab):Prop:=Al (JS b H) d σ/\wo ks a σ/\xz (JS b H) rn hp H/\AD hk c H
@[simp] theorem qsG(a:Sg)(c:ab)(ks hk b:List Nat)(rn:List (Nat×Nat))(d:List (Nat×D))(hp:List (Nat×Res))(σ:Sg)(H:ab):qb6 a c ks hk b rn d hp σ H=(Al (JS b H) d σ/\wo ks a σ/\xz (JS b H) rn hp H/\AD hk c H):=i' rfl
section
variable {S:Nat->Spc}{σ:Sg}{H:ab}{K:Ex->Sg->ab->Prop}
def fE{X:Type}(ks hk d:List Nat)(rn:List (Nat×Nat))(P:X->Prop)(j:X->List (Nat×D))(hp:X->List (Nat×Res)){k:Nat}{a b:CC}(ids:List Nat)(l:∀x,(hp x).map (·.1)=ids)(hi:qpk rn (ids++hk) d/\∀i∈hk,i∉ids->YU rn i=i)
 (p:vc S a (V9 (λc H'=>∃x,P x/\qb6 σ H ks hk d rn (j x) (hp x) c H') K) σ H)
 (hb:∀x,P x->vc S b K (ss (j x) (ja ks σ)) (gD (hp x) (jc hk H))):vc S (OU k a b) K σ H:=by
 refine qjs P _ _ (yF a _ _ (λe c H' h=>?_) p) hb;cases e with
 | norm=>
   obtain⟨x,h1,h2⟩:=h;grind [V9,qb6,Hx]
 |ex i=>exact h
 |ret=>exact h
end
open Cod (enc dec)
variable {S S0:Nat->Spc}
end
section
variable {dq:Prop}
section
variable {X Y:Type}
def qmF(cf:Y->List D)(b:Nat)(post:Y->Prop)(r:D)(H:ab):Prop:=∃y cs,r= .tup []/\H 1=some (.box b cs)/\FzL (qkS 1 [] H) cs (cf y)/\post y
def TL(cc:CC)(rs:List ak)(S:Nat->Spc)(ce:X->List D)(cf:Y->List D)(pre:X->Prop)(post:X->Y->Prop):Prop:=
 ∀L b x,pre x->vc S cc (tJ rs λr H'=>qmF cf b (post x) r H') (dt [.tape L, .bptr 1 b 0]) (ai bV 1 (some (.box b (ce x))))
variable {P:Program}{S:Nat->Spc}{f:Nat}{im:List Nat}{cc:CC}{rs:List ak}{N:Nat}
theorem Jv{ce:X->List D}{cf:Y->List D}{pre:X->Prop}{post:X->Y->Prop}(t:∀f,Tri dq P f (S f).pt)(h:xD P f im cc rs N)(u:2<=N)(w:TL cc rs S ce cf pre post):Tri dq P f (qv6 ce cf pre post).pt:=by
 obtain⟨vX,enter,fn,code,h1,h2,h3,h4,h5⟩:=h;refine Yz t vX h1 h2 enter h3 h4 h5 ?_;rintro ds H d K ⟨L,id,b,x,rfl,hid,hp,A⟩;refine⟨u, [.tape L, .bptr 1 b 0],ai bV 1 (some (.box b (ce x))),λ_=>id, .cons (.same _) (.cons (.bptr _ _ _ _) .nil),λi r h=>?_,λi j r s h C _=>?_,_,w L b x hp,?_⟩
 ·by_cases e:i=1
  ·subst e;simp only[ai,if_true]at h;cases h;exact hid
  ·simp[ai,e,bV]at h
 ·have a:i=1:=by
   by_cases e:i=1
   ·exact e
   ·simp[ai,e,bV]at h
  have b:j=1:=by
   by_cases e:j=1
   ·exact e
   ·simp[ai,e,bV]at C
  exact a.trans b.symm
 ·rintro r H' ⟨y,cs,rfl,l,hz,c⟩;have E:=qkL (H:=H') 1 b cs (cf y) [] l hz.get.1 hz.get.2;have l:left 1 b (cf y) [] H' 1=some (.box b (cf y)):=rfl;refine⟨.tup [],left 1 b (cf y) [] H',bV,ai H id (some (.box b (cf y))),λi=>if i=id then some 1 else none,E, .same _,λj q h=>by simp[bV]at h,A y c,λi s hi=>?_,λi p k s q hi F I J=>?_⟩
  ·by_cases e:i=id
   ·subst e;simp only[ai,if_true]at hi;cases hi;simpa using l
   ·simp only[ai,e,if_false]at hi ⊢;exact⟨hi,λk q h he=>e he.symm⟩
  ·have a:i=id:=by
    by_cases e:i=id
    ·exact e
    ·simp[e]at I
   have b:p=id:=by
    by_cases e:p=id
    ·exact e
    ·simp[e]at J
   exact a.trans b.symm
end
end
section
open Cod (enc dec)
variable {S S0:Nat->Spc}
def qja:qik NQ Mo S:=by
 intro l;simp[NQ,Mo, -List.map_take,Bb,FF];omega
def quf(c:Corpus):List D:=[enc c.attrs,enc c.toks,enc c.texts,enc c.regs, .v (.slice none 0 0), .v (.slice none 0 0), .v (.slice none 0 0)]
def qkk(c:Corpus):List D:=[enc c.attrs,enc c.toks,enc c.texts,enc c.regs,enc c.nodes, .v (.slice none 0 0), .v (.slice none 0 0)]
def qrL(c:Corpus):List D:=[enc c.attrs,enc c.toks,enc c.texts,enc c.regs,enc c.nodes,enc c.heads,enc c.rels]
end
section
section
variable {S:Nat->Spc}{σ:Sg}{H:ab}{K:Ex->Sg->ab->Prop}
theorem tT{X:Type}(ks hk c p:List Nat)(qd5 rn:List (Nat×Nat))(P:X->Prop)(l:X->List (Nat×D))(hp:X->List (Nat×Res))(m:X->Nat)(d:X)(ids:List Nat)(a:∀x,(hp x).map (·.1)=ids)
 (j:qpk qd5 (ids++hk) c/\∀i∈hk,i∉ids->YU qd5 i=i) (hi:qpk rn (ids++hk) p/\∀i∈hk,i∉ids->YU rn i=i) {k:Nat} {b:CC} (h0:P d)
 (hs:Al (JS c H) (l d) σ) (hh:xz (JS c H) qd5 (hp d) H)
 (q:∀x,P x->vc S b (qcb P (λy=>qb6 σ H ks hk p rn (l y) (hp y)) m x K) (ss (l x) (ja ks σ)) (gD (hp x) (jc hk H))):vc S (.loop k b) K σ H:=by
 rw[To];refine⟨⟨X,P,λx=>ss (l x) (ja ks σ),λx=>gD (hp x) (jc hk H),m⟩,⟨d,h0,Hx (by rw[a d];exact j.1) (by rw[a d];exact j.2) hs (λ_ _=>rfl) hh (λ_ _=>rfl)⟩,λx r=>yF b _ _ (λe s H' h=>?_) (q x r)⟩;cases e with
 | norm=>
   obtain⟨y,h1,h2,h3⟩:=h;exact⟨y,h1,Hx (by rw[a y];exact hi.1) (by rw[a y];exact hi.2) h2.1 h2.2.1 h2.2.2.1 h2.2.2.2,h3⟩
 |ex i=>exact h
 |ret=>exact h
end
open Cod (enc dec)
variable {S S0:Nat->Spc}
def UT(l:List B):List D:=l.map enc
def PK(a b:B):D.list 1 [.v (.string a), .v (.string b)]= .list 1 (UT [a,b]):=i' rfl
def US(a b c:B):D.list 1 [.v (.string a), .v (.string b), .v (.string c)]= .list 1 (UT [a,b,c]):=i' rfl
def mu(l:List B):(UT l).length=l.length:=by simp[UT]
def rq(l:List B)(i:Nat)(d:D):((UT l)[i]? =some d)=∃s,l[i]? =some s/\ .v (.string s)=d:=by
 simp[UT]
def qiG(n:Nat)(a:List yz):Prop:=(∀x∈a,0<=x.b/\x.b<=n/\0<=x.e/\x.e<=n)/\∀(j:Nat) (y:yz),a[j]? =some y->y.par<j
def TO(c c':Corpus):Prop:=∃a,c'={ c with nodes:=a } /\a.length<=6/\qiG c.toks.length a
def CN(c:Corpus):Prop:=c.toks.length<=4096
theorem qcc(h1:S cv=s_m_Next):TL tb sD S quf qkk CN TO:=by
 intro L b c hc;have hc:c.toks.length<=4096:=hc;simp[tb,sD,h1,quf];intro _ k I J;refine tT (X:=Int×Int×Value×List yz) [0,1,4] [] [] [] [] [] (λx=>0<=x.1/\x.1<=c.toks.length/\0<=x.2.1/\2*x.2.1+x.2.2.2.length<=6/\qiG c.toks.length x.2.2.2) (λx=>[(5,enc x.1),(6,enc x.2.1)]) (λx=>[(1, .box b [enc c.attrs,enc c.toks,enc c.texts,enc c.regs, .own 61 x.2.2.1, .v (.slice none 0 0), .v (.slice none 0 0)]),(61, .row x.2.2.1 vT 4 (x.2.2.2.map enc))]) (λx=>x.2.1.toNat) (0,k, .slice none 0 0, []) [1,61] (λ_=>rfl) (by decide) (by decide) ?_ ?_ ?_ ?_
 ·simp[qiG];omega
 ·simp
 ·simp[isNilRow];exact .nilown 61
 ·rintro⟨at_,k,v,l⟩ ⟨K,M,N,O,q⟩;simp only at K M N O q;simp[h1,PK,mu,rq];have vM:qmF qkk b (TO c) (D.tup []) (ai (ai (ai (λx=>none) 96 none) 61 (some (Res.row v vT 4 (List.map enc l)))) 1 (some (Res.box b [D.list 2 (List.map enc c.attrs),D.list 1 (List.map enc c.toks),D.list 4 (List.map enc c.texts),D.list 4 (List.map enc c.regs),D.own 61 v,D.v (Value.slice none 0 0),D.v (Value.slice none 0 0)]))):=by
   refine⟨{ c with nodes:=l },_,rfl,rfl,?_,⟨l,rfl,by omega,q⟩⟩;simp[qkk];exact gp vT rfl
  refine⟨λhk=>⟨λQ y U W=>⟨by simp only[InR];omega,λ_=>vM,λhb=>⟨by simp only[InR];omega,by simp only[InR];omega,by omega,λr C=>⟨by simp only[InR];omega,λ_ z s t=>⟨s,t,λlb Y=>⟨by omega,by omega,λv1=>?_⟩⟩⟩⟩⟩,λ_=>vM⟩,λ_=>vM⟩;have Z:0<=at_+y:=by omega
  generalize at_+y=b' at*;have he:b'+1+r<=c.toks.length/\0<=r:=by omega
  generalize hee:b'+1+r=d at*;have a:qiG c.toks.length (l++ [⟨lb,b',d, -1⟩]):=by
   refine⟨λx hx=>?_,λj x hx=>?_⟩
   ·rcases qCk.1 hx with hx|hx
    ·exact q.1 x hx
    ·simp at hx;subst hx;simp only;omega
   ·by_cases e:j<l.length
    ·rw[qCK e]at hx;exact q.2 j x hx
    ·rw[qCG (by omega)]at hx;have hx:=qCg hx;simp at hx;subst hx;simp only;omega
  refine bc (X:=Value×List yz) [0,1,4,6,8] [] (λx=>x.2.length<=l.length+2/\qiG c.toks.length x.2) (λ_=>[]) (λx=>[(1, .box b [enc c.attrs,enc c.toks,enc c.texts,enc c.regs, .own 61 x.1, .v (.slice none 0 0), .v (.slice none 0 0)]),(61, .row x.1 vT 4 (x.2.map enc))]) ?_ ?_
  ·simp[h1,PK,mu,rq];refineλu hu0 hu1=>⟨λ_=>⟨by simp only[InR];omega,by omega,λE hy2=>⟨by simp only[InR];omega,λz2 h p=>⟨h,p,λw _=>⟨by simp only[InR];omega,by simp only[InR];omega,by omega,λy3 hy3=>⟨by simp only[InR];omega,by omega,by omega,λA=>⟨A,l++ [⟨lb,b',d, -1⟩] ++ [⟨w,b'+E,b'+E+1+y3,l.length⟩],⟨by simp,?_⟩, .inl rfl, .inl ⟨rfl,by simp⟩⟩⟩⟩⟩⟩⟩,λ_=>⟨v1,l++ [⟨lb,b',d, -1⟩],⟨by simp,a⟩, .inl rfl, .inl ⟨rfl,by simp⟩⟩⟩
   refine⟨λx hx=>?_,λj x hx=>?_⟩
   ·rcases qCk.1 hx with hx|hx
    ·exact a.1 x hx
    ·simp at hx;subst hx;simp only;omega
   ·by_cases e:j<(l++ [(⟨lb,b',d, -1⟩:yz)]).length
    ·rw[qCK e]at hx;exact a.2 j x hx
    ·rw[qCG (by omega)]at hx;have hx:=qCg hx;simp at hx;subst hx;simp at e;simp only;omega
  ·rintro⟨A,l2⟩ ⟨r1,F⟩;simp only at r1 F;simp;exact⟨by simp only[InR];omega,d,k -1,A,l2,⟨by omega,by omega,by omega,by omega,F⟩,⟨⟨rfl,rfl⟩, .inl (.inl rfl), .inl (.inl rfl)⟩,by omega⟩
end
section
def qed{b:Sg}{H:ab}(t id:Nat)(x:Value)(el n:Nat)(es:List D)(h1:b t= .own id x)(h2:H id=some (.row x el n es)):Wk b H (upd b t (.sub id x n 0 es.length)) H:=by
 intro E a w ⟨h,j,tp,c,d⟩;refine⟨h,j,tp,c,λs=>?_⟩;unfold upd;split
 ·rename_i e;subst e;have h3:=d s;rw[h1]at h3;have k:a.tmps.getD s undef=x:=by
   generalize a.tmps.getD s undef=y at h3;cases h3;rfl
  obtain⟨xs,⟨_,h4⟩,_⟩:=c.sat.ok id _ h2;rw[k];rcases h4 with⟨rfl,h5⟩|⟨g,cap,cur,rfl,_,_,h6,l,_⟩
  ·rw[h5];exact .subnil id n
  ·exact .sub id g es.length cap n 0 es.length _ (qCC _) (qCj _) h6 l (λ_=>by simp)
 ·exact d s
open Cod (enc dec) in
def qrS{X:Type}[Cod X]{H:ab}{id n hi:Nat}{v:Value}{l:List X}(el:Nat)(h:H id=some (.row v el n (l.map enc)))(hh:hi=l.length)(hn:n=Cod.wd X:=by rfl):FrzTo H (.sub id v n 0 hi) (.list n (l.map enc)):=by
 subst hh;have e:((l.map (enc (X:=X))).take l.length).drop 0=l.map enc:=by
  rw[List.drop_zero,qC7 (by simp)]
 refine .sub h (by rw[e]) (λd hd=>?_) (λk c c' h1 h2=>?_)
 ·obtain⟨x,_,rfl⟩:=qCo.1 hd;exact⟨Cod.kn x,(Cod.wid x).trans hn.symm⟩
 ·rw[e,h2]at h1;cases h1;exact .same _
end
end Go.Gv
