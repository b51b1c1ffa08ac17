/- A part of the framework and of the walks: W4 W5 W6 W7. -/
import Derived.Test.YtphdikcommfnhaaGreatDoorGg20
import Derived.Test.YtphdikcommfnhaaGreatDoorGg21
set_option linter.unusedSimpArgs false
set_option linter.unusedVariables false
set_option linter.unusedSectionVars false
set_option maxRecDepth 100000

namespace Go.Gv
open Cod (enc dec)
variable {S S0:Nat->Spc}
def pk{X Y:Type}(_:X)(_:Y):Prop:=True
@[simp] theorem qrG{X Y:Type}(x:X)(y:Y):pk x y=True:=id rfl
def bD{X:Type}(_:X):Prop:=True
abbrev s_r04_First:Spc:=aS (a1 U8) bD (enc (X:=Bool)) pk
theorem NN:aq wK vI S (a1 U8) bD (enc (X:=Bool)) pk:=by
 rintro c -
 simp[wK,vI]
abbrev s_r04_Next:Spc:=aS (a1 U8) bD (enc (X:=Bool)) pk
theorem QK(h1:S tg=s_r04_First):aq zl yg S (a1 U8) bD (enc (X:=Bool)) pk:=by
 rintro c -
 simp[zl,yg,h1,bD]
abbrev s_r04_ValidName:Spc:=aS (a1 B) bD (enc (X:=Bool)) pk
theorem Fn(h1:S tg=s_r04_First)(h2:S Bz=s_r04_Next):aq od nD S (a1 B) bD (enc (X:=Bool)) pk:=by
 rintro s -
 simp[od,nD,h1,h2,bD]
 intro _ h1 _ h32
 refine⟨by omega,fun c _=>?_⟩
 refine ar (X:=Nat) [0] [] (fun k=>k<=s.size) (fun k=>[(3,enc (k:Int))]) (fun _=>[]) (fun k=>s.size -k) 1 (by omega) (by simp) (by simp) ?_
 intro k hk
 simp[h2,bD,InR]
 repeat' first|apply And.intro|intro _
 all_goals first|omega|exact⟨k+1,by omega,by omega,by omega⟩
abbrev s_r01_Units:Spc:=aS (a1 B) (fun s=>s.size<=100000) (enc (X:=List uz)) pk
theorem NP:aq wM vK S (a1 B) (fun s=>s.size<=100000) (enc (X:=List uz)) pk:=by
 rintro s hs
 have hs:s.size<=100000:=hs
 simp[wM,vK]
 intro b
 refine ba (X:=Value×List uz) [0] [] (fun x=>x.2.length<=100000/\∀u∈x.2,0<=u.pos/\u.pos<=100000) (fun x=>[(3, .own 36 x.1)]) (fun x=>[(36, .row x.1 cn 4 (x.2.map enc))]) ?_ ?_
 ·simp
  refine ar (X:=Nat×Value×List uz) [0,8] [] (fun x=>x.1<=s.size/\x.2.2.length<=x.1/\∀u∈x.2.2,0<=u.pos/\u.pos<=x.1) (fun x=>[(3, .own 36 x.2.1)]) (fun x=>[(8, .iter b s x.1),(36, .row x.2.1 cn 4 (x.2.2.map enc))]) (fun x=>s.size -x.1) (0, .slice none 0 0, []) (by simp) (by simp) (by simp[isNilRow]) ?_
  rintro⟨p,v,l⟩ ⟨h1,h2,h3⟩
  simp at h1 h2 h3
  simp
  refine⟨fun hp=>?_,fun hp=>?_⟩
  ·have hw:=Wv s p hp
   refine ba (X:=Value×List uz) [0,4,5,8] [8] (fun x=>x.2.length<=p/\∀u∈x.2,0<=u.pos/\u.pos<=p) (fun x=>[(3, .own 36 x.1)]) (fun x=>[(36, .row x.1 cn 4 (x.2.map enc))]) ?_ ?_
   ·simp
    refine fun _=>⟨fun h4 _=>?_,fun h4=>⟨v,l,⟨h2,h3⟩,rfl, .inl ⟨rfl,rfl⟩⟩⟩
    obtain⟨a,ha⟩:=dM (l:=l) (k:=l.length -1) (by omega)
    have h5:=h3 a (dO ha)
    simp only[InR]
    refine⟨by omega,fun _=>⟨by omega,by omega,by omega,by omega,fun a' ha'=>?_⟩⟩
    rw[ha]at ha'
    cases ha'
    refine⟨by omega,by omega,by omega,by omega,fun a' ha'=>?_⟩
    rw[ha]at ha'
    cases ha'
    refine⟨v,l.set (l.length -1) ⟨a.r,a.pos,p -a.pos,a.ok⟩,⟨by simpa using h2,fun u hu=>?_⟩,rfl, .inl ⟨rfl,ia l _ ⟨a.r,a.pos,p -a.pos,a.ok⟩⟩⟩
    rcases quI hu with hu|rfl
    ·exact h3 u hu
    ·exact h5
   ·rintro⟨v,l⟩ ⟨h4,h5⟩
    simp at h4 h5
    simp
    refine⟨by omega,by omega,fun v=>⟨p+ (Utf8.decode s p).2,v,l++ [⟨⟨(Utf8.decode s p).1⟩,p,0,false⟩],⟨hw.2,by simp;omega,fun u hu=>?_⟩,⟨rfl, .inl rfl, .inl ⟨rfl,Nm l ⟨⟨(Utf8.decode s p).1⟩,p,0,false⟩⟩⟩,by omega⟩⟩
    rcases qtK.1 hu with hu|hu
    ·have:=h5 u hu;omega
    ·simp at hu;subst hu;simp;omega
  ·exact⟨v,l,⟨by omega,fun u hu=>by have:=h3 u hu;omega⟩,by simp⟩
 ·rintro⟨v,l⟩ ⟨h1,h2⟩
  simp at h1 h2
  simp
  refine ba (X:=List uz) [3] [] (fun x=>x.length=l.length) (fun x=>[]) (fun x=>[(36, .row v cn 4 (x.map enc))]) ?_ ?_
  ·simp
   refine fun _=>⟨fun h4 _=>?_,fun h4=>⟨l,rfl, .inl rfl⟩⟩
   obtain⟨a,ha⟩:=dM (l:=l) (k:=l.length -1) (by omega)
   have h5:=h2 a (dO ha)
   simp only[InR]
   refine⟨by omega,fun _ _=>⟨by omega,by omega,by omega,by omega,fun a' ha'=>?_⟩⟩
   rw[ha]at ha'
   cases ha'
   refine⟨by omega,by omega,by omega,by omega,fun a' ha'=>?_⟩
   rw[ha]at ha'
   cases ha'
   exact⟨l.set (l.length -1) ⟨a.r,a.pos,s.size -a.pos,a.ok⟩,by simp, .inl (ia l _ ⟨a.r,a.pos,s.size -a.pos,a.ok⟩)⟩
  ·intro l h3
   simp
   intro _
   refine ai (X:=List uz) [3] [] l.length (fun k x=>x.length=l.length) (fun x=>[]) (fun x=>[(36, .row v cn 4 (x.map enc))]) l (by simp) (by simp) (by omega) (by simp) (by simp) (by simp) (by simp) (by simp) ?_ ?_
   ·intro k x hk h4
    simp
    obtain⟨a,ha⟩:=dM (l:=x) (k:=k) (by omega)
    simp[ha]
    have hkx:k < x.length:=by omega
    exact⟨hkx,fun _=>⟨hkx,x.set k ⟨a.r,a.pos,a.sz,decide (a.sz=3)⟩,by simpa using h4, .inl (ia x k ⟨a.r,a.pos,a.sz,decide (a.sz=3)⟩)⟩,fun _=>⟨hkx,x.set k ⟨a.r,a.pos,a.sz,true⟩,by simpa using h4, .inl (ia x k ⟨a.r,a.pos,a.sz,true⟩)⟩⟩
   ·intro x h4
    simp
    exact cB x (gP cn (by simp)) trivial
abbrev s_r01_Valid:Spc:=aS (a1 B) (fun s=>s.size<=100000) (enc (X:=Bool)) pk
theorem NO(h1:S yV=s_r01_Units):aq wL vJ S (a1 B) (fun s=>s.size<=100000) (enc (X:=Bool)) pk:=by
 rintro s hs
 have hs:s.size<=100000:=hs
 simp[wL,vJ,h1]
 refine⟨hs,fun l _=>?_⟩
 refine ai (X:=Unit) [6] [] l.length (fun _ _=>True) (fun _=>[]) (fun _=>[]) () (by simp) (by simp) (by omega) (by simp) (by simp) trivial (by simp) (by simp) ?_ ?_
 ·intro k _ hk _
  simp[hk]
 ·intro _ _
  simp
def qM(s:B)(y:Int):Prop:=y=0->s.size<=120
abbrev s_r04_ValidValue:Spc:=aS (a1 B) bD (enc (X:=Int)) qM
theorem DE(h1:S yU=s_r01_Valid):aq nc ma S (a1 B) bD (enc (X:=Int)) qM:=by
 rintro s -
 simp[nc,ma,h1]
 refine fun _=>⟨fun h h'=>by omega,fun hs=>⟨by omega,fun h'=>by omega,fun hlen=>?_⟩⟩
 refine ai (X:=Unit) [12] [] (s.data.toList.length) (fun _ _=>True) (fun _=>[]) (fun _=>[]) () (by simp) (by simp) (by simpa using hlen) (by simp) (by simp) trivial (by simp) (by simp) ?_ ?_
 ·intro k _ hk _
  simp at hk
  simp[hk,qM]
 ·intro _ _
  simp[qM]
  omega
abbrev s_r05_Parse:Spc:=aS (a1 B) bD (xb (Y:=List B) (Z:=Int)) pk
theorem NM(h1:S fw=s_r04_ValidValue):aq wJ vH S (a1 B) bD (xb (Y:=List B) (Z:=Int)) pk:=by
 rintro s -
 simp[wJ,vH,h1,bD]
 intro e he he0 _ hne
 have hs:=he he0
 have hpos:0 < s.size:=by
  rcases qvC s.size with h|h
  ·exact absurd (ByteArray.size_eq_zero_iff.1 h) hne
  ·exact h
 refine⟨hpos,fun c _ _=>⟨by simp[InR];omega,by omega,by omega,fun c' _ _=>?_⟩⟩
 refine ar (X:=Nat×Nat×Value×List B) [0,5] [] (fun x=>1<=x.1/\x.1<=s.size/\x.2.1<=x.1/\x.2.2.2.length<=x.1) (fun x=>[(8,enc (x.1:Int)),(7,enc (x.2.1:Int)),(6, .own 49 x.2.2.1)]) (fun x=>[(49, .row x.2.2.1 ay 1 (x.2.2.2.map enc))]) (fun x=>s.size -x.1) (1,1, .slice none 0 0, []) (by simp;omega) (by simp) (by simp[isNilRow]) ?_
 rintro⟨i,fr,v,l⟩ ⟨q1,q2,q3,q4⟩
 simp at q1 q2 q3 q4
 simp
 refine⟨fun hi=>⟨hi,fun c _=>⟨fun _=>⟨by simp[InR];omega,i+1,fr,v,l,⟨by omega,by omega,by omega,by omega⟩,⟨⟨rfl,rfl,rfl⟩, .inl ⟨rfl,rfl⟩⟩,by omega⟩,fun _ _=>⟨by omega,by omega,by omega,by omega,fun v=>⟨by simp[InR];omega,i+1,i+1,v,l++ [s.extract fr i],⟨by omega,by omega,by omega,by simp;omega⟩,⟨⟨rfl,rfl,rfl⟩, .inl ⟨rfl,Nm l _⟩⟩,by omega⟩⟩⟩⟩,fun _=>?_⟩
 refine ar (X:=Nat) [6] [49] (fun x=>1<=x/\x<=l.length+1) (fun x=>[(9,enc (x:Int))]) (fun x=>[]) (fun x=>l.length+1 -x) 1 (by simp) (by simp) (by simp) ?_
 intro k hk
 simp
 exact fun _=>⟨fun _=>⟨by simp[InR];omega,by omega,by omega,by omega,fun _ _=>⟨by omega,fun _ _ _=>⟨by simp[InR];omega,k+1,by omega,by omega,by omega⟩⟩⟩,fun _=>⟨l,gP ay (by simp)⟩⟩
end Go.Gv

namespace Go.Gv
open Cod (enc dec)
variable {S S0:Nat->Spc}
theorem xW{X:Type}[Cod X](l:List X)(k:Nat):List.take k (List.map enc l)=List.map enc (List.take k l):=List.map_take.symm
theorem Z7{X:Type}[Cod X](l:List X)(k:Nat):List.drop k (List.map enc l)=List.map enc (List.drop k l):=List.map_drop.symm
abbrev s_r06_sign:Spc:=aS (a1 Bool) bD (enc (X:=Int)) pk
theorem QI:aq zi ye S (a1 Bool) bD (enc (X:=Int)) pk:=by
 rintro s -
 simp[zi,ye, -Bool.forall_bool]
abbrev s_r06_compare:Spc:=aS (a2 B B) bD (enc (X:=Int)) pk
theorem Jg:aq sj rp S (a2 B B) bD (enc (X:=Int)) pk:=by
 rintro⟨a,b⟩ -
 simp[sj,rp]
abbrev s_r06_CompareRegions:Spc:=aS (a2 Region Region) bD (enc (X:=Int)) pk
theorem xN(h1:S Bw=s_r06_sign)(h2:S tY=s_r06_compare):aq gY gL S (a2 Region Region) bD (enc (X:=Int)) pk:=by
 rintro⟨a,b⟩ -
 simp[gY,gL,h1,h2,bD, -Bool.forall_bool]
 intro _ _ _
 refine ar (X:=Nat) [2,3] [] (fun k=>True) (fun k=>[(5,enc (k:Int))]) (fun _=>[]) (fun k=>a.kv.length -k) 0 trivial (by simp) (by simp) ?_
 intro k _
 simp[h1,h2,bD, -Bool.forall_bool]
 repeat' first|apply And.intro|intro _
 all_goals first|omega|(simp only[InR];omega)|exact⟨k+1,by omega,by omega⟩
abbrev s_r06_Attributes:Spc:=aS (a1 (List Attr)) bD (xb (Y:=Int) (Z:=Int)) pk
theorem DD(h1:S cL=s_r04_ValidName):aq nb lZ S (a1 (List Attr)) bD (xb (Y:=Int) (Z:=Int)) pk:=by
 rintro l -
 simp[nb,lZ,h1,bD, -Bool.forall_bool]
 intro _ _ _ _ _
 refine ai (X:=Unit) [0,14] [] (l.length) (fun _ _=>True) (fun _=>[]) (fun _=>[]) () (by simp) (by simp) (by first|omega|(simp;omega)) (by simp) (by simp) trivial (by simp) (by simp) ?_ ?_
 ·intro k _ hk _
  obtain⟨x,hx⟩:=dM hk
  simp[h1,bD, -Bool.forall_bool,hx,hk]
  refine fun b=>⟨by omega,fun _=>?_⟩
  refine ai (X:=Unit) [0,4,5,14,15,16,28] [5] (min k l.length) (fun _ _=>True) (fun _=>[]) (fun _=>[]) () (by simp) (by simp) (by first|omega|(simp;omega)) (by simp) (by simp) trivial (by simp) (by simp) ?_ ?_
  ·intro j _ hj _
   obtain⟨y,hy⟩:∃y,(l.take k)[j]? =some y:=dM (by simpa using hj)
   simp[hy,xW, -List.map_take]
   simpa using hj
  ·intro _ _
   simp
 ·intro _ _
  simp
abbrev s_r06_Value:Spc:=aS (a2 Attr B) bD (enc (X:=Int)) pk
theorem NJ(h1:S yT=s_r05_Parse)(h2:S fw=s_r04_ValidValue):aq wG vE S (a2 Attr B) bD (enc (X:=Int)) pk:=by
 rintro⟨a,b⟩ -
 simp[wG,vE,h1,h2,bD, -Bool.forall_bool]
abbrev s_r06_pairs:Spc:=aS (a1 (List Pair)) bD (enc (X:=Int)) pk
theorem NH(h1:S cL=s_r04_ValidName)(h2:S fw=s_r04_ValidValue):aq wE vC S (a1 (List Pair)) bD (enc (X:=Int)) pk:=by
 rintro l -
 simp[wE,vC,h1,h2,bD, -Bool.forall_bool]
 intro _ _ _
 refine ai (X:=Unit) [0,9] [] (l.length) (fun _ _=>True) (fun _=>[]) (fun _=>[]) () (by simp) (by simp) (by first|omega|(simp;omega)) (by simp) (by simp) trivial (by simp) (by simp) ?_ ?_
 ·intro k _ hk _
  obtain⟨x,hx⟩:=dM hk
  simp[h1,h2,bD, -Bool.forall_bool,hx,hk]
  ((repeat' first|apply And.intro|intro _) <;> first|omega|(simp only[InR];omega)|assumption|trivial)
 ·intro _ _
  simp
abbrev s_r06_within:Spc:=aS (a3 Corpus Int Int) bD (enc (X:=Bool)) pk
theorem Lv:aq uh tC S (a3 Corpus Int Int) bD (enc (X:=Bool)) pk:=by
 rintro⟨c,x,y⟩ -
 simp[uh,tC, -Bool.forall_bool]
 intro _
 refine ai (X:=Unit) [1,2,10] [] (c.texts.length) (fun _ _=>True) (fun _=>[]) (fun _=>[]) () (by simp) (by simp) (by first|omega|(simp;omega)) (by simp) (by simp) trivial (by simp) (by simp) ?_ ?_
 ·intro k _ hk _
  obtain⟨t,ht⟩:=dM hk
  simp[ht,hk, -Bool.forall_bool]
 ·intro _ _
  simp
abbrev s_r06_bare:Spc:=aS (a2 (List Int) (List B)) (fun x=>x.1.length=x.2.length) (enc (X:=Bool)) pk
theorem QJ:aq zj yf S (a2 (List Int) (List B)) (fun x=>x.1.length=x.2.length) (enc (X:=Bool)) pk:=by
 rintro⟨l,r⟩ hl
 have hl:l.length=r.length:=hl
 simp[zj,yf, -Bool.forall_bool]
 intro _
 refine ai (X:=Unit) [0,1] [] (l.length) (fun _ _=>True) (fun _=>[]) (fun _=>[]) () (by simp) (by simp) (by first|omega|(simp;omega)) (by simp) (by simp) trivial (by simp) (by simp) ?_ ?_
 ·intro k _ hk _
  obtain⟨t,ht⟩:=dM hk
  obtain⟨u,hu⟩:=dM (l:=r) (k:=k) (by omega)
  have hk2:k < r.length:=by omega
  simp[ht,hu,hk,hk2, -Bool.forall_bool]
 ·intro _ _
  simp
abbrev s_r06_TextAt:Spc:=aS (a2 Corpus Int) bD (enc (X:=Int)) pk
theorem Ly:aq ul tF S (a2 Corpus Int) bD (enc (X:=Int)) pk:=by
 rintro⟨c,x⟩ -
 simp[ul,tF, -Bool.forall_bool]
 intro _
 refine ai (X:=Unit) [1,8] [] (c.texts.length) (fun _ _=>True) (fun _=>[]) (fun _=>[]) () (by simp) (by simp) (by first|omega|(simp;omega)) (by simp) (by simp) trivial (by simp) (by simp) ?_ ?_
 ·intro k _ hk _
  obtain⟨t,ht⟩:=dM hk
  simp[ht,hk, -Bool.forall_bool]
 ·intro _ _
  simp
abbrev s_r06_FindText:Spc:=aS (a2 Corpus B) bD (enc (X:=Int)) pk
theorem Gt:aq ql pN S (a2 Corpus B) bD (enc (X:=Int)) pk:=by
 rintro⟨c,x⟩ -
 simp[ql,pN, -Bool.forall_bool]
 intro _
 refine ai (X:=Unit) [1,8] [] (c.texts.length) (fun _ _=>True) (fun _=>[]) (fun _=>[]) () (by simp) (by simp) (by first|omega|(simp;omega)) (by simp) (by simp) trivial (by simp) (by simp) ?_ ?_
 ·intro k _ hk _
  obtain⟨t,ht⟩:=dM hk
  simp[ht,hk, -Bool.forall_bool]
 ·intro _ _
  simp
abbrev s_r06_sameAttributes:Spc:=aS (a2 (List Attr) (List Attr)) bD (enc (X:=Bool)) pk
theorem xM:aq gX gK S (a2 (List Attr) (List Attr)) bD (enc (X:=Bool)) pk:=by
 rintro⟨l,r⟩ -
 simp[gX,gK, -Bool.forall_bool]
 intro _ _ he _
 refine ai (X:=Unit) [0,1] [] (l.length) (fun _ _=>True) (fun _=>[]) (fun _=>[]) () (by simp) (by simp) (by first|omega|(simp;omega)) (by simp) (by simp) trivial (by simp) (by simp) ?_ ?_
 ·intro k _ hk _
  obtain⟨t,ht⟩:=dM hk
  obtain⟨u,hu⟩:=dM (l:=r) (k:=k) (by omega)
  have hk2:k < r.length:=by omega
  simp[ht,hu,hk,hk2, -Bool.forall_bool]
 ·intro _ _
  simp
abbrev s_r06_cyclic:Spc:=aS (a2 (List Int) Int) (fun x=>0<=x.2/\x.2 < x.1.length) (enc (X:=Bool)) pk
theorem Lx:aq uj tE S (a2 (List Int) Int) (fun x=>0<=x.2/\x.2 < x.1.length) (enc (X:=Bool)) pk:=by
 rintro⟨l,i⟩ hl
 have hl:0<=i/\i < l.length:=hl
 simp[uj,tE, -Bool.forall_bool]
 intro _
 refine ai (X:=Int) [0,1] [] l.length (fun _ a=>0<=a/\a < l.length) (fun a=>[(5,enc a)]) (fun _=>[]) i (by simp) (by simp) (by omega) (by simp) (by simp) hl (by simp) (by simp) ?_ ?_
 ·intro k a hk ha
  simp[-Bool.forall_bool]
  refine⟨ha.1,ha.2,fun b _ h1 _ h2 _=>⟨h1,h2⟩⟩
 ·intro _ _
  simp
abbrev s_r06_tokens:Spc:=aS (a1 Corpus) bD (xb (Y:=Int) (Z:=Int)) pk
theorem Lw(h1:S yQ=s_r06_Value):aq ui tD S (a1 Corpus) bD (xb (Y:=Int) (Z:=Int)) pk:=by
 rintro c -
 simp[ui,tD,h1,bD, -Bool.forall_bool]
 intro _ _ _
 refine ai (X:=Unit) [1,14] [] (c.toks.length) (fun _ _=>True) (fun _=>[]) (fun _=>[]) () (by simp) (by simp) (by first|omega|(simp;omega)) (by simp) (by simp) trivial (by simp) (by simp) ?_ ?_
 ·intro k _ hk _
  obtain⟨t,ht⟩:=dM hk
  simp[ht,hk, -Bool.forall_bool]
  intro hl1 hl2 hle hl3
  refine ai (X:=Unit) [1,4,14,15,16,28] [] (c.toks[k].length) (fun _ _=>True) (fun _=>[]) (fun _=>[]) () (by simp) (by simp) (by first|omega|(simp;omega)) (by simp) (by simp) trivial (by simp) (by simp) ?_ ?_
  ·intro j _ hj _
   have hj2:j < c.attrs.length:=by omega
   simp[hj,hj2,h1,bD, -Bool.forall_bool]
  ·intro _ _
   simp
 ·intro _ _
  simp
abbrev s_r06_texts:Spc:=aS (a1 Corpus) bD (xb (Y:=Int) (Z:=Int)) pk
theorem NG(h1:S cL=s_r04_ValidName)(h2:S tf=s_r06_pairs):aq wD vB S (a1 Corpus) bD (xb (Y:=Int) (Z:=Int)) pk:=by
 rintro c -
 simp[wD,vB,h1,h2,bD, -Bool.forall_bool]
 intro _ _ _ _ _ _
 refine ai (X:=Int) [1,4,26] [] c.texts.length (fun _ _=>True) (fun a=>[(5,enc a)]) (fun _=>[]) 0 (by simp) (by simp) (by omega) (by simp) (by simp) trivial (by simp) (by simp) ?_ ?_
 ·intro k a hk _
  obtain⟨t,ht⟩:=dM hk
  simp[ht,hk,h1,bD, -Bool.forall_bool]
  refine fun b=>⟨by omega,fun _=>?_⟩
  refine ai (X:=Unit) [1,4,5,6,7,26,27,28,41] [7] (min k c.texts.length) (fun _ _=>True) (fun _=>[]) (fun _=>[]) () (by simp) (by simp) (by first|omega|(simp;omega)) (by simp) (by simp) trivial (by simp) (by simp) ?_ ?_
  ·intro j _ hj _
   obtain⟨y,hy⟩:∃y,(c.texts.take k)[j]? =some y:=dM (by simpa using hj)
   simp[hy,xW, -List.map_take]
   simpa using hj
  ·intro _ _
   simp[h2,bD, -Bool.forall_bool]
   ((repeat' first|apply And.intro|intro _) <;> first|omega|(simp only[InR];omega)|assumption|trivial)
 ·intro _ _
  simp
abbrev s_r06_regions:Spc:=aS (a1 Corpus) bD (xb (Y:=Int) (Z:=Int)) pk
theorem Jf(h1:S cL=s_r04_ValidName)(h2:S tf=s_r06_pairs)(h3:S qJ=s_r06_within)(h4:S eQ=s_r06_CompareRegions):aq sf ro S (a1 Corpus) bD (xb (Y:=Int) (Z:=Int)) pk:=by
 rintro c -
 simp[sf,ro,h1,h2,h3,h4,bD, -Bool.forall_bool]
 intro _ _ _
 refine ai (X:=Unit) [1,15] [] (c.regs.length) (fun _ _=>True) (fun _=>[]) (fun _=>[]) () (by simp) (by simp) (by first|omega|(simp;omega)) (by simp) (by simp) trivial (by simp) (by simp) ?_ ?_
 ·intro k _ hk _
  obtain⟨t,ht⟩:=dM hk
  simp[ht,hk,h1,h2,h3,h4,bD, -Bool.forall_bool]
  refine fun b=>⟨fun h0=>⟨by simp only[InR];omega,by omega,by omega,fun a _ y _=>⟨by simp only[InR];omega,by omega,by omega,fun _=>?_⟩⟩,fun h0=>⟨by simp only[InR];omega,by omega,by omega,fun _=>?_⟩⟩
  all_goals
   refine ai (X:=Nat) [1,4,5,15,16,17,62] [5] (min (k+1) c.regs.length) (fun j d=>d<=j) (fun d=>[(7,enc (d:Int))]) (fun _=>[]) 0 (by simp) (by simp) (by omega) (by simp) (by simp) (by omega) (by simp) (by simp) ?_ ?_
   ·intro j d hj hd
    obtain⟨y,hy⟩:∃y,(c.regs.take (k+1))[j]? =some y:=dM (by simpa using hj)
    simp[hy,xW, -List.map_take, -Bool.forall_bool]
    repeat' first|apply And.intro|intro _
    all_goals first|omega|(simp only[InR];omega)|exact⟨d,by omega,by omega⟩|exact⟨d+1,by omega,by omega⟩|(simp;omega)|skip
   ·intro d hd
    simp
 ·intro _ _
  simp
end Go.Gv

namespace Go.Gv
open Cod (enc dec)
variable {S S0:Nat->Spc}
def Ux(x:List vk×Corpus):Prop:=∀ (j:Nat) (y:vk),x.1[j]? =some y->y.par < j
abbrev s_r06_Nodes:Spc:=aS (a2 (List vk) Corpus) Ux (xb (Y:=Int) (Z:=Int)) pk
theorem NL(h1:S cL=s_r04_ValidName)(h3:S qJ=s_r06_within):aq wI vG S (a2 (List vk) Corpus) Ux (xb (Y:=Int) (Z:=Int)) pk:=by
 rintro⟨l,c⟩ hp
 have hp:∀ (j:Nat) (y:vk),l[j]? =some y->y.par < j:=hp
 simp[wI,vG,h1,h3,bD, -Bool.forall_bool]
 intro _ _ _
 refine⟨by omega,by omega,fun x _=>?_⟩
 refine ai (X:=List Int) [0,3,18] [] l.length (fun _ d=>d.length=l.length/\∀a∈d,0<=a/\a<=40) (fun _=>[(6, .own 17 x)]) (fun d=>[(17, .row x gE 1 (d.map enc))]) (List.replicate l.length 0) (by simp) (by simp) (by omega) (by simp) (by simp) (by simp) (by simp) (by simp) ?_ ?_
 ·rintro k d hk ⟨hd1,hd2⟩
  obtain⟨t,ht⟩:=dM hk
  have htp:=hp k t ht
  have ht':=qtG.1 ht
  obtain⟨_,ht'⟩:=ht'
  simp[ht,ht',hk,h1,h3,bD, -Bool.forall_bool]
  refine fun b=>⟨by simp only[InR];omega,?_⟩
  refine ba (X:=Int) [0,3,6,7,8,18,19,20] [8,17] (fun _=>True) (fun a=>[(9,enc a)]) (fun _=>[]) ?_ ?_
  ·simp
   refine ar (X:=Int) [0,3,6,7,8,18,19,20] [8,17] (fun a=>a < k) (fun a=>[(9,enc a)]) (fun _=>[]) (fun a=>(a+1).toNat) ((k:Int) -1) (by omega) (by simp) (by simp) ?_
   intro a ha
   simp
   intro h0 _
   refine⟨h0,by omega,fun y hy=>?_⟩
   have:=hp a.toNat y hy
   exact⟨y.par,by omega,rfl,by omega⟩
  ·intro a _
   refine ba (X:=Unit) [0,3,6,7,8,18,19,20] [8,17] (fun _=>True) (fun _=>[]) (fun _=>[]) ?_ ?_
   ·simp
   ·rintro - -
    refine ba (X:=List Int) [0,3,6,7,8,18,19,20] [8] (fun d=>d.length=l.length/\∀a∈d,0<=a/\a<=40) (fun _=>[]) (fun d=>[(17, .row x gE 1 (d.map enc))]) ?_ ?_
    ·simp
     refine⟨fun h0=>⟨h0,by omega,fun y _ _ _=>⟨h0,by omega,by omega,fun a2 ha2=>⟨by omega,fun a3 _=>⟨d.set k a2,⟨by simpa using hd1,fun a4 h4=>?_⟩, .inl (ia d k a2)⟩⟩⟩⟩,fun _=>⟨d,⟨hd1,hd2⟩, .inl rfl⟩⟩
     rcases quI h4 with h4|rfl
     ·exact hd2 _ h4
     ·exact hd2 _ (dO ha2)
    ·rintro d ⟨hd1,hd2⟩
     refine ba (X:=Unit) [0,3,6,7,18,19,20] [17] (fun _=>True) (fun _=>[]) (fun _=>[]) ?_ ?_
     ·simp
      refine⟨by simp only[InR];omega,?_⟩
      refine ar (X:=Int) [0,3,6,7,8,18,19,20] [8,17] (fun a=>a < k) (fun a=>[(11,enc a)]) (fun _=>[]) (fun a=>(a+1).toNat) ((k:Int) -1) (by omega) (by simp) (by simp) ?_
      intro a ha
      simp
      exact fun h0=>⟨h0,by omega,fun y _=>⟨fun _=>⟨h0,by omega⟩,fun _=>⟨by simp only[InR];omega,a -1,by omega,rfl,by omega⟩⟩⟩
     ·rintro - -
      simp
      refine⟨by omega,fun a2 ha2=>?_⟩
      have h4:=hd2 _ (dO ha2)
      refine⟨by simp only[InR];omega,by omega,fun _ _=>⟨by omega,fun d1 h5=>?_⟩⟩
      have hkd:k < d.length:=by omega
      rw[quO (by simpa using hkd)]at h5
      cases h5
      simp
      refine fun h6=>⟨d.set k (a2+1),⟨by simpa using hd1,fun a4 h4=>?_⟩, .inl (ia d k (a2+1))⟩
      rcases quI h4 with h4|rfl
      ·exact hd2 _ h4
      ·omega
 ·intro d hd
  simp
def Uv(c:Corpus):Prop:=True
abbrev s_r06_heads:Spc:=aS (a1 Corpus) Uv (xb (Y:=Int) (Z:=Int)) pk
theorem NI(h1:S cL=s_r04_ValidName)(h3:S By=s_r06_bare)(h4:S wo=s_r06_TextAt)(h5:S wn=s_r06_cyclic):aq wF vD S (a1 Corpus) Uv (xb (Y:=Int) (Z:=Int)) pk:=by
 rintro c -
 simp[wF,vD,h1,h3,h4,h5,bD, -Bool.forall_bool]
 intro _
 refine ba (X:=Unit) [1,4] [] (fun _=>c.heads.length=c.rels.length) (fun _=>[]) (fun _=>[]) ?_ ?_
 ·simp
  ((repeat' first|apply And.intro|intro _) <;> first|omega|(simp only[InR];omega)|assumption|trivial)
 ·rintro -hl
  refine ba (X:=Unit) [1,4] [] (fun _=>True) (fun _=>[]) (fun _=>[]) ?_ ?_
  ·simp[h1,h3,h4,h5,bD,hl, -Bool.forall_bool]
  ·rintro - -
   simp
   intro _
   refine ai (X:=Unit) [1,4,36] [] (c.heads.length) (fun _ _=>True) (fun _=>[]) (fun _=>[]) () (by simp) (by simp) (by first|omega|(simp;omega)) (by simp) (by simp) trivial (by simp) (by simp) ?_ ?_
   ·intro k _ hk _
    have hk2:k < c.rels.length:=by omega
    simp[hk,hk2]
    refine ba (X:=Unit) [1,4,5,36,37,38] [] (fun _=>True) (fun _=>[]) (fun _=>[]) ?_ ?_
    ·simp[h1,h3,h4,h5,bD,hk,hk2,hl, -Bool.forall_bool]
    ·rintro - -
     refine ba (X:=Unit) [1,4,5,36,37,38] [] (fun _=>True) (fun _=>[]) (fun _=>[]) ?_ ?_
     ·simp[h1,h3,h4,h5,bD,hk,hk2,hl, -Bool.forall_bool]
     ·rintro - -
      simp[h1,h3,h4,h5,bD,hk,hk2,hl, -Bool.forall_bool]
   ·intro _ _
    simp
def oJ(c:Corpus):Prop:=∀ (j:Nat) (y:vk),c.nodes[j]? =some y->y.par < j
abbrev s_r06_Validate:Spc:=aS (a1 Corpus) oJ (qex (Y:=Int) (Z:=Int) (W:=Int)) pk
theorem Gs(h1:S nW=s_r06_Attributes)(h2:S wm=s_r06_tokens)(h3:S yO=s_r06_texts)(h4:S tX=s_r06_regions)(h5:S yS=s_r06_Nodes)(h6:S yP=s_r06_heads):aq qk pM S (a1 Corpus) oJ (qex (Y:=Int) (Z:=Int) (W:=Int)) pk:=by
 rintro c hc
 simp[qk,pM,h1,h2,h3,h4,h5,h6,bD, -Bool.forall_bool]
 exact⟨hc,trivial⟩
abbrev s_r06_Valid:Spc:=aS (a1 Corpus) oJ (enc (X:=Bool)) pk
theorem NK(h1:S rO=s_r06_Validate):aq wH vF S (a1 Corpus) oJ (enc (X:=Bool)) pk:=by
 rintro c hc
 simp[wH,vF,h1,bD, -Bool.forall_bool]
 exact hc
end Go.Gv

namespace Go.Gv
open Cod (enc dec)
variable {S S0:Nat->Spc}
theorem qgp{α:Type}(m:List α)(bl x:α)(j:Nat)(hj:j<=m.length):(List.take (j+1) (m++ [bl]) ++ (List.take (m.length -j) (List.drop j (List.take (m.length+1) (m++ [bl]))) ++List.drop (j+1+min (m.length+1-j) (m.length-j)) (m++ [bl]))).set j x=m.take j++x::m.drop j:=by
 have h1:List.take (m.length+1) (m++ [bl])=m++ [bl]:=qvk (by simp)
 have h2:List.drop j (m++ [bl])=m.drop j++ [bl]:=List.drop_append_of_le_length hj
 have h3:List.take (m.length -j) (m.drop j++ [bl])=m.drop j:=by rw[List.take_left'];simp
 have h4:List.drop (j+1+min (m.length+1-j) (m.length-j)) (m++ [bl])=[]:=List.drop_of_length_le (by simp;omega)
 rw[h1,h2,h3,h4,quE]
 have h5:List.take (j+1) (m++[bl])=m.take j++ [(m++ [bl])[j]'(by simp;omega)]:=by
  rw[List.take_succ_eq_append_getElem (by simp;omega),List.take_append_of_le_length hj]
 rw[h5,qut,List.set_append_right _ _ (by simp;omega)]
 simp[hj]
theorem qc0{α:Type}{m:List α}{bl x:α}{j n:Nat}(hn:m.length=n)(hj:j<=n):(List.take (j+1) (m++ [bl]) ++ (List.take (n -j) (List.drop j (List.take (n+1) (m++ [bl]))) ++List.drop (j+1+min (n+1-j) (n-j)) (m++ [bl]))).set j x=m.take j++x::m.drop j:=by
 subst hn;exact qgp m bl x j hj
def qa3(l m:List Region):Prop:=m.length=l.length/\∀x∈m,x∈l
def Sw(l:List Region):Prop:=l.length<=1000000
abbrev s_r06_SortRegions:Spc:=aS (a1 (List Region)) Sw (enc (X:=List Region)) qa3
theorem BQ(h1:S eQ=s_r06_CompareRegions):aq lg kJ S (a1 (List Region)) Sw (enc (X:=List Region)) qa3:=by
 rintro l hl
 have hl:l.length<=1000000:=hl
 simp[lg,kJ, -Bool.forall_bool]
 intro _
 refine ai (X:=Value×List Region) [7] [] l.length (fun k x=>x.2.length=k/\∀y∈x.2,y∈l) (fun x=>[(3, .own 32 x.1)]) (fun x=>[(32, .row x.1 lz 4 (x.2.map enc))]) (.slice none 0 0, []) (by simp) (by simp) (by omega) (by simp) (by simp) (by simp) (by simp) (by simp[isNilRow]) ?_ ?_
 ·rintro k ⟨v,m⟩ hk ⟨hm1,hm2⟩
  simp at hm1 hm2
  simp[hk]
  refine fun b _=>?_
  refine ba (X:=Nat) [3,5,7,8,9] [5,32] (fun x=>x<=m.length) (fun x=>[(6,enc (x:Int))]) (fun x=>[]) ?_ ?_
  ·simp
   refine ar (X:=Nat) [3,5,7,8,9] [5,32] (fun x=>x<=m.length) (fun x=>[(6,enc (x:Int))]) (fun x=>[]) (fun x=>x) m.length (by simp) (by simp) (by simp) ?_
   intro j hj
   simp[h1,bD]
   refine⟨fun h0=>⟨by simp only[InR];omega,by omega,by omega,by omega,fun a _ y=>⟨fun _=>⟨by simp only[InR];omega,j -1,by omega,by omega,by omega⟩,fun _=>⟨j,hj,rfl⟩⟩⟩,fun _=>⟨j,hj,rfl⟩⟩
  ·intro j hj
   simp
   have hx:D.agg [D.v (Value.string l[k].ty),D.v (Value.int IntKind.i64 l[k].b),D.v (Value.int IntKind.i64 l[k].e),D.list 2 (List.map enc l[k].kv)]=enc l[k]:=by simp
   refine⟨by omega,by omega,fun v=>⟨by simp only[InR];omega,by omega,by omega,by omega,by omega,by omega,fun d _=>⟨v,m.take j++l[k]::m.drop j,⟨by simp;omega,fun y hy=>?_⟩,rfl, .inl ⟨rfl,?_⟩⟩⟩⟩
   ·rcases qtK.1 hy with h|h
    ·exact hm2 _ (qt3 h)
    ·rcases qtM.1 h with rfl|h
     ·exact qu2 hk
     ·exact hm2 _ (quA h)
   ·refine(qc0 (by simp) hj).trans ?_
    rw[hx,xW,Z7,qu9,qt7]
 ·rintro⟨v,m⟩ ⟨hm1,hm2⟩
  simp at hm1 hm2
  simp
  exact cB m (gP lz (by simp)) ⟨hm1,hm2⟩
def Aw(s:Int):List sH->Int->Prop
 | [],e=>s=e
 | t::r,e=>t.b=s/\t.b < t.e/\Aw t.e r e
def Qr(c:Corpus):Prop:=Aw 0 c.texts c.toks.length/\c.texts≠ []/\c.toks.length<=4096/\c.texts.length<=64/\c.regs.length<=1024/\c.nodes.length<=2048/\c.attrs.length<=1000/\c.heads.length<=c.toks.length/\c.rels.length<=c.toks.length/\
 (∀x∈c.regs,0<=x.b/\x.b<=c.toks.length/\0<=x.e/\x.e<=c.toks.length)/\(∀x∈c.nodes,0<=x.b/\x.b<=c.toks.length/\0<=x.e/\x.e<=c.toks.length)/\(∀ (j:Nat) (y:vk),c.nodes[j]? =some y->y.par < j)/\∀h∈c.heads,h<=c.toks.length
def IW(c:Corpus)(x:List Int×List B):Prop:=(∀h∈x.1,h<=c.toks.length)/\x.1.length<=c.toks.length/\x.2.length<=c.toks.length
abbrev s_r06_allHeads:Spc:=aS (a1 Corpus) Qr (xb (Y:=List Int) (Z:=List B)) IW
theorem Gr:aq qj pK S (a1 Corpus) Qr (xb (Y:=List Int) (Z:=List B)) IW:=by
 rintro c hc
 obtain⟨c1,c2,c3,c4,c5,c6,c7,c8,c9,c10,c11,c12,c13⟩:=hc
 simp[qj,pK, -Bool.forall_bool]
 refine fun _=>⟨fun _=>⟨c.heads, .same _,c.rels, .same _,c13,c8,c9⟩,fun _ _=>⟨by omega,by omega,fun v _=>?_⟩⟩
 refine ai (X:=List Int) [1] [] c.toks.length (fun k x=>x.length=c.toks.length/\∀ (j:Nat) (y:Int),x[j]? =some y->j < k->y= -1) (fun x=>[(4, .own 17 v)]) (fun x=>[(17, .row v gE 1 (x.map enc))]) (List.replicate c.toks.length 0) (by simp) (by simp) (by omega) (by simp) (by simp) (by simp) (by simp) (by simp) ?_ ?_
 ·rintro k m hk ⟨hm1,hm2⟩
  simp
  refine⟨by omega,fun a _=>⟨m.set k (-1),⟨by simpa using hm1,fun j y hy hj=>?_⟩, .inl (ia m k (-1))⟩⟩
  rw[List.getElem?_set]at hy
  split at hy
  ·split at hy
   ·cases hy;rfl
   ·cases hy
  ·exact hm2 j y hy (by omega)
 ·rintro m ⟨hm1,hm2⟩
  simp
  refine fun _=>⟨by omega,by omega,fun x=>⟨m,gP gE (by simp),List.replicate c.toks.length ⟨#[]⟩,gP ay (by simp),fun y hy=>?_,by show m.length<=_;omega,by simp⟩⟩
  obtain⟨j,hj⟩:=qt8.1 hy
  have:=hm2 j y hj (by have:=(qtG.1 hj).1;have h9:j < m.length:=this;omega)
  omega
end Go.Gv
