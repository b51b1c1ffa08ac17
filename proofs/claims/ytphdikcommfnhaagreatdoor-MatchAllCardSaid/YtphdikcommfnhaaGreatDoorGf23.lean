/- A part of the framework and of the walks: W4 W5 W6 W7. -/
import Derived.Test.YtphdikcommfnhaaGreatDoorGf20
import Derived.Test.YtphdikcommfnhaaGreatDoorGf21
set_option linter.unusedSimpArgs false
set_option linter.unusedVariables false
set_option linter.unusedSectionVars false
set_option maxRecDepth 100000

namespace Go.Gv
open Cod (enc dec)
variable {S S0:Nat->Spc}
def qA{X Y:Type}(_:X)(_:Y):Prop:=True
@[simp] theorem quQ{X Y:Type}(x:X)(y:Y):qA x y=True:=id rfl
def bH{X:Type}(_:X):Prop:=True
abbrev s_r04_First:Spc:=aJ (a1 U8) bH (enc (X:=Bool)) qA
theorem PS:aq yh xb S (a1 U8) bH (enc (X:=Bool)) qA:=by
 rintro c -
 simp[yh,xb]
abbrev s_r04_Next:Spc:=aJ (a1 U8) bH (enc (X:=Bool)) qA
theorem Tg(h1:S uA=s_r04_First):aq AI zG S (a1 U8) bH (enc (X:=Bool)) qA:=by
 rintro c -
 simp[AI,zG,h1,bH]
abbrev s_r04_ValidName:Spc:=aJ (a1 B) bH (enc (X:=Bool)) qA
theorem G4(h1:S uA=s_r04_First)(h2:S CU=s_r04_Next):aq pN oV S (a1 B) bH (enc (X:=Bool)) qA:=by
 rintro s -
 simp[pN,oV,h1,h2,bH]
 intro _ h1 _ h32
 refine⟨by omega,fun c _=>?_⟩
 refine av (X:=Nat) [0] [] (fun k=>k<=s.size) (fun k=>[(3,enc (k:Int))]) (fun _=>[]) (fun k=>s.size -k) 1 (by omega) (by simp) (by simp) ?_
 intro k hk
 simp[h2,bH,InR]
 repeat' first|apply And.intro|intro _
 all_goals first|omega|exact⟨k+1,by omega,by omega,by omega⟩
abbrev s_r01_Units:Spc:=aJ (a1 B) (fun s=>s.size<=100000) (enc (X:=List vO)) qA
theorem PV:aq yj xe S (a1 B) (fun s=>s.size<=100000) (enc (X:=List vO)) qA:=by
 rintro s hs
 have hs:s.size<=100000:=hs
 simp[yj,xe]
 intro b
 refine aS (X:=Value×List vO) [0] [] (fun x=>x.2.length<=100000/\∀u∈x.2,0<=u.pos/\u.pos<=100000) (fun x=>[(3, .own 36 x.1)]) (fun x=>[(36, .row x.1 cH 4 (x.2.map enc))]) ?_ ?_
 ·simp
  refine av (X:=Nat×Value×List vO) [0,8] [] (fun x=>x.1<=s.size/\x.2.2.length<=x.1/\∀u∈x.2.2,0<=u.pos/\u.pos<=x.1) (fun x=>[(3, .own 36 x.2.1)]) (fun x=>[(8, .iter b s x.1),(36, .row x.2.1 cH 4 (x.2.2.map enc))]) (fun x=>s.size -x.1) (0, .slice none 0 0, []) (by simp) (by simp) (by simp[isNilRow]) ?_
  rintro⟨p,v,l⟩ ⟨h1,h2,h3⟩
  simp at h1 h2 h3
  simp
  refine⟨fun hp=>?_,fun hp=>?_⟩
  ·have hw:=Y4 s p hp
   refine aS (X:=Value×List vO) [0,4,5,8] [8] (fun x=>x.2.length<=p/\∀u∈x.2,0<=u.pos/\u.pos<=p) (fun x=>[(3, .own 36 x.1)]) (fun x=>[(36, .row x.1 cH 4 (x.2.map enc))]) ?_ ?_
   ·simp
    refine fun _=>⟨fun h4 _=>?_,fun h4=>⟨v,l,⟨h2,h3⟩,rfl, .inl ⟨rfl,rfl⟩⟩⟩
    obtain⟨a,ha⟩:=cj (l:=l) (k:=l.length -1) (by omega)
    have h5:=h3 a (bh ha)
    simp only[InR]
    refine⟨by omega,fun _=>⟨by omega,by omega,by omega,by omega,fun a' ha'=>?_⟩⟩
    rw[ha]at ha'
    cases ha'
    refine⟨by omega,by omega,by omega,by omega,fun a' ha'=>?_⟩
    rw[ha]at ha'
    cases ha'
    refine⟨v,l.set (l.length -1) ⟨a.r,a.pos,p -a.pos,a.ok⟩,⟨by simpa using h2,fun u hu=>?_⟩,rfl, .inl ⟨rfl,iQ l _ ⟨a.r,a.pos,p -a.pos,a.ok⟩⟩⟩
    rcases qxQ hu with hu|rfl
    ·exact h3 u hu
    ·exact h5
   ·rintro⟨v,l⟩ ⟨h4,h5⟩
    simp at h4 h5
    simp
    refine⟨by omega,by omega,fun v=>⟨p+ (Utf8.decode s p).2,v,l++ [⟨⟨(Utf8.decode s p).1⟩,p,0,false⟩],⟨hw.2,by simp;omega,fun u hu=>?_⟩,⟨rfl, .inl rfl, .inl ⟨rfl,Po l ⟨⟨(Utf8.decode s p).1⟩,p,0,false⟩⟩⟩,by omega⟩⟩
    rcases qwU.1 hu with hu|hu
    ·have:=h5 u hu;omega
    ·simp at hu;subst hu;simp;omega
  ·exact⟨v,l,⟨by omega,fun u hu=>by have:=h3 u hu;omega⟩,by simp⟩
 ·rintro⟨v,l⟩ ⟨h1,h2⟩
  simp at h1 h2
  simp
  refine aS (X:=List vO) [3] [] (fun x=>x.length=l.length) (fun x=>[]) (fun x=>[(36, .row v cH 4 (x.map enc))]) ?_ ?_
  ·simp
   refine fun _=>⟨fun h4 _=>?_,fun h4=>⟨l,rfl, .inl rfl⟩⟩
   obtain⟨a,ha⟩:=cj (l:=l) (k:=l.length -1) (by omega)
   have h5:=h2 a (bh ha)
   simp only[InR]
   refine⟨by omega,fun _ _=>⟨by omega,by omega,by omega,by omega,fun a' ha'=>?_⟩⟩
   rw[ha]at ha'
   cases ha'
   refine⟨by omega,by omega,by omega,by omega,fun a' ha'=>?_⟩
   rw[ha]at ha'
   cases ha'
   exact⟨l.set (l.length -1) ⟨a.r,a.pos,s.size -a.pos,a.ok⟩,by simp, .inl (iQ l _ ⟨a.r,a.pos,s.size -a.pos,a.ok⟩)⟩
  ·intro l h3
   simp
   intro _
   refine ai (X:=List vO) [3] [] l.length (fun k x=>x.length=l.length) (fun x=>[]) (fun x=>[(36, .row v cH 4 (x.map enc))]) l (by simp) (by simp) (by omega) (by simp) (by simp) (by simp) (by simp) (by simp) ?_ ?_
   ·intro k x hk h4
    simp
    obtain⟨a,ha⟩:=cj (l:=x) (k:=k) (by omega)
    simp[ha]
    have hkx:k < x.length:=by omega
    exact⟨hkx,fun _=>⟨hkx,x.set k ⟨a.r,a.pos,a.sz,decide (a.sz=3)⟩,by simpa using h4, .inl (iQ x k ⟨a.r,a.pos,a.sz,decide (a.sz=3)⟩)⟩,fun _=>⟨hkx,x.set k ⟨a.r,a.pos,a.sz,true⟩,by simpa using h4, .inl (iQ x k ⟨a.r,a.pos,a.sz,true⟩)⟩⟩
   ·intro x h4
    simp
    exact cm x (gh cH (by simp)) trivial
abbrev s_r01_Valid:Spc:=aJ (a1 B) (fun s=>s.size<=100000) (enc (X:=Bool)) qA
theorem PU(h1:S Au=s_r01_Units):aq yi xc S (a1 B) (fun s=>s.size<=100000) (enc (X:=Bool)) qA:=by
 rintro s hs
 have hs:s.size<=100000:=hs
 simp[yi,xc,h1]
 refine⟨hs,fun l _=>?_⟩
 refine ai (X:=Unit) [6] [] l.length (fun _ _=>True) (fun _=>[]) (fun _=>[]) () (by simp) (by simp) (by omega) (by simp) (by simp) trivial (by simp) (by simp) ?_ ?_
 ·intro k _ hk _
  simp[hk]
 ·intro _ _
  simp
def sf(s:B)(y:Int):Prop:=y=0->s.size<=120
abbrev s_r04_ValidValue:Spc:=aJ (a1 B) bH (enc (X:=Int)) sf
theorem E4(h1:S At=s_r01_Valid):aq oc mY S (a1 B) bH (enc (X:=Int)) sf:=by
 rintro s -
 simp[oc,mY,h1]
 refine fun _=>⟨fun h h'=>by omega,fun hs=>⟨by omega,fun h'=>by omega,fun hlen=>?_⟩⟩
 refine ai (X:=Unit) [12] [] (s.data.toList.length) (fun _ _=>True) (fun _=>[]) (fun _=>[]) () (by simp) (by simp) (by simpa using hlen) (by simp) (by simp) trivial (by simp) (by simp) ?_ ?_
 ·intro k _ hk _
  simp at hk
  simp[hk,sf]
 ·intro _ _
  simp[sf]
  omega
abbrev s_r05_Parse:Spc:=aJ (a1 B) bH (ww (Y:=List B) (Z:=Int)) qA
theorem PR(h1:S fU=s_r04_ValidValue):aq yg xa S (a1 B) bH (ww (Y:=List B) (Z:=Int)) qA:=by
 rintro s -
 simp[yg,xa,h1,bH]
 intro e he he0 _ hne
 have hs:=he he0
 have hpos:0 < s.size:=by
  rcases qyK s.size with h|h
  ·exact absurd (ByteArray.size_eq_zero_iff.1 h) hne
  ·exact h
 refine⟨hpos,fun c _ _=>⟨by simp[InR];omega,by omega,by omega,fun c' _ _=>?_⟩⟩
 refine av (X:=Nat×Nat×Value×List B) [0,5] [] (fun x=>1<=x.1/\x.1<=s.size/\x.2.1<=x.1/\x.2.2.2.length<=x.1) (fun x=>[(8,enc (x.1:Int)),(7,enc (x.2.1:Int)),(6, .own 49 x.2.2.1)]) (fun x=>[(49, .row x.2.2.1 au 1 (x.2.2.2.map enc))]) (fun x=>s.size -x.1) (1,1, .slice none 0 0, []) (by simp;omega) (by simp) (by simp[isNilRow]) ?_
 rintro⟨i,fr,v,l⟩ ⟨q1,q2,q3,q4⟩
 simp at q1 q2 q3 q4
 simp
 refine⟨fun hi=>⟨hi,fun c _=>⟨fun _=>⟨by simp[InR];omega,i+1,fr,v,l,⟨by omega,by omega,by omega,by omega⟩,⟨⟨rfl,rfl,rfl⟩, .inl ⟨rfl,rfl⟩⟩,by omega⟩,fun _ _=>⟨by omega,by omega,by omega,by omega,fun v=>⟨by simp[InR];omega,i+1,i+1,v,l++ [s.extract fr i],⟨by omega,by omega,by omega,by simp;omega⟩,⟨⟨rfl,rfl,rfl⟩, .inl ⟨rfl,Po l _⟩⟩,by omega⟩⟩⟩⟩,fun _=>?_⟩
 refine av (X:=Nat) [6] [49] (fun x=>1<=x/\x<=l.length+1) (fun x=>[(9,enc (x:Int))]) (fun x=>[]) (fun x=>l.length+1 -x) 1 (by simp) (by simp) (by simp) ?_
 intro k hk
 simp
 exact fun _=>⟨fun _=>⟨by simp[InR];omega,by omega,by omega,by omega,fun _ _=>⟨by omega,fun _ _ _=>⟨by simp[InR];omega,k+1,by omega,by omega,by omega⟩⟩⟩,fun _=>⟨l,gh au (by simp)⟩⟩
end Go.Gv

namespace Go.Gv
open Cod (enc dec)
variable {S S0:Nat->Spc}
theorem zu{X:Type}[Cod X](l:List X)(k:Nat):List.take k (List.map enc l)=List.map enc (List.take k l):=List.map_take.symm
theorem qcF{X:Type}[Cod X](l:List X)(k:Nat):List.drop k (List.map enc l)=List.map enc (List.drop k l):=List.map_drop.symm
abbrev s_r06_sign:Spc:=aJ (a1 Bool) bH (enc (X:=Int)) qA
theorem Te:aq AG zD S (a1 Bool) bH (enc (X:=Int)) qA:=by
 rintro s -
 simp[AG,zD, -Bool.forall_bool]
abbrev s_r06_compare:Spc:=aJ (a2 B B) bH (enc (X:=Int)) qA
theorem Lg:aq tI sP S (a2 B B) bH (enc (X:=Int)) qA:=by
 rintro⟨a,b⟩ -
 simp[tI,sP]
abbrev s_r06_CompareRegions:Spc:=aJ (a2 Region Region) bH (enc (X:=Int)) qA
theorem zh(h1:S CQ=s_r06_sign)(h2:S vq=s_r06_compare):aq iN iD S (a2 Region Region) bH (enc (X:=Int)) qA:=by
 rintro⟨a,b⟩ -
 simp[iN,iD,h1,h2,bH, -Bool.forall_bool]
 intro _ _ _
 refine av (X:=Nat) [2,3] [] (fun k=>True) (fun k=>[(5,enc (k:Int))]) (fun _=>[]) (fun k=>a.kv.length -k) 0 trivial (by simp) (by simp) ?_
 intro k _
 simp[h1,h2,bH, -Bool.forall_bool]
 repeat' first|apply And.intro|intro _
 all_goals first|omega|(simp only[InR];omega)|exact⟨k+1,by omega,by omega⟩
abbrev s_r06_Attributes:Spc:=aJ (a1 (List Attr)) bH (ww (Y:=Int) (Z:=Int)) qA
theorem E1(h1:S dc=s_r04_ValidName):aq oa mX S (a1 (List Attr)) bH (ww (Y:=Int) (Z:=Int)) qA:=by
 rintro l -
 simp[oa,mX,h1,bH, -Bool.forall_bool]
 intro _ _ _ _ _
 refine ai (X:=Unit) [0,14] [] (l.length) (fun _ _=>True) (fun _=>[]) (fun _=>[]) () (by simp) (by simp) (by first|omega|(simp;omega)) (by simp) (by simp) trivial (by simp) (by simp) ?_ ?_
 ·intro k _ hk _
  obtain⟨x,hx⟩:=cj hk
  simp[h1,bH, -Bool.forall_bool,hx,hk]
  refine fun b=>⟨by omega,fun _=>?_⟩
  refine ai (X:=Unit) [0,4,5,14,15,16,28] [5] (min k l.length) (fun _ _=>True) (fun _=>[]) (fun _=>[]) () (by simp) (by simp) (by first|omega|(simp;omega)) (by simp) (by simp) trivial (by simp) (by simp) ?_ ?_
  ·intro j _ hj _
   obtain⟨y,hy⟩:∃y,(l.take k)[j]? =some y:=cj (by simpa using hj)
   simp[hy,zu, -List.map_take]
   simpa using hj
  ·intro _ _
   simp
 ·intro _ _
  simp
abbrev s_r06_Value:Spc:=aJ (a2 Attr B) bH (enc (X:=Int)) qA
theorem PO(h1:S As=s_r05_Parse)(h2:S fU=s_r04_ValidValue):aq yd wX S (a2 Attr B) bH (enc (X:=Int)) qA:=by
 rintro⟨a,b⟩ -
 simp[yd,wX,h1,h2,bH, -Bool.forall_bool]
abbrev s_r06_pairs:Spc:=aJ (a1 (List Pair)) bH (enc (X:=Int)) qA
theorem PM(h1:S dc=s_r04_ValidName)(h2:S fU=s_r04_ValidValue):aq yb wV S (a1 (List Pair)) bH (enc (X:=Int)) qA:=by
 rintro l -
 simp[yb,wV,h1,h2,bH, -Bool.forall_bool]
 intro _ _ _
 refine ai (X:=Unit) [0,9] [] (l.length) (fun _ _=>True) (fun _=>[]) (fun _=>[]) () (by simp) (by simp) (by first|omega|(simp;omega)) (by simp) (by simp) trivial (by simp) (by simp) ?_ ?_
 ·intro k _ hk _
  obtain⟨x,hx⟩:=cj hk
  simp[h1,h2,bH, -Bool.forall_bool,hx,hk]
  ((repeat' first|apply And.intro|intro _) <;> first|omega|(simp only[InR];omega)|assumption|trivial)
 ·intro _ _
  simp
abbrev s_r06_within:Spc:=aJ (a3 Corpus Int Int) bH (enc (X:=Bool)) qA
theorem Nu:aq vz uO S (a3 Corpus Int Int) bH (enc (X:=Bool)) qA:=by
 rintro⟨c,x,y⟩ -
 simp[vz,uO, -Bool.forall_bool]
 intro _
 refine ai (X:=Unit) [1,2,10] [] (c.texts.length) (fun _ _=>True) (fun _=>[]) (fun _=>[]) () (by simp) (by simp) (by first|omega|(simp;omega)) (by simp) (by simp) trivial (by simp) (by simp) ?_ ?_
 ·intro k _ hk _
  obtain⟨t,ht⟩:=cj hk
  simp[ht,hk, -Bool.forall_bool]
 ·intro _ _
  simp
abbrev s_r06_bare:Spc:=aJ (a2 (List Int) (List B)) (fun x=>x.1.length=x.2.length) (enc (X:=Bool)) qA
theorem Tf:aq AH zF S (a2 (List Int) (List B)) (fun x=>x.1.length=x.2.length) (enc (X:=Bool)) qA:=by
 rintro⟨l,r⟩ hl
 have hl:l.length=r.length:=hl
 simp[AH,zF, -Bool.forall_bool]
 intro _
 refine ai (X:=Unit) [0,1] [] (l.length) (fun _ _=>True) (fun _=>[]) (fun _=>[]) () (by simp) (by simp) (by first|omega|(simp;omega)) (by simp) (by simp) trivial (by simp) (by simp) ?_ ?_
 ·intro k _ hk _
  obtain⟨t,ht⟩:=cj hk
  obtain⟨u,hu⟩:=cj (l:=r) (k:=k) (by omega)
  have hk2:k < r.length:=by omega
  simp[ht,hu,hk,hk2, -Bool.forall_bool]
 ·intro _ _
  simp
abbrev s_r06_TextAt:Spc:=aJ (a2 Corpus Int) bH (enc (X:=Int)) qA
theorem Nx:aq vC uR S (a2 Corpus Int) bH (enc (X:=Int)) qA:=by
 rintro⟨c,x⟩ -
 simp[vC,uR, -Bool.forall_bool]
 intro _
 refine ai (X:=Unit) [1,8] [] (c.texts.length) (fun _ _=>True) (fun _=>[]) (fun _=>[]) () (by simp) (by simp) (by first|omega|(simp;omega)) (by simp) (by simp) trivial (by simp) (by simp) ?_ ?_
 ·intro k _ hk _
  obtain⟨t,ht⟩:=cj hk
  simp[ht,hk, -Bool.forall_bool]
 ·intro _ _
  simp
abbrev s_r06_FindText:Spc:=aJ (a2 Corpus B) bH (enc (X:=Int)) qA
theorem Im:aq rD qX S (a2 Corpus B) bH (enc (X:=Int)) qA:=by
 rintro⟨c,x⟩ -
 simp[rD,qX, -Bool.forall_bool]
 intro _
 refine ai (X:=Unit) [1,8] [] (c.texts.length) (fun _ _=>True) (fun _=>[]) (fun _=>[]) () (by simp) (by simp) (by first|omega|(simp;omega)) (by simp) (by simp) trivial (by simp) (by simp) ?_ ?_
 ·intro k _ hk _
  obtain⟨t,ht⟩:=cj hk
  simp[ht,hk, -Bool.forall_bool]
 ·intro _ _
  simp
abbrev s_r06_sameAttributes:Spc:=aJ (a2 (List Attr) (List Attr)) bH (enc (X:=Bool)) qA
theorem zg:aq iM iC S (a2 (List Attr) (List Attr)) bH (enc (X:=Bool)) qA:=by
 rintro⟨l,r⟩ -
 simp[iM,iC, -Bool.forall_bool]
 intro _ _ he _
 refine ai (X:=Unit) [0,1] [] (l.length) (fun _ _=>True) (fun _=>[]) (fun _=>[]) () (by simp) (by simp) (by first|omega|(simp;omega)) (by simp) (by simp) trivial (by simp) (by simp) ?_ ?_
 ·intro k _ hk _
  obtain⟨t,ht⟩:=cj hk
  obtain⟨u,hu⟩:=cj (l:=r) (k:=k) (by omega)
  have hk2:k < r.length:=by omega
  simp[ht,hu,hk,hk2, -Bool.forall_bool]
 ·intro _ _
  simp
abbrev s_r06_cyclic:Spc:=aJ (a2 (List Int) Int) (fun x=>0<=x.2/\x.2 < x.1.length) (enc (X:=Bool)) qA
theorem Nw:aq vB uQ S (a2 (List Int) Int) (fun x=>0<=x.2/\x.2 < x.1.length) (enc (X:=Bool)) qA:=by
 rintro⟨l,i⟩ hl
 have hl:0<=i/\i < l.length:=hl
 simp[vB,uQ, -Bool.forall_bool]
 intro _
 refine ai (X:=Int) [0,1] [] l.length (fun _ a=>0<=a/\a < l.length) (fun a=>[(5,enc a)]) (fun _=>[]) i (by simp) (by simp) (by omega) (by simp) (by simp) hl (by simp) (by simp) ?_ ?_
 ·intro k a hk ha
  simp[-Bool.forall_bool]
  refine⟨ha.1,ha.2,fun b _ h1 _ h2 _=>⟨h1,h2⟩⟩
 ·intro _ _
  simp
abbrev s_r06_tokens:Spc:=aJ (a1 Corpus) bH (ww (Y:=Int) (Z:=Int)) qA
theorem Nv(h1:S Ap=s_r06_Value):aq vA uP S (a1 Corpus) bH (ww (Y:=Int) (Z:=Int)) qA:=by
 rintro c -
 simp[vA,uP,h1,bH, -Bool.forall_bool]
 intro _ _ _
 refine ai (X:=Unit) [1,14] [] (c.toks.length) (fun _ _=>True) (fun _=>[]) (fun _=>[]) () (by simp) (by simp) (by first|omega|(simp;omega)) (by simp) (by simp) trivial (by simp) (by simp) ?_ ?_
 ·intro k _ hk _
  obtain⟨t,ht⟩:=cj hk
  simp[ht,hk, -Bool.forall_bool]
  intro hl1 hl2 hle hl3
  refine ai (X:=Unit) [1,4,14,15,16,28] [] (c.toks[k].length) (fun _ _=>True) (fun _=>[]) (fun _=>[]) () (by simp) (by simp) (by first|omega|(simp;omega)) (by simp) (by simp) trivial (by simp) (by simp) ?_ ?_
  ·intro j _ hj _
   have hj2:j < c.attrs.length:=by omega
   simp[hj,hj2,h1,bH, -Bool.forall_bool]
  ·intro _ _
   simp
 ·intro _ _
  simp
abbrev s_r06_texts:Spc:=aJ (a1 Corpus) bH (ww (Y:=Int) (Z:=Int)) qA
theorem PL(h1:S dc=s_r04_ValidName)(h2:S uz=s_r06_pairs):aq ya wU S (a1 Corpus) bH (ww (Y:=Int) (Z:=Int)) qA:=by
 rintro c -
 simp[ya,wU,h1,h2,bH, -Bool.forall_bool]
 intro _ _ _ _ _ _
 refine ai (X:=Int) [1,4,26] [] c.texts.length (fun _ _=>True) (fun a=>[(5,enc a)]) (fun _=>[]) 0 (by simp) (by simp) (by omega) (by simp) (by simp) trivial (by simp) (by simp) ?_ ?_
 ·intro k a hk _
  obtain⟨t,ht⟩:=cj hk
  simp[ht,hk,h1,bH, -Bool.forall_bool]
  refine fun b=>⟨by omega,fun _=>?_⟩
  refine ai (X:=Unit) [1,4,5,6,7,26,27,28,41] [7] (min k c.texts.length) (fun _ _=>True) (fun _=>[]) (fun _=>[]) () (by simp) (by simp) (by first|omega|(simp;omega)) (by simp) (by simp) trivial (by simp) (by simp) ?_ ?_
  ·intro j _ hj _
   obtain⟨y,hy⟩:∃y,(c.texts.take k)[j]? =some y:=cj (by simpa using hj)
   simp[hy,zu, -List.map_take]
   simpa using hj
  ·intro _ _
   simp[h2,bH, -Bool.forall_bool]
   ((repeat' first|apply And.intro|intro _) <;> first|omega|(simp only[InR];omega)|assumption|trivial)
 ·intro _ _
  simp
abbrev s_r06_regions:Spc:=aJ (a1 Corpus) bH (ww (Y:=Int) (Z:=Int)) qA
theorem Lf(h1:S dc=s_r04_ValidName)(h2:S uz=s_r06_pairs)(h3:S sa=s_r06_within)(h4:S fp=s_r06_CompareRegions):aq tH sO S (a1 Corpus) bH (ww (Y:=Int) (Z:=Int)) qA:=by
 rintro c -
 simp[tH,sO,h1,h2,h3,h4,bH, -Bool.forall_bool]
 intro _ _ _
 refine ai (X:=Unit) [1,15] [] (c.regs.length) (fun _ _=>True) (fun _=>[]) (fun _=>[]) () (by simp) (by simp) (by first|omega|(simp;omega)) (by simp) (by simp) trivial (by simp) (by simp) ?_ ?_
 ·intro k _ hk _
  obtain⟨t,ht⟩:=cj hk
  simp[ht,hk,h1,h2,h3,h4,bH, -Bool.forall_bool]
  refine fun b=>⟨fun h0=>⟨by simp only[InR];omega,by omega,by omega,fun a _ y _=>⟨by simp only[InR];omega,by omega,by omega,fun _=>?_⟩⟩,fun h0=>⟨by simp only[InR];omega,by omega,by omega,fun _=>?_⟩⟩
  all_goals
   refine ai (X:=Nat) [1,4,5,15,16,17,62] [5] (min (k+1) c.regs.length) (fun j d=>d<=j) (fun d=>[(7,enc (d:Int))]) (fun _=>[]) 0 (by simp) (by simp) (by omega) (by simp) (by simp) (by omega) (by simp) (by simp) ?_ ?_
   ·intro j d hj hd
    obtain⟨y,hy⟩:∃y,(c.regs.take (k+1))[j]? =some y:=cj (by simpa using hj)
    simp[hy,zu, -List.map_take, -Bool.forall_bool]
    repeat' first|apply And.intro|intro _
    all_goals first|omega|(simp only[InR];omega)|exact⟨d,by omega,by omega⟩|exact⟨d+1,by omega,by omega⟩|(simp;omega)|skip
   ·intro d hd
    simp
 ·intro _ _
  simp
end Go.Gv

namespace Go.Gv
open Cod (enc dec)
variable {S S0:Nat->Spc}
def Xf(x:List wF×Corpus):Prop:=∀ (j:Nat) (y:wF),x.1[j]? =some y->y.par < j
abbrev s_r06_Nodes:Spc:=aJ (a2 (List wF) Corpus) Xf (ww (Y:=Int) (Z:=Int)) qA
theorem PQ(h1:S dc=s_r04_ValidName)(h3:S sa=s_r06_within):aq yf wZ S (a2 (List wF) Corpus) Xf (ww (Y:=Int) (Z:=Int)) qA:=by
 rintro⟨l,c⟩ hp
 have hp:∀ (j:Nat) (y:wF),l[j]? =some y->y.par < j:=hp
 simp[yf,wZ,h1,h3,bH, -Bool.forall_bool]
 intro _ _ _
 refine⟨by omega,by omega,fun x _=>?_⟩
 refine ai (X:=List Int) [0,3,18] [] l.length (fun _ d=>d.length=l.length/\∀a∈d,0<=a/\a<=40) (fun _=>[(6, .own 17 x)]) (fun d=>[(17, .row x iw 1 (d.map enc))]) (List.replicate l.length 0) (by simp) (by simp) (by omega) (by simp) (by simp) (by simp) (by simp) (by simp) ?_ ?_
 ·rintro k d hk ⟨hd1,hd2⟩
  obtain⟨t,ht⟩:=cj hk
  have htp:=hp k t ht
  have ht':=qwP.1 ht
  obtain⟨_,ht'⟩:=ht'
  simp[ht,ht',hk,h1,h3,bH, -Bool.forall_bool]
  refine fun b=>⟨by simp only[InR];omega,?_⟩
  refine aS (X:=Int) [0,3,6,7,8,18,19,20] [8,17] (fun _=>True) (fun a=>[(9,enc a)]) (fun _=>[]) ?_ ?_
  ·simp
   refine av (X:=Int) [0,3,6,7,8,18,19,20] [8,17] (fun a=>a < k) (fun a=>[(9,enc a)]) (fun _=>[]) (fun a=>(a+1).toNat) ((k:Int) -1) (by omega) (by simp) (by simp) ?_
   intro a ha
   simp
   intro h0 _
   refine⟨h0,by omega,fun y hy=>?_⟩
   have:=hp a.toNat y hy
   exact⟨y.par,by omega,rfl,by omega⟩
  ·intro a _
   refine aS (X:=Unit) [0,3,6,7,8,18,19,20] [8,17] (fun _=>True) (fun _=>[]) (fun _=>[]) ?_ ?_
   ·simp
   ·rintro - -
    refine aS (X:=List Int) [0,3,6,7,8,18,19,20] [8] (fun d=>d.length=l.length/\∀a∈d,0<=a/\a<=40) (fun _=>[]) (fun d=>[(17, .row x iw 1 (d.map enc))]) ?_ ?_
    ·simp
     refine⟨fun h0=>⟨h0,by omega,fun y _ _ _=>⟨h0,by omega,by omega,fun a2 ha2=>⟨by omega,fun a3 _=>⟨d.set k a2,⟨by simpa using hd1,fun a4 h4=>?_⟩, .inl (iQ d k a2)⟩⟩⟩⟩,fun _=>⟨d,⟨hd1,hd2⟩, .inl rfl⟩⟩
     rcases qxQ h4 with h4|rfl
     ·exact hd2 _ h4
     ·exact hd2 _ (bh ha2)
    ·rintro d ⟨hd1,hd2⟩
     refine aS (X:=Unit) [0,3,6,7,18,19,20] [17] (fun _=>True) (fun _=>[]) (fun _=>[]) ?_ ?_
     ·simp
      refine⟨by simp only[InR];omega,?_⟩
      refine av (X:=Int) [0,3,6,7,8,18,19,20] [8,17] (fun a=>a < k) (fun a=>[(11,enc a)]) (fun _=>[]) (fun a=>(a+1).toNat) ((k:Int) -1) (by omega) (by simp) (by simp) ?_
      intro a ha
      simp
      exact fun h0=>⟨h0,by omega,fun y _=>⟨fun _=>⟨h0,by omega⟩,fun _=>⟨by simp only[InR];omega,a -1,by omega,rfl,by omega⟩⟩⟩
     ·rintro - -
      simp
      refine⟨by omega,fun a2 ha2=>?_⟩
      have h4:=hd2 _ (bh ha2)
      refine⟨by simp only[InR];omega,by omega,fun _ _=>⟨by omega,fun d1 h5=>?_⟩⟩
      have hkd:k < d.length:=by omega
      rw[qxV (by simpa using hkd)]at h5
      cases h5
      simp
      refine fun h6=>⟨d.set k (a2+1),⟨by simpa using hd1,fun a4 h4=>?_⟩, .inl (iQ d k (a2+1))⟩
      rcases qxQ h4 with h4|rfl
      ·exact hd2 _ h4
      ·omega
 ·intro d hd
  simp
def Xd(c:Corpus):Prop:=True
abbrev s_r06_heads:Spc:=aJ (a1 Corpus) Xd (ww (Y:=Int) (Z:=Int)) qA
theorem PN(h1:S dc=s_r04_ValidName)(h3:S CT=s_r06_bare)(h4:S xN=s_r06_TextAt)(h5:S xM=s_r06_cyclic):aq yc wW S (a1 Corpus) Xd (ww (Y:=Int) (Z:=Int)) qA:=by
 rintro c -
 simp[yc,wW,h1,h3,h4,h5,bH, -Bool.forall_bool]
 intro _
 refine aS (X:=Unit) [1,4] [] (fun _=>c.heads.length=c.rels.length) (fun _=>[]) (fun _=>[]) ?_ ?_
 ·simp
  ((repeat' first|apply And.intro|intro _) <;> first|omega|(simp only[InR];omega)|assumption|trivial)
 ·rintro -hl
  refine aS (X:=Unit) [1,4] [] (fun _=>True) (fun _=>[]) (fun _=>[]) ?_ ?_
  ·simp[h1,h3,h4,h5,bH,hl, -Bool.forall_bool]
  ·rintro - -
   simp
   intro _
   refine ai (X:=Unit) [1,4,36] [] (c.heads.length) (fun _ _=>True) (fun _=>[]) (fun _=>[]) () (by simp) (by simp) (by first|omega|(simp;omega)) (by simp) (by simp) trivial (by simp) (by simp) ?_ ?_
   ·intro k _ hk _
    have hk2:k < c.rels.length:=by omega
    simp[hk,hk2]
    refine aS (X:=Unit) [1,4,5,36,37,38] [] (fun _=>True) (fun _=>[]) (fun _=>[]) ?_ ?_
    ·simp[h1,h3,h4,h5,bH,hk,hk2,hl, -Bool.forall_bool]
    ·rintro - -
     refine aS (X:=Unit) [1,4,5,36,37,38] [] (fun _=>True) (fun _=>[]) (fun _=>[]) ?_ ?_
     ·simp[h1,h3,h4,h5,bH,hk,hk2,hl, -Bool.forall_bool]
     ·rintro - -
      simp[h1,h3,h4,h5,bH,hk,hk2,hl, -Bool.forall_bool]
   ·intro _ _
    simp
def qf(c:Corpus):Prop:=∀ (j:Nat) (y:wF),c.nodes[j]? =some y->y.par < j
abbrev s_r06_Validate:Spc:=aJ (a1 Corpus) qf (qhj (Y:=Int) (Z:=Int) (W:=Int)) qA
theorem Il(h1:S pF=s_r06_Attributes)(h2:S xL=s_r06_tokens)(h3:S An=s_r06_texts)(h4:S vp=s_r06_regions)(h5:S Ar=s_r06_Nodes)(h6:S Ao=s_r06_heads):aq rC qW S (a1 Corpus) qf (qhj (Y:=Int) (Z:=Int) (W:=Int)) qA:=by
 rintro c hc
 simp[rC,qW,h1,h2,h3,h4,h5,h6,bH, -Bool.forall_bool]
 exact⟨hc,trivial⟩
abbrev s_r06_Valid:Spc:=aJ (a1 Corpus) qf (enc (X:=Bool)) qA
theorem PP(h1:S tn=s_r06_Validate):aq ye wY S (a1 Corpus) qf (enc (X:=Bool)) qA:=by
 rintro c hc
 simp[ye,wY,h1,bH, -Bool.forall_bool]
 exact hc
end Go.Gv

namespace Go.Gv
open Cod (enc dec)
variable {S S0:Nat->Spc}
theorem qji{α:Type}(m:List α)(bl x:α)(j:Nat)(hj:j<=m.length):(List.take (j+1) (m++ [bl]) ++ (List.take (m.length -j) (List.drop j (List.take (m.length+1) (m++ [bl]))) ++List.drop (j+1+min (m.length+1-j) (m.length-j)) (m++ [bl]))).set j x=m.take j++x::m.drop j:=by
 have h1:List.take (m.length+1) (m++ [bl])=m++ [bl]:=qyt (by simp)
 have h2:List.drop j (m++ [bl])=m.drop j++ [bl]:=List.drop_append_of_le_length hj
 have h3:List.take (m.length -j) (m.drop j++ [bl])=m.drop j:=by rw[List.take_left'];simp
 have h4:List.drop (j+1+min (m.length+1-j) (m.length-j)) (m++ [bl])=[]:=List.drop_of_length_le (by simp;omega)
 rw[h1,h2,h3,h4,qxY]
 have h5:List.take (j+1) (m++[bl])=m.take j++ [(m++ [bl])[j]'(by simp;omega)]:=by
  rw[List.take_succ_eq_append_getElem (by simp;omega),List.take_append_of_le_length hj]
 rw[h5,qxD,List.set_append_right _ _ (by simp;omega)]
 simp[hj]
theorem qfF{α:Type}{m:List α}{bl x:α}{j n:Nat}(hn:m.length=n)(hj:j<=n):(List.take (j+1) (m++ [bl]) ++ (List.take (n -j) (List.drop j (List.take (n+1) (m++ [bl]))) ++List.drop (j+1+min (n+1-j) (n-j)) (m++ [bl]))).set j x=m.take j++x::m.drop j:=by
 subst hn;exact qji m bl x j hj
def qdz(l m:List Region):Prop:=m.length=l.length/\∀x∈m,x∈l
def U6(l:List Region):Prop:=l.length<=1000000
abbrev s_r06_SortRegions:Spc:=aJ (a1 (List Region)) U6 (enc (X:=List Region)) qdz
theorem De(h1:S fp=s_r06_CompareRegions):aq lW lF S (a1 (List Region)) U6 (enc (X:=List Region)) qdz:=by
 rintro l hl
 have hl:l.length<=1000000:=hl
 simp[lW,lF, -Bool.forall_bool]
 intro _
 refine ai (X:=Value×List Region) [7] [] l.length (fun k x=>x.2.length=k/\∀y∈x.2,y∈l) (fun x=>[(3, .own 32 x.1)]) (fun x=>[(32, .row x.1 mr 4 (x.2.map enc))]) (.slice none 0 0, []) (by simp) (by simp) (by omega) (by simp) (by simp) (by simp) (by simp) (by simp[isNilRow]) ?_ ?_
 ·rintro k ⟨v,m⟩ hk ⟨hm1,hm2⟩
  simp at hm1 hm2
  simp[hk]
  refine fun b _=>?_
  refine aS (X:=Nat) [3,5,7,8,9] [5,32] (fun x=>x<=m.length) (fun x=>[(6,enc (x:Int))]) (fun x=>[]) ?_ ?_
  ·simp
   refine av (X:=Nat) [3,5,7,8,9] [5,32] (fun x=>x<=m.length) (fun x=>[(6,enc (x:Int))]) (fun x=>[]) (fun x=>x) m.length (by simp) (by simp) (by simp) ?_
   intro j hj
   simp[h1,bH]
   refine⟨fun h0=>⟨by simp only[InR];omega,by omega,by omega,by omega,fun a _ y=>⟨fun _=>⟨by simp only[InR];omega,j -1,by omega,by omega,by omega⟩,fun _=>⟨j,hj,rfl⟩⟩⟩,fun _=>⟨j,hj,rfl⟩⟩
  ·intro j hj
   simp
   have hx:D.agg [D.v (Value.string l[k].ty),D.v (Value.int IntKind.i64 l[k].b),D.v (Value.int IntKind.i64 l[k].e),D.list 2 (List.map enc l[k].kv)]=enc l[k]:=by simp
   refine⟨by omega,by omega,fun v=>⟨by simp only[InR];omega,by omega,by omega,by omega,by omega,by omega,fun d _=>⟨v,m.take j++l[k]::m.drop j,⟨by simp;omega,fun y hy=>?_⟩,rfl, .inl ⟨rfl,?_⟩⟩⟩⟩
   ·rcases qwU.1 hy with h|h
    ·exact hm2 _ (qxc h)
    ·rcases qwT.1 h with rfl|h
     ·exact qyb hk
     ·exact hm2 _ (qxJ h)
   ·refine(qfF (by simp) hj).trans ?_
    rw[hx,zu,qcF,qyi,qxf]
 ·rintro⟨v,m⟩ ⟨hm1,hm2⟩
  simp at hm1 hm2
  simp
  exact cm m (gh mr (by simp)) ⟨hm1,hm2⟩
def BR(s:Int):List ua->Int->Prop
 | [],e=>s=e
 | t::r,e=>t.b=s/\t.b < t.e/\BR t.e r e
def SN(c:Corpus):Prop:=BR 0 c.texts c.toks.length/\c.texts≠ []/\c.toks.length<=4096/\c.texts.length<=64/\c.regs.length<=1024/\c.nodes.length<=2048/\c.attrs.length<=1000/\c.heads.length<=c.toks.length/\c.rels.length<=c.toks.length/\
 (∀x∈c.regs,0<=x.b/\x.b<=c.toks.length/\0<=x.e/\x.e<=c.toks.length)/\(∀x∈c.nodes,0<=x.b/\x.b<=c.toks.length/\0<=x.e/\x.e<=c.toks.length)/\(∀ (j:Nat) (y:wF),c.nodes[j]? =some y->y.par < j)/\∀h∈c.heads,h<=c.toks.length
def KX(c:Corpus)(x:List Int×List B):Prop:=(∀h∈x.1,h<=c.toks.length)/\x.1.length<=c.toks.length/\x.2.length<=c.toks.length
abbrev s_r06_allHeads:Spc:=aJ (a1 Corpus) SN (ww (Y:=List Int) (Z:=List B)) KX
theorem Ik:aq rB qV S (a1 Corpus) SN (ww (Y:=List Int) (Z:=List B)) KX:=by
 rintro c hc
 obtain⟨c1,c2,c3,c4,c5,c6,c7,c8,c9,c10,c11,c12,c13⟩:=hc
 simp[rB,qV, -Bool.forall_bool]
 refine fun _=>⟨fun _=>⟨c.heads, .same _,c.rels, .same _,c13,c8,c9⟩,fun _ _=>⟨by omega,by omega,fun v _=>?_⟩⟩
 refine ai (X:=List Int) [1] [] c.toks.length (fun k x=>x.length=c.toks.length/\∀ (j:Nat) (y:Int),x[j]? =some y->j < k->y= -1) (fun x=>[(4, .own 17 v)]) (fun x=>[(17, .row v iw 1 (x.map enc))]) (List.replicate c.toks.length 0) (by simp) (by simp) (by omega) (by simp) (by simp) (by simp) (by simp) (by simp) ?_ ?_
 ·rintro k m hk ⟨hm1,hm2⟩
  simp
  refine⟨by omega,fun a _=>⟨m.set k (-1),⟨by simpa using hm1,fun j y hy hj=>?_⟩, .inl (iQ m k (-1))⟩⟩
  rw[List.getElem?_set]at hy
  split at hy
  ·split at hy
   ·cases hy;rfl
   ·cases hy
  ·exact hm2 j y hy (by omega)
 ·rintro m ⟨hm1,hm2⟩
  simp
  refine fun _=>⟨by omega,by omega,fun x=>⟨m,gh iw (by simp),List.replicate c.toks.length ⟨#[]⟩,gh au (by simp),fun y hy=>?_,by show m.length<=_;omega,by simp⟩⟩
  obtain⟨j,hj⟩:=qxk.1 hy
  have:=hm2 j y hj (by have:=(qwP.1 hj).1;have h9:j < m.length:=this;omega)
  omega
end Go.Gv
