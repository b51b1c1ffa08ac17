/- A part of the framework and of the walks: W5 W6 W7. -/
import Derived.Test.YticbieanhfdnoaaGreatDoorGc24
set_option linter.unusedSimpArgs false
set_option linter.unusedVariables false
set_option maxRecDepth 100000

namespace Go.Gv
open Cod (enc dec)
variable {S S0:Nat→Spc}
theorem rK {X:Type} [Cod X] (l:List X) (k:Nat):List.take k (List.map enc l)=List.map enc (List.take k l):=List.map_take.symm
theorem Od {X:Type} [Cod X] (l:List X) (k:Nat):List.drop k (List.map enc l)=List.map enc (List.drop k l):=List.map_drop.symm
abbrev s_r06_sign:Spc:=cv (a1 Bool) cd (enc (X:=Int)) lz
theorem HQ:aN sL rS S (a1 Bool) cd (enc (X:=Int)) lz:=by
 rintro s -
 simp[sL,rS, -Bool.forall_bool]
abbrev s_r06_compare:Spc:=cv (a2 B B) cd (enc (X:=Int)) lz
theorem B8:aN nA m6 S (a2 B B) cd (enc (X:=Int)) lz:=by
 rintro⟨a,b⟩ -
 simp[nA,m6]
abbrev s_r06_CompareRegions:Spc:=cv (a2 Region Region) cd (enc (X:=Int)) lz
theorem rE (h1:S jy=s_r06_sign) (h2:S eY=s_r06_compare):aN gz gr S (a2 Region Region) cd (enc (X:=Int)) lz:=by
 rintro⟨a,b⟩ -
 simp[gz,gr,h1,h2,cd, -Bool.forall_bool]
 intro _ _ _
 refine bq (X:=Nat) [2,3] [] (fun k=> True) (fun k=> [(5,enc (k:Int))]) (fun _=> []) (fun k=> a.kv.length -k) 0 trivial (by simp) (by simp) ?_
 intro k _
 simp[h1,h2,cd, -Bool.forall_bool]
 repeat' first | apply And.intro | intro _
 all_goals first | omega | (simp only[InR];omega) | exact⟨k+1,by omega,by omega⟩
abbrev s_r06_Attributes:Spc:=cv (a1 (List Attr)) cd (tG (Y:=Int) (Z:=Int)) lz
theorem w5 (h1:S az=s_r04_ValidName):aN kH j2 S (a1 (List Attr)) cd (tG (Y:=Int) (Z:=Int)) lz:=by
 rintro l -
 simp[kH,j2,h1,cd, -Bool.forall_bool]
 intro _ _ _ _ _
 refine aq (X:=Unit) [0,14] [] (l.length) (fun _ _=> True) (fun _=> []) (fun _=> []) () (by simp) (by simp) (by first | omega | (simp;omega)) (by simp) (by simp) trivial (by simp) (by simp) ?_ ?_
 ·intro k _ hk _
  obtain⟨x,hx⟩:=fE hk
  simp[h1,cd, -Bool.forall_bool,hx,hk]
  refine fun b=> ⟨by omega,fun _=> ?_⟩
  refine aq (X:=Unit) [0,4,5,14,15,16,28] [5] (min k l.length) (fun _ _=> True) (fun _=> []) (fun _=> []) () (by simp) (by simp) (by first | omega | (simp;omega)) (by simp) (by simp) trivial (by simp) (by simp) ?_ ?_
  ·intro j _ hj _
   obtain⟨y,hy⟩: ∃y,(l.take k)[j]?=some y:=fE (by simpa using hj)
   simp[hy,rK, -List.map_take]
   simpa using hj
  ·intro _ _
   simp
 ·intro _ _
  simp
abbrev s_r06_Value:Spc:=cv (a2 Attr B) cd (enc (X:=Int)) lz
theorem FC (h1:S lO=s_r05_Parse) (h2:S bH=s_r04_ValidValue):aN qG pW S (a2 Attr B) cd (enc (X:=Int)) lz:=by
 rintro⟨a,b⟩ -
 simp[qG,pW,h1,h2,cd, -Bool.forall_bool]
abbrev s_r06_pairs:Spc:=cv (a1 (List Pair)) cd (enc (X:=Int)) lz
theorem FA (h1:S az=s_r04_ValidName) (h2:S bH=s_r04_ValidValue):aN qE pU S (a1 (List Pair)) cd (enc (X:=Int)) lz:=by
 rintro l -
 simp[qE,pU,h1,h2,cd, -Bool.forall_bool]
 intro _ _ _
 refine aq (X:=Unit) [0,9] [] (l.length) (fun _ _=> True) (fun _=> []) (fun _=> []) () (by simp) (by simp) (by first | omega | (simp;omega)) (by simp) (by simp) trivial (by simp) (by simp) ?_ ?_
 ·intro k _ hk _
  obtain⟨x,hx⟩:=fE hk
  simp[h1,h2,cd, -Bool.forall_bool,hx,hk]
  ((repeat' first | apply And.intro | intro _) <;> first | omega | (simp only[InR];omega) | assumption | trivial)
 ·intro _ _
  simp
abbrev s_r06_within:Spc:=cv (a3 Corpus Int Int) cd (enc (X:=Bool)) lz
theorem DR:aN oW ot S (a3 Corpus Int Int) cd (enc (X:=Bool)) lz:=by
 rintro⟨c,x,y⟩ -
 simp[oW,ot, -Bool.forall_bool]
 intro _
 refine aq (X:=Unit) [1,2,10] [] (c.texts.length) (fun _ _=> True) (fun _=> []) (fun _=> []) () (by simp) (by simp) (by first | omega | (simp;omega)) (by simp) (by simp) trivial (by simp) (by simp) ?_ ?_
 ·intro k _ hk _
  obtain⟨t,ht⟩:=fE hk
  simp[ht,hk, -Bool.forall_bool]
 ·intro _ _
  simp
abbrev s_r06_bare:Spc:=cv (a2 (List Int) (List B)) (fun x=> x.1.length=x.2.length) (enc (X:=Bool)) lz
theorem HR:aN sM rT S (a2 (List Int) (List B)) (fun x=> x.1.length=x.2.length) (enc (X:=Bool)) lz:=by
 rintro⟨l,r⟩ hl
 have hl:l.length=r.length:=hl
 simp[sM,rT, -Bool.forall_bool]
 intro _
 refine aq (X:=Unit) [0,1] [] (l.length) (fun _ _=> True) (fun _=> []) (fun _=> []) () (by simp) (by simp) (by first | omega | (simp;omega)) (by simp) (by simp) trivial (by simp) (by simp) ?_ ?_
 ·intro k _ hk _
  obtain⟨t,ht⟩:=fE hk
  obtain⟨u,hu⟩:=fE (l:=r) (k:=k) (by omega)
  have hk2:k < r.length:=by omega
  simp[ht,hu,hk,hk2, -Bool.forall_bool]
 ·intro _ _
  simp
abbrev s_r06_TextAt:Spc:=cv (a2 Corpus Int) cd (enc (X:=Int)) lz
theorem DU:aN o4 ow S (a2 Corpus Int) cd (enc (X:=Int)) lz:=by
 rintro⟨c,x⟩ -
 simp[o4,ow, -Bool.forall_bool]
 intro _
 refine aq (X:=Unit) [1,8] [] (c.texts.length) (fun _ _=> True) (fun _=> []) (fun _=> []) () (by simp) (by simp) (by first | omega | (simp;omega)) (by simp) (by simp) trivial (by simp) (by simp) ?_ ?_
 ·intro k _ hk _
  obtain⟨t,ht⟩:=fE hk
  simp[ht,hk, -Bool.forall_bool]
 ·intro _ _
  simp
abbrev s_r06_FindText:Spc:=cv (a2 Corpus B) cd (enc (X:=Int)) lz
theorem zD:aN mh lZ S (a2 Corpus B) cd (enc (X:=Int)) lz:=by
 rintro⟨c,x⟩ -
 simp[mh,lZ, -Bool.forall_bool]
 intro _
 refine aq (X:=Unit) [1,8] [] (c.texts.length) (fun _ _=> True) (fun _=> []) (fun _=> []) () (by simp) (by simp) (by first | omega | (simp;omega)) (by simp) (by simp) trivial (by simp) (by simp) ?_ ?_
 ·intro k _ hk _
  obtain⟨t,ht⟩:=fE hk
  simp[ht,hk, -Bool.forall_bool]
 ·intro _ _
  simp
abbrev s_r06_sameAttributes:Spc:=cv (a2 (List Attr) (List Attr)) cd (enc (X:=Bool)) lz
theorem rD:aN gy gq S (a2 (List Attr) (List Attr)) cd (enc (X:=Bool)) lz:=by
 rintro⟨l,r⟩ -
 simp[gy,gq, -Bool.forall_bool]
 intro _ _ he _
 refine aq (X:=Unit) [0,1] [] (l.length) (fun _ _=> True) (fun _=> []) (fun _=> []) () (by simp) (by simp) (by first | omega | (simp;omega)) (by simp) (by simp) trivial (by simp) (by simp) ?_ ?_
 ·intro k _ hk _
  obtain⟨t,ht⟩:=fE hk
  obtain⟨u,hu⟩:=fE (l:=r) (k:=k) (by omega)
  have hk2:k < r.length:=by omega
  simp[ht,hu,hk,hk2, -Bool.forall_bool]
 ·intro _ _
  simp
abbrev s_r06_cyclic:Spc:=cv (a2 (List Int) Int) (fun x=> 0≤x.2∧x.2 < x.1.length) (enc (X:=Bool)) lz
theorem DT:aN o3 ov S (a2 (List Int) Int) (fun x=> 0≤x.2∧x.2 < x.1.length) (enc (X:=Bool)) lz:=by
 rintro⟨l,i⟩ hl
 have hl:0≤i∧i < l.length:=hl
 simp[o3,ov, -Bool.forall_bool]
 intro _
 refine aq (X:=Int) [0,1] [] l.length (fun _ a=> 0≤a∧a < l.length) (fun a=> [(5,enc a)]) (fun _=> []) i (by simp) (by simp) (by omega) (by simp) (by simp) hl (by simp) (by simp) ?_ ?_
 ·intro k a hk ha
  simp[-Bool.forall_bool]
  refine⟨ha.1,ha.2,fun b _ h1 _ h2 _=> ⟨h1,h2⟩⟩
 ·intro _ _
  simp
abbrev s_r06_tokens:Spc:=cv (a1 Corpus) cd (tG (Y:=Int) (Z:=Int)) lz
theorem DS (h1:S lM=s_r06_Value):aN oY ou S (a1 Corpus) cd (tG (Y:=Int) (Z:=Int)) lz:=by
 rintro c -
 simp[oY,ou,h1,cd, -Bool.forall_bool]
 intro _ _ _
 refine aq (X:=Unit) [1,14] [] (c.toks.length) (fun _ _=> True) (fun _=> []) (fun _=> []) () (by simp) (by simp) (by first | omega | (simp;omega)) (by simp) (by simp) trivial (by simp) (by simp) ?_ ?_
 ·intro k _ hk _
  obtain⟨t,ht⟩:=fE hk
  simp[ht,hk, -Bool.forall_bool]
  intro hl1 hl2 hle hl3
  refine aq (X:=Unit) [1,4,14,15,16,28] [] (c.toks[k].length) (fun _ _=> True) (fun _=> []) (fun _=> []) () (by simp) (by simp) (by first | omega | (simp;omega)) (by simp) (by simp) trivial (by simp) (by simp) ?_ ?_
  ·intro j _ hj _
   have hj2:j < c.attrs.length:=by omega
   simp[hj,hj2,h1,cd, -Bool.forall_bool]
  ·intro _ _
   simp
 ·intro _ _
  simp
abbrev s_r06_texts:Spc:=cv (a1 Corpus) cd (tG (Y:=Int) (Z:=Int)) lz
theorem Fz (h1:S az=s_r04_ValidName) (h2:S fI=s_r06_pairs):aN qD pT S (a1 Corpus) cd (tG (Y:=Int) (Z:=Int)) lz:=by
 rintro c -
 simp[qD,pT,h1,h2,cd, -Bool.forall_bool]
 intro _ _ _ _ _ _
 refine aq (X:=Int) [1,4,26] [] c.texts.length (fun _ _=> True) (fun a=> [(5,enc a)]) (fun _=> []) 0 (by simp) (by simp) (by omega) (by simp) (by simp) trivial (by simp) (by simp) ?_ ?_
 ·intro k a hk _
  obtain⟨t,ht⟩:=fE hk
  simp[ht,hk,h1,cd, -Bool.forall_bool]
  refine fun b=> ⟨by omega,fun _=> ?_⟩
  refine aq (X:=Unit) [1,4,5,6,7,26,27,28,41] [7] (min k c.texts.length) (fun _ _=> True) (fun _=> []) (fun _=> []) () (by simp) (by simp) (by first | omega | (simp;omega)) (by simp) (by simp) trivial (by simp) (by simp) ?_ ?_
  ·intro j _ hj _
   obtain⟨y,hy⟩: ∃y,(c.texts.take k)[j]?=some y:=fE (by simpa using hj)
   simp[hy,rK, -List.map_take]
   simpa using hj
  ·intro _ _
   simp[h2,cd, -Bool.forall_bool]
   ((repeat' first | apply And.intro | intro _) <;> first | omega | (simp only[InR];omega) | assumption | trivial)
 ·intro _ _
  simp
abbrev s_r06_regions:Spc:=cv (a1 Corpus) cd (tG (Y:=Int) (Z:=Int)) lz
theorem B7 (h1:S az=s_r04_ValidName) (h2:S fI=s_r06_pairs) (h3:S eI=s_r06_within) (h4:S bL=s_r06_CompareRegions):aN nz m5 S (a1 Corpus) cd (tG (Y:=Int) (Z:=Int)) lz:=by
 rintro c -
 simp[nz,m5,h1,h2,h3,h4,cd, -Bool.forall_bool]
 intro _ _ _
 refine aq (X:=Unit) [1,15] [] (c.regs.length) (fun _ _=> True) (fun _=> []) (fun _=> []) () (by simp) (by simp) (by first | omega | (simp;omega)) (by simp) (by simp) trivial (by simp) (by simp) ?_ ?_
 ·intro k _ hk _
  obtain⟨t,ht⟩:=fE hk
  simp[ht,hk,h1,h2,h3,h4,cd, -Bool.forall_bool]
  refine fun b=> ⟨fun h0=> ⟨by simp only[InR];omega,by omega,by omega,fun a _ y _=> ⟨by simp only[InR];omega,by omega,by omega,fun _=> ?_⟩⟩,fun h0=> ⟨by simp only[InR];omega,by omega,by omega,fun _=> ?_⟩⟩
  all_goals
   refine aq (X:=Nat) [1,4,5,15,16,17,62] [5] (min (k+1) c.regs.length) (fun j d=> d≤j) (fun d=> [(7,enc (d:Int))]) (fun _=> []) 0 (by simp) (by simp) (by omega) (by simp) (by simp) (by omega) (by simp) (by simp) ?_ ?_
   ·intro j d hj hd
    obtain⟨y,hy⟩: ∃y,(c.regs.take (k+1))[j]?=some y:=fE (by simpa using hj)
    simp[hy,rK, -List.map_take, -Bool.forall_bool]
    repeat' first | apply And.intro | intro _
    all_goals first | omega | (simp only[InR];omega) | exact⟨d,by omega,by omega⟩ | exact⟨d+1,by omega,by omega⟩ | (simp;omega) | skip
   ·intro d hd
    simp
 ·intro _ _
  simp
end Go.Gv

namespace Go.Gv
open Cod (enc dec)
variable {S S0:Nat→Spc}
def KD (x:List pG×Corpus):Prop:= ∀ (j:Nat) (y:pG),x.1[j]?=some y→y.par < j
abbrev s_r06_Nodes:Spc:=cv (a2 (List pG) Corpus) KD (tG (Y:=Int) (Z:=Int)) lz
theorem FE (h1:S az=s_r04_ValidName) (h3:S eI=s_r06_within):aN qI pY S (a2 (List pG) Corpus) KD (tG (Y:=Int) (Z:=Int)) lz:=by
 rintro⟨l,c⟩ hp
 have hp: ∀ (j:Nat) (y:pG),l[j]?=some y→y.par < j:=hp
 simp[qI,pY,h1,h3,cd, -Bool.forall_bool]
 intro _ _ _
 refine⟨by omega,by omega,fun x _=> ?_⟩
 refine aq (X:=List Int) [0,3,18] [] l.length (fun _ d=> d.length=l.length∧ ∀a∈d,0≤a∧a≤40) (fun _=> [(6, .own 17 x)]) (fun d=> [(17, .row x cq 1 (d.map enc))]) (List.replicate l.length 0) (by simp) (by simp) (by omega) (by simp) (by simp) (by simp) (by simp) (by simp) ?_ ?_
 ·rintro k d hk ⟨hd1,hd2⟩
  obtain⟨t,ht⟩:=fE hk
  have htp:=hp k t ht
  have ht':=List.getElem?_eq_some_iff.1 ht
  obtain⟨_,ht'⟩:=ht'
  simp[ht,ht',hk,h1,h3,cd, -Bool.forall_bool]
  refine fun b=> ⟨by simp only[InR];omega,?_⟩
  refine cS (X:=Int) [0,3,6,7,8,18,19,20] [8,17] (fun _=> True) (fun a=> [(9,enc a)]) (fun _=> []) ?_ ?_
  ·simp
   refine bq (X:=Int) [0,3,6,7,8,18,19,20] [8,17] (fun a=> a < k) (fun a=> [(9,enc a)]) (fun _=> []) (fun a=> (a+1).toNat) ((k:Int) -1) (by omega) (by simp) (by simp) ?_
   intro a ha
   simp
   intro h0 _
   refine⟨h0,by omega,fun y hy=> ?_⟩
   have:=hp a.toNat y hy
   exact⟨y.par,by omega,rfl,by omega⟩
  ·intro a _
   refine cS (X:=Unit) [0,3,6,7,8,18,19,20] [8,17] (fun _=> True) (fun _=> []) (fun _=> []) ?_ ?_
   ·simp
   ·rintro - -
    refine cS (X:=List Int) [0,3,6,7,8,18,19,20] [8] (fun d=> d.length=l.length∧ ∀a∈d,0≤a∧a≤40) (fun _=> []) (fun d=> [(17, .row x cq 1 (d.map enc))]) ?_ ?_
    ·simp
     refine⟨fun h0=> ⟨h0,by omega,fun y _ _ _=> ⟨h0,by omega,by omega,fun a2 ha2=> ⟨by omega,fun a3 _=> ⟨d.set k a2,⟨by simpa using hd1,fun a4 h4=> ?_⟩, .inl (gF d k a2)⟩⟩⟩⟩,fun _=> ⟨d,⟨hd1,hd2⟩, .inl rfl⟩⟩
     rcases List.mem_or_eq_of_mem_set h4 with h4 | rfl
     ·exact hd2 _ h4
     ·exact hd2 _ (gu ha2)
    ·rintro d ⟨hd1,hd2⟩
     refine cS (X:=Unit) [0,3,6,7,18,19,20] [17] (fun _=> True) (fun _=> []) (fun _=> []) ?_ ?_
     ·simp
      refine⟨by simp only[InR];omega,?_⟩
      refine bq (X:=Int) [0,3,6,7,8,18,19,20] [8,17] (fun a=> a < k) (fun a=> [(11,enc a)]) (fun _=> []) (fun a=> (a+1).toNat) ((k:Int) -1) (by omega) (by simp) (by simp) ?_
      intro a ha
      simp
      exact fun h0=> ⟨h0,by omega,fun y _=> ⟨fun _=> ⟨h0,by omega⟩,fun _=> ⟨by simp only[InR];omega,a -1,by omega,rfl,by omega⟩⟩⟩
     ·rintro - -
      simp
      refine⟨by omega,fun a2 ha2=> ?_⟩
      have h4:=hd2 _ (gu ha2)
      refine⟨by simp only[InR];omega,by omega,fun _ _=> ⟨by omega,fun d1 h5=> ?_⟩⟩
      have hkd:k < d.length:=by omega
      rw[List.getElem?_set_self (by simpa using hkd)] at h5
      cases h5
      simp
      refine fun h6=> ⟨d.set k (a2+1),⟨by simpa using hd1,fun a4 h4=> ?_⟩, .inl (gF d k (a2+1))⟩
      rcases List.mem_or_eq_of_mem_set h4 with h4 | rfl
      ·exact hd2 _ h4
      ·omega
 ·intro d hd
  simp
def KC (c:Corpus):Prop:=True
abbrev s_r06_heads:Spc:=cv (a1 Corpus) KC (tG (Y:=Int) (Z:=Int)) lz
theorem FB (h1:S az=s_r04_ValidName) (h3:S nn=s_r06_bare) (h4:S iB=s_r06_TextAt) (h5:S kp=s_r06_cyclic):aN qF pV S (a1 Corpus) KC (tG (Y:=Int) (Z:=Int)) lz:=by
 rintro c -
 simp[qF,pV,h1,h3,h4,h5,cd, -Bool.forall_bool]
 intro _
 refine cS (X:=Unit) [1,4] [] (fun _=> c.heads.length=c.rels.length) (fun _=> []) (fun _=> []) ?_ ?_
 ·simp
  ((repeat' first | apply And.intro | intro _) <;> first | omega | (simp only[InR];omega) | assumption | trivial)
 ·rintro -hl
  refine cS (X:=Unit) [1,4] [] (fun _=> True) (fun _=> []) (fun _=> []) ?_ ?_
  ·simp[h1,h3,h4,h5,cd,hl, -Bool.forall_bool]
  ·rintro - -
   simp
   intro _
   refine aq (X:=Unit) [1,4,36] [] (c.heads.length) (fun _ _=> True) (fun _=> []) (fun _=> []) () (by simp) (by simp) (by first | omega | (simp;omega)) (by simp) (by simp) trivial (by simp) (by simp) ?_ ?_
   ·intro k _ hk _
    have hk2:k < c.rels.length:=by omega
    simp[hk,hk2]
    refine cS (X:=Unit) [1,4,5,36,37,38] [] (fun _=> True) (fun _=> []) (fun _=> []) ?_ ?_
    ·simp[h1,h3,h4,h5,cd,hk,hk2,hl, -Bool.forall_bool]
    ·rintro - -
     refine cS (X:=Unit) [1,4,5,36,37,38] [] (fun _=> True) (fun _=> []) (fun _=> []) ?_ ?_
     ·simp[h1,h3,h4,h5,cd,hk,hk2,hl, -Bool.forall_bool]
     ·rintro - -
      simp[h1,h3,h4,h5,cd,hk,hk2,hl, -Bool.forall_bool]
   ·intro _ _
    simp
def ln (c:Corpus):Prop:= ∀ (j:Nat) (y:pG),c.nodes[j]?=some y→y.par < j
abbrev s_r06_Validate:Spc:=cv (a1 Corpus) ln (TN (Y:=Int) (Z:=Int) (W:=Int)) lz
theorem zC (h1:S fq=s_r06_Attributes) (h2:S ko=s_r06_tokens) (h3:S lK=s_r06_texts) (h4:S ja=s_r06_regions) (h5:S lN=s_r06_Nodes) (h6:S lL=s_r06_heads):aN mg lY S (a1 Corpus) ln (TN (Y:=Int) (Z:=Int) (W:=Int)) lz:=by
 rintro c hc
 simp[mg,lY,h1,h2,h3,h4,h5,h6,cd, -Bool.forall_bool]
 exact⟨hc,trivial⟩
abbrev s_r06_Valid:Spc:=cv (a1 Corpus) ln (enc (X:=Bool)) lz
theorem FD (h1:S hU=s_r06_Validate):aN qH pX S (a1 Corpus) ln (enc (X:=Bool)) lz:=by
 rintro c hc
 simp[qH,pX,h1,cd, -Bool.forall_bool]
 exact hc
end Go.Gv

namespace Go.Gv
open Cod (enc dec)
variable {S S0:Nat→Spc}
theorem Sd {α:Type} (m:List α) (bl x:α) (j:Nat) (hj:j≤m.length): (List.take (j+1) (m++ [bl]) ++ (List.take (m.length -j) (List.drop j (List.take (m.length+1) (m++ [bl]))) ++List.drop (j+1+min (m.length+1-j) (m.length-j)) (m++ [bl]))).set j x=m.take j++x::m.drop j:=by
 have h1:List.take (m.length+1) (m++ [bl])=m++ [bl]:=List.take_of_length_le (by simp)
 have h2:List.drop j (m++ [bl])=m.drop j++ [bl]:=List.drop_append_of_le_length hj
 have h3:List.take (m.length -j) (m.drop j++ [bl])=m.drop j:=by rw[List.take_left'];simp
 have h4:List.drop (j+1+min (m.length+1-j) (m.length-j)) (m++ [bl])= []:=List.drop_of_length_le (by simp;omega)
 rw[h1,h2,h3,h4,List.append_nil]
 have h5:List.take (j+1) (m++[bl])=m.take j++ [(m++ [bl])[j]'(by simp;omega)]:=by
  rw[List.take_succ_eq_append_getElem (by simp;omega),List.take_append_of_le_length hj]
 rw[h5,List.append_assoc,List.set_append_right _ _ (by simp;omega)]
 simp[hj]
theorem P5 {α:Type} {m:List α} {bl x:α} {j n:Nat} (hn:m.length=n) (hj:j≤n): (List.take (j+1) (m++ [bl]) ++ (List.take (n -j) (List.drop j (List.take (n+1) (m++ [bl]))) ++List.drop (j+1+min (n+1-j) (n-j)) (m++ [bl]))).set j x=m.take j++x::m.drop j:=by
 subst hn;exact Sd m bl x j hj
def ON (l m:List Region):Prop:=m.length=l.length∧ ∀x∈m,x∈l
def JB (l:List Region):Prop:=l.length≤1000000
abbrev s_r06_SortRegions:Spc:=cv (a1 (List Region)) JB (enc (X:=List Region)) ON
theorem vm (h1:S bL=s_r06_CompareRegions):aN jA jq S (a1 (List Region)) JB (enc (X:=List Region)) ON:=by
 rintro l hl
 have hl:l.length≤1000000:=hl
 simp[jA,jq, -Bool.forall_bool]
 intro _
 refine aq (X:=Value×List Region) [7] [] l.length (fun k x=> x.2.length=k∧ ∀y∈x.2,y∈l) (fun x=> [(3, .own 32 x.1)]) (fun x=> [(32, .row x.1 bN 4 (x.2.map enc))]) (.slice none 0 0, []) (by simp) (by simp) (by omega) (by simp) (by simp) (by simp) (by simp) (by simp[isNilRow]) ?_ ?_
 ·rintro k ⟨v,m⟩ hk ⟨hm1,hm2⟩
  simp at hm1 hm2
  simp[hk]
  refine fun b _=> ?_
  refine cS (X:=Nat) [3,5,7,8,9] [5,32] (fun x=> x≤m.length) (fun x=> [(6,enc (x:Int))]) (fun x=> []) ?_ ?_
  ·simp
   refine bq (X:=Nat) [3,5,7,8,9] [5,32] (fun x=> x≤m.length) (fun x=> [(6,enc (x:Int))]) (fun x=> []) (fun x=> x) m.length (by simp) (by simp) (by simp) ?_
   intro j hj
   simp[h1,cd]
   refine⟨fun h0=> ⟨by simp only[InR];omega,by omega,by omega,by omega,fun a _ y=> ⟨fun _=> ⟨by simp only[InR];omega,j -1,by omega,by omega,by omega⟩,fun _=> ⟨j,hj,rfl⟩⟩⟩,fun _=> ⟨j,hj,rfl⟩⟩
  ·intro j hj
   simp
   have hx:D.agg [D.v (Value.string l[k].ty),D.v (Value.int IntKind.i64 l[k].b),D.v (Value.int IntKind.i64 l[k].e),D.list 2 (List.map enc l[k].kv)]=enc l[k]:=by simp
   refine⟨by omega,by omega,fun v=> ⟨by simp only[InR];omega,by omega,by omega,by omega,by omega,by omega,fun d _=> ⟨v,m.take j++l[k]::m.drop j,⟨by simp;omega,fun y hy=> ?_⟩,rfl, .inl ⟨rfl,?_⟩⟩⟩⟩
   ·rcases List.mem_append.1 hy with h | h
    ·exact hm2 _ (List.mem_of_mem_take h)
    ·rcases List.mem_cons.1 h with rfl | h
     ·exact List.getElem_mem hk
     ·exact hm2 _ (List.mem_of_mem_drop h)
   ·refine(P5 (by simp) hj).trans ?_
    rw[hx,rK,Od,List.map_append,List.map_cons]
 ·rintro⟨v,m⟩ ⟨hm1,hm2⟩
  simp at hm1 hm2
  simp
  exact dE m (jQ bN (by simp)) ⟨hm1,hm2⟩
def tR (s:Int):List sV→Int→Prop
 | [],e=> s=e
 | t::r,e=> t.b=s∧t.b < t.e∧tR t.e r e
def HM (c:Corpus):Prop:=tR 0 c.texts c.toks.length∧c.texts≠ []∧c.toks.length≤4096∧c.texts.length≤64∧c.regs.length≤1024∧c.nodes.length≤2048∧c.attrs.length≤1000∧c.heads.length≤c.toks.length∧c.rels.length≤c.toks.length∧
 (∀x∈c.regs,0≤x.b∧x.b≤c.toks.length∧0≤x.e∧x.e≤c.toks.length)∧(∀x∈c.nodes,0≤x.b∧x.b≤c.toks.length∧0≤x.e∧x.e≤c.toks.length)∧(∀ (j:Nat) (y:pG),c.nodes[j]?=some y→y.par < j)∧ ∀h∈c.heads,h≤c.toks.length
def BU (c:Corpus) (x:List Int×List B):Prop:=(∀h∈x.1,h≤c.toks.length)∧x.1.length≤c.toks.length∧x.2.length≤c.toks.length
abbrev s_r06_allHeads:Spc:=cv (a1 Corpus) HM (tG (Y:=List Int) (Z:=List B)) BU
theorem zB:aN mf lX S (a1 Corpus) HM (tG (Y:=List Int) (Z:=List B)) BU:=by
 rintro c hc
 obtain⟨c1,c2,c3,c4,c5,c6,c7,c8,c9,c10,c11,c12,c13⟩:=hc
 simp[mf,lX, -Bool.forall_bool]
 refine fun _=> ⟨fun _=> ⟨c.heads, .same _,c.rels, .same _,c13,c8,c9⟩,fun _ _=> ⟨by omega,by omega,fun v _=> ?_⟩⟩
 refine aq (X:=List Int) [1] [] c.toks.length (fun k x=> x.length=c.toks.length∧ ∀ (j:Nat) (y:Int),x[j]?=some y→j < k→y= -1) (fun x=> [(4, .own 17 v)]) (fun x=> [(17, .row v cq 1 (x.map enc))]) (List.replicate c.toks.length 0) (by simp) (by simp) (by omega) (by simp) (by simp) (by simp) (by simp) (by simp) ?_ ?_
 ·rintro k m hk ⟨hm1,hm2⟩
  simp
  refine⟨by omega,fun a _=> ⟨m.set k (-1),⟨by simpa using hm1,fun j y hy hj=> ?_⟩, .inl (gF m k (-1))⟩⟩
  rw[List.getElem?_set] at hy
  split at hy
  ·split at hy
   ·cases hy;rfl
   ·cases hy
  ·exact hm2 j y hy (by omega)
 ·rintro m ⟨hm1,hm2⟩
  simp
  refine fun _=> ⟨by omega,by omega,fun x=> ⟨m,jQ cq (by simp),List.replicate c.toks.length ⟨#[]⟩,jQ ai (by simp),fun y hy=> ?_,by show m.length≤_;omega,by simp⟩⟩
  obtain⟨j,hj⟩:=List.mem_iff_getElem?.1 hy
  have:=hm2 j y hj (by have:=(List.getElem?_eq_some_iff.1 hj).1;have h9:j < m.length:=this;omega)
  omega
end Go.Gv
