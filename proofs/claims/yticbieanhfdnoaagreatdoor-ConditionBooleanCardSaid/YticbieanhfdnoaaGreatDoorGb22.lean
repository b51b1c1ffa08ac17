/- A part of the framework and of the walks: W5 W6 W7. -/
import Derived.Test.YticbieanhfdnoaaGreatDoorGb21
set_option linter.unusedSimpArgs false
set_option linter.unusedVariables false
set_option maxRecDepth 100000

namespace Go.Gv
open Cod (enc dec)
variable {S S0:Nat→Spc}
theorem qJ {X:Type} [Cod X] (l:List X) (k:Nat):List.take k (List.map enc l)=List.map enc (List.take k l):=List.map_take.symm
theorem LK {X:Type} [Cod X] (l:List X) (k:Nat):List.drop k (List.map enc l)=List.map enc (List.drop k l):=List.map_drop.symm
abbrev s_r06_sign:Spc:=cz (a1 Bool) bU (enc (X:=Int)) kK
theorem FY:aK rI qQ S (a1 Bool) bU (enc (X:=Int)) kK:=by
 rintro s -
 simp[rI,qQ, -Bool.forall_bool]
abbrev s_r06_compare:Spc:=cz (a2 B B) bU (enc (X:=Int)) kK
theorem AG:aK mJ ml S (a2 B B) bU (enc (X:=Int)) kK:=by
 rintro⟨a,b⟩ -
 simp[mJ,ml]
abbrev s_r06_CompareRegions:Spc:=cz (a2 Region Region) bU (enc (X:=Int)) kK
theorem qD (h1:S iX=s_r06_sign) (h2:S eM=s_r06_compare):aK ge f7 S (a2 Region Region) bU (enc (X:=Int)) kK:=by
 rintro⟨a,b⟩ -
 simp[ge,f7,h1,h2,bU, -Bool.forall_bool]
 intro _ _ _
 refine bh (X:=Nat) [2,3] [] (fun k=> True) (fun k=> [(5,enc (k:Int))]) (fun _=> []) (fun k=> a.kv.length -k) 0 trivial (by simp) (by simp) ?_
 intro k _
 simp[h1,h2,bU, -Bool.forall_bool]
 repeat' first | apply And.intro | intro _
 all_goals first | omega | (simp only[InR];omega) | exact⟨k+1,by omega,by omega⟩
abbrev s_r06_Attributes:Spc:=cz (a1 (List Attr)) bU (sy (Y:=Int) (Z:=Int)) kK
theorem vO (h1:S az=s_r04_ValidName):aK jV jv S (a1 (List Attr)) bU (sy (Y:=Int) (Z:=Int)) kK:=by
 rintro l -
 simp[jV,jv,h1,bU, -Bool.forall_bool]
 intro _ _ _ _ _
 refine ar (X:=Unit) [0,14] [] (l.length) (fun _ _=> True) (fun _=> []) (fun _=> []) () (by simp) (by simp) (by first | omega | (simp;omega)) (by simp) (by simp) trivial (by simp) (by simp) ?_ ?_
 ·intro k _ hk _
  obtain⟨x,hx⟩:=fh hk
  simp[h1,bU, -Bool.forall_bool,hx,hk]
  refine fun b=> ⟨by omega,fun _=> ?_⟩
  refine ar (X:=Unit) [0,4,5,14,15,16,28] [5] (min k l.length) (fun _ _=> True) (fun _=> []) (fun _=> []) () (by simp) (by simp) (by first | omega | (simp;omega)) (by simp) (by simp) trivial (by simp) (by simp) ?_ ?_
  ·intro j _ hj _
   obtain⟨y,hy⟩: ∃y,(l.take k)[j]?=some y:=fh (by simpa using hj)
   simp[hy,qJ, -List.map_take]
   simpa using hj
  ·intro _ _
   simp
 ·intro _ _
  simp
abbrev s_r06_Value:Spc:=cz (a2 Attr B) bU (enc (X:=Int)) kK
theorem DR (h1:S kZ=s_r05_Parse) (h2:S bw=s_r04_ValidValue):aK pK o5 S (a2 Attr B) bU (enc (X:=Int)) kK:=by
 rintro⟨a,b⟩ -
 simp[pK,o5,h1,h2,bU, -Bool.forall_bool]
abbrev s_r06_pairs:Spc:=cz (a1 (List Pair)) bU (enc (X:=Int)) kK
theorem DP (h1:S az=s_r04_ValidName) (h2:S bw=s_r04_ValidValue):aK pI o3 S (a1 (List Pair)) bU (enc (X:=Int)) kK:=by
 rintro l -
 simp[pI,o3,h1,h2,bU, -Bool.forall_bool]
 intro _ _ _
 refine ar (X:=Unit) [0,9] [] (l.length) (fun _ _=> True) (fun _=> []) (fun _=> []) () (by simp) (by simp) (by first | omega | (simp;omega)) (by simp) (by simp) trivial (by simp) (by simp) ?_ ?_
 ·intro k _ hk _
  obtain⟨x,hx⟩:=fh hk
  simp[h1,h2,bU, -Bool.forall_bool,hx,hk]
  ((repeat' first | apply And.intro | intro _) <;> first | omega | (simp only[InR];omega) | assumption | trivial)
 ·intro _ _
  simp
abbrev s_r06_within:Spc:=cz (a3 Corpus Int Int) bU (enc (X:=Bool)) kK
theorem Ca:aK nI nr S (a3 Corpus Int Int) bU (enc (X:=Bool)) kK:=by
 rintro⟨c,x,y⟩ -
 simp[nI,nr, -Bool.forall_bool]
 intro _
 refine ar (X:=Unit) [1,2,10] [] (c.texts.length) (fun _ _=> True) (fun _=> []) (fun _=> []) () (by simp) (by simp) (by first | omega | (simp;omega)) (by simp) (by simp) trivial (by simp) (by simp) ?_ ?_
 ·intro k _ hk _
  obtain⟨t,ht⟩:=fh hk
  simp[ht,hk, -Bool.forall_bool]
 ·intro _ _
  simp
abbrev s_r06_bare:Spc:=cz (a2 (List Int) (List B)) (fun x=> x.1.length=x.2.length) (enc (X:=Bool)) kK
theorem FZ:aK rJ qR S (a2 (List Int) (List B)) (fun x=> x.1.length=x.2.length) (enc (X:=Bool)) kK:=by
 rintro⟨l,r⟩ hl
 have hl:l.length=r.length:=hl
 simp[rJ,qR, -Bool.forall_bool]
 intro _
 refine ar (X:=Unit) [0,1] [] (l.length) (fun _ _=> True) (fun _=> []) (fun _=> []) () (by simp) (by simp) (by first | omega | (simp;omega)) (by simp) (by simp) trivial (by simp) (by simp) ?_ ?_
 ·intro k _ hk _
  obtain⟨t,ht⟩:=fh hk
  obtain⟨u,hu⟩:=fh (l:=r) (k:=k) (by omega)
  have hk2:k < r.length:=by omega
  simp[ht,hu,hk,hk2, -Bool.forall_bool]
 ·intro _ _
  simp
abbrev s_r06_TextAt:Spc:=cz (a2 Corpus Int) bU (enc (X:=Int)) kK
theorem Cf:aK nL ny S (a2 Corpus Int) bU (enc (X:=Int)) kK:=by
 rintro⟨c,x⟩ -
 simp[nL,ny, -Bool.forall_bool]
 intro _
 refine ar (X:=Unit) [1,8] [] (c.texts.length) (fun _ _=> True) (fun _=> []) (fun _=> []) () (by simp) (by simp) (by first | omega | (simp;omega)) (by simp) (by simp) trivial (by simp) (by simp) ?_ ?_
 ·intro k _ hk _
  obtain⟨t,ht⟩:=fh hk
  simp[ht,hk, -Bool.forall_bool]
 ·intro _ _
  simp
abbrev s_r06_FindText:Spc:=cz (a2 Corpus B) bU (enc (X:=Int)) kK
theorem yi:aK lG ln S (a2 Corpus B) bU (enc (X:=Int)) kK:=by
 rintro⟨c,x⟩ -
 simp[lG,ln, -Bool.forall_bool]
 intro _
 refine ar (X:=Unit) [1,8] [] (c.texts.length) (fun _ _=> True) (fun _=> []) (fun _=> []) () (by simp) (by simp) (by first | omega | (simp;omega)) (by simp) (by simp) trivial (by simp) (by simp) ?_ ?_
 ·intro k _ hk _
  obtain⟨t,ht⟩:=fh hk
  simp[ht,hk, -Bool.forall_bool]
 ·intro _ _
  simp
abbrev s_r06_sameAttributes:Spc:=cz (a2 (List Attr) (List Attr)) bU (enc (X:=Bool)) kK
theorem qC:aK gd f1 S (a2 (List Attr) (List Attr)) bU (enc (X:=Bool)) kK:=by
 rintro⟨l,r⟩ -
 simp[gd,f1, -Bool.forall_bool]
 intro _ _ he _
 refine ar (X:=Unit) [0,1] [] (l.length) (fun _ _=> True) (fun _=> []) (fun _=> []) () (by simp) (by simp) (by first | omega | (simp;omega)) (by simp) (by simp) trivial (by simp) (by simp) ?_ ?_
 ·intro k _ hk _
  obtain⟨t,ht⟩:=fh hk
  obtain⟨u,hu⟩:=fh (l:=r) (k:=k) (by omega)
  have hk2:k < r.length:=by omega
  simp[ht,hu,hk,hk2, -Bool.forall_bool]
 ·intro _ _
  simp
abbrev s_r06_cyclic:Spc:=cz (a2 (List Int) Int) (fun x=> 0≤x.2∧x.2 < x.1.length) (enc (X:=Bool)) kK
theorem Ce:aK nK nw S (a2 (List Int) Int) (fun x=> 0≤x.2∧x.2 < x.1.length) (enc (X:=Bool)) kK:=by
 rintro⟨l,i⟩ hl
 have hl:0≤i∧i < l.length:=hl
 simp[nK,nw, -Bool.forall_bool]
 intro _
 refine ar (X:=Int) [0,1] [] l.length (fun _ a=> 0≤a∧a < l.length) (fun a=> [(5,enc a)]) (fun _=> []) i (by simp) (by simp) (by omega) (by simp) (by simp) hl (by simp) (by simp) ?_ ?_
 ·intro k a hk ha
  simp[-Bool.forall_bool]
  refine⟨ha.1,ha.2,fun b _ h1 _ h2 _=> ⟨h1,h2⟩⟩
 ·intro _ _
  simp
abbrev s_r06_tokens:Spc:=cz (a1 Corpus) bU (sy (Y:=Int) (Z:=Int)) kK
theorem Cb (h1:S kX=s_r06_Value):aK nJ nt S (a1 Corpus) bU (sy (Y:=Int) (Z:=Int)) kK:=by
 rintro c -
 simp[nJ,nt,h1,bU, -Bool.forall_bool]
 intro _ _ _
 refine ar (X:=Unit) [1,14] [] (c.toks.length) (fun _ _=> True) (fun _=> []) (fun _=> []) () (by simp) (by simp) (by first | omega | (simp;omega)) (by simp) (by simp) trivial (by simp) (by simp) ?_ ?_
 ·intro k _ hk _
  obtain⟨t,ht⟩:=fh hk
  simp[ht,hk, -Bool.forall_bool]
  intro hl1 hl2 hle hl3
  refine ar (X:=Unit) [1,4,14,15,16,28] [] (c.toks[k].length) (fun _ _=> True) (fun _=> []) (fun _=> []) () (by simp) (by simp) (by first | omega | (simp;omega)) (by simp) (by simp) trivial (by simp) (by simp) ?_ ?_
  ·intro j _ hj _
   have hj2:j < c.attrs.length:=by omega
   simp[hj,hj2,h1,bU, -Bool.forall_bool]
  ·intro _ _
   simp
 ·intro _ _
  simp
abbrev s_r06_texts:Spc:=cz (a1 Corpus) bU (sy (Y:=Int) (Z:=Int)) kK
theorem DO (h1:S az=s_r04_ValidName) (h2:S fk=s_r06_pairs):aK pH o0 S (a1 Corpus) bU (sy (Y:=Int) (Z:=Int)) kK:=by
 rintro c -
 simp[pH,o0,h1,h2,bU, -Bool.forall_bool]
 intro _ _ _ _ _ _
 refine ar (X:=Int) [1,4,26] [] c.texts.length (fun _ _=> True) (fun a=> [(5,enc a)]) (fun _=> []) 0 (by simp) (by simp) (by omega) (by simp) (by simp) trivial (by simp) (by simp) ?_ ?_
 ·intro k a hk _
  obtain⟨t,ht⟩:=fh hk
  simp[ht,hk,h1,bU, -Bool.forall_bool]
  refine fun b=> ⟨by omega,fun _=> ?_⟩
  refine ar (X:=Unit) [1,4,5,6,7,26,27,28,41] [7] (min k c.texts.length) (fun _ _=> True) (fun _=> []) (fun _=> []) () (by simp) (by simp) (by first | omega | (simp;omega)) (by simp) (by simp) trivial (by simp) (by simp) ?_ ?_
  ·intro j _ hj _
   obtain⟨y,hy⟩: ∃y,(c.texts.take k)[j]?=some y:=fh (by simpa using hj)
   simp[hy,qJ, -List.map_take]
   simpa using hj
  ·intro _ _
   simp[h2,bU, -Bool.forall_bool]
   ((repeat' first | apply And.intro | intro _) <;> first | omega | (simp only[InR];omega) | assumption | trivial)
 ·intro _ _
  simp
abbrev s_r06_regions:Spc:=cz (a1 Corpus) bU (sy (Y:=Int) (Z:=Int)) kK
theorem AF (h1:S az=s_r04_ValidName) (h2:S fk=s_r06_pairs) (h3:S eu=s_r06_within) (h4:S bE=s_r06_CompareRegions):aK mI mj S (a1 Corpus) bU (sy (Y:=Int) (Z:=Int)) kK:=by
 rintro c -
 simp[mI,mj,h1,h2,h3,h4,bU, -Bool.forall_bool]
 intro _ _ _
 refine ar (X:=Unit) [1,15] [] (c.regs.length) (fun _ _=> True) (fun _=> []) (fun _=> []) () (by simp) (by simp) (by first | omega | (simp;omega)) (by simp) (by simp) trivial (by simp) (by simp) ?_ ?_
 ·intro k _ hk _
  obtain⟨t,ht⟩:=fh hk
  simp[ht,hk,h1,h2,h3,h4,bU, -Bool.forall_bool]
  refine fun b=> ⟨fun h0=> ⟨by simp only[InR];omega,by omega,by omega,fun a _ y _=> ⟨by simp only[InR];omega,by omega,by omega,fun _=> ?_⟩⟩,fun h0=> ⟨by simp only[InR];omega,by omega,by omega,fun _=> ?_⟩⟩
  all_goals
   refine ar (X:=Nat) [1,4,5,15,16,17,62] [5] (min (k+1) c.regs.length) (fun j d=> d≤j) (fun d=> [(7,enc (d:Int))]) (fun _=> []) 0 (by simp) (by simp) (by omega) (by simp) (by simp) (by omega) (by simp) (by simp) ?_ ?_
   ·intro j d hj hd
    obtain⟨y,hy⟩: ∃y,(c.regs.take (k+1))[j]?=some y:=fh (by simpa using hj)
    simp[hy,qJ, -List.map_take, -Bool.forall_bool]
    repeat' first | apply And.intro | intro _
    all_goals first | omega | (simp only[InR];omega) | exact⟨d,by omega,by omega⟩ | exact⟨d+1,by omega,by omega⟩ | (simp;omega) | skip
   ·intro d hd
    simp
 ·intro _ _
  simp
end Go.Gv

namespace Go.Gv
open Cod (enc dec)
variable {S S0:Nat→Spc}
def Is (x:List oz×Corpus):Prop:= ∀ (j:Nat) (y:oz),x.1[j]?=some y→y.par < j
abbrev s_r06_Nodes:Spc:=cz (a2 (List oz) Corpus) Is (sy (Y:=Int) (Z:=Int)) kK
theorem DT (h1:S az=s_r04_ValidName) (h3:S eu=s_r06_within):aK pM o7 S (a2 (List oz) Corpus) Is (sy (Y:=Int) (Z:=Int)) kK:=by
 rintro⟨l,c⟩ hp
 have hp: ∀ (j:Nat) (y:oz),l[j]?=some y→y.par < j:=hp
 simp[pM,o7,h1,h3,bU, -Bool.forall_bool]
 intro _ _ _
 refine⟨by omega,by omega,fun x _=> ?_⟩
 refine ar (X:=List Int) [0,3,18] [] l.length (fun _ d=> d.length=l.length∧ ∀a∈d,0≤a∧a≤40) (fun _=> [(6, .own 17 x)]) (fun d=> [(17, .row x ci 1 (d.map enc))]) (List.replicate l.length 0) (by simp) (by simp) (by omega) (by simp) (by simp) (by simp) (by simp) (by simp) ?_ ?_
 ·rintro k d hk ⟨hd1,hd2⟩
  obtain⟨t,ht⟩:=fh hk
  have htp:=hp k t ht
  have ht':=List.getElem?_eq_some_iff.1 ht
  obtain⟨_,ht'⟩:=ht'
  simp[ht,ht',hk,h1,h3,bU, -Bool.forall_bool]
  refine fun b=> ⟨by simp only[InR];omega,?_⟩
  refine cO (X:=Int) [0,3,6,7,8,18,19,20] [8,17] (fun _=> True) (fun a=> [(9,enc a)]) (fun _=> []) ?_ ?_
  ·simp
   refine bh (X:=Int) [0,3,6,7,8,18,19,20] [8,17] (fun a=> a < k) (fun a=> [(9,enc a)]) (fun _=> []) (fun a=> (a+1).toNat) ((k:Int) -1) (by omega) (by simp) (by simp) ?_
   intro a ha
   simp
   intro h0 _
   refine⟨h0,by omega,fun y hy=> ?_⟩
   have:=hp a.toNat y hy
   exact⟨y.par,by omega,rfl,by omega⟩
  ·intro a _
   refine cO (X:=Unit) [0,3,6,7,8,18,19,20] [8,17] (fun _=> True) (fun _=> []) (fun _=> []) ?_ ?_
   ·simp
   ·rintro - -
    refine cO (X:=List Int) [0,3,6,7,8,18,19,20] [8] (fun d=> d.length=l.length∧ ∀a∈d,0≤a∧a≤40) (fun _=> []) (fun d=> [(17, .row x ci 1 (d.map enc))]) ?_ ?_
    ·simp
     refine⟨fun h0=> ⟨h0,by omega,fun y _ _ _=> ⟨h0,by omega,by omega,fun a2 ha2=> ⟨by omega,fun a3 _=> ⟨d.set k a2,⟨by simpa using hd1,fun a4 h4=> ?_⟩, .inl (gk d k a2)⟩⟩⟩⟩,fun _=> ⟨d,⟨hd1,hd2⟩, .inl rfl⟩⟩
     rcases List.mem_or_eq_of_mem_set h4 with h4 | rfl
     ·exact hd2 _ h4
     ·exact hd2 _ (ga ha2)
    ·rintro d ⟨hd1,hd2⟩
     refine cO (X:=Unit) [0,3,6,7,18,19,20] [17] (fun _=> True) (fun _=> []) (fun _=> []) ?_ ?_
     ·simp
      refine⟨by simp only[InR];omega,?_⟩
      refine bh (X:=Int) [0,3,6,7,8,18,19,20] [8,17] (fun a=> a < k) (fun a=> [(11,enc a)]) (fun _=> []) (fun a=> (a+1).toNat) ((k:Int) -1) (by omega) (by simp) (by simp) ?_
      intro a ha
      simp
      exact fun h0=> ⟨h0,by omega,fun y _=> ⟨fun _=> ⟨h0,by omega⟩,fun _=> ⟨by simp only[InR];omega,a -1,by omega,rfl,by omega⟩⟩⟩
     ·rintro - -
      simp
      refine⟨by omega,fun a2 ha2=> ?_⟩
      have h4:=hd2 _ (ga ha2)
      refine⟨by simp only[InR];omega,by omega,fun _ _=> ⟨by omega,fun d1 h5=> ?_⟩⟩
      have hkd:k < d.length:=by omega
      rw[List.getElem?_set_self (by simpa using hkd)] at h5
      cases h5
      simp
      refine fun h6=> ⟨d.set k (a2+1),⟨by simpa using hd1,fun a4 h4=> ?_⟩, .inl (gk d k (a2+1))⟩
      rcases List.mem_or_eq_of_mem_set h4 with h4 | rfl
      ·exact hd2 _ h4
      ·omega
 ·intro d hd
  simp
def Ir (c:Corpus):Prop:=True
abbrev s_r06_heads:Spc:=cz (a1 Corpus) Ir (sy (Y:=Int) (Z:=Int)) kK
theorem DQ (h1:S az=s_r04_ValidName) (h3:S mB=s_r06_bare) (h4:S gY=s_r06_TextAt) (h5:S jK=s_r06_cyclic):aK pJ o4 S (a1 Corpus) Ir (sy (Y:=Int) (Z:=Int)) kK:=by
 rintro c -
 simp[pJ,o4,h1,h3,h4,h5,bU, -Bool.forall_bool]
 intro _
 refine cO (X:=Unit) [1,4] [] (fun _=> c.heads.length=c.rels.length) (fun _=> []) (fun _=> []) ?_ ?_
 ·simp
  ((repeat' first | apply And.intro | intro _) <;> first | omega | (simp only[InR];omega) | assumption | trivial)
 ·rintro -hl
  refine cO (X:=Unit) [1,4] [] (fun _=> True) (fun _=> []) (fun _=> []) ?_ ?_
  ·simp[h1,h3,h4,h5,bU,hl, -Bool.forall_bool]
  ·rintro - -
   simp
   intro _
   refine ar (X:=Unit) [1,4,36] [] (c.heads.length) (fun _ _=> True) (fun _=> []) (fun _=> []) () (by simp) (by simp) (by first | omega | (simp;omega)) (by simp) (by simp) trivial (by simp) (by simp) ?_ ?_
   ·intro k _ hk _
    have hk2:k < c.rels.length:=by omega
    simp[hk,hk2]
    refine cO (X:=Unit) [1,4,5,36,37,38] [] (fun _=> True) (fun _=> []) (fun _=> []) ?_ ?_
    ·simp[h1,h3,h4,h5,bU,hk,hk2,hl, -Bool.forall_bool]
    ·rintro - -
     refine cO (X:=Unit) [1,4,5,36,37,38] [] (fun _=> True) (fun _=> []) (fun _=> []) ?_ ?_
     ·simp[h1,h3,h4,h5,bU,hk,hk2,hl, -Bool.forall_bool]
     ·rintro - -
      simp[h1,h3,h4,h5,bU,hk,hk2,hl, -Bool.forall_bool]
   ·intro _ _
    simp
def kE (c:Corpus):Prop:= ∀ (j:Nat) (y:oz),c.nodes[j]?=some y→y.par < j
abbrev s_r06_Validate:Spc:=cz (a1 Corpus) kE (Qu (Y:=Int) (Z:=Int) (W:=Int)) kK
theorem yh (h1:S fa=s_r06_Attributes) (h2:S jJ=s_r06_tokens) (h3:S kV=s_r06_texts) (h4:S iC=s_r06_regions) (h5:S kY=s_r06_Nodes) (h6:S kW=s_r06_heads):aK lF lm S (a1 Corpus) kE (Qu (Y:=Int) (Z:=Int) (W:=Int)) kK:=by
 rintro c hc
 simp[lF,lm,h1,h2,h3,h4,h5,h6,bU, -Bool.forall_bool]
 exact⟨hc,trivial⟩
abbrev s_r06_Valid:Spc:=cz (a1 Corpus) kE (enc (X:=Bool)) kK
theorem DS (h1:S gH=s_r06_Validate):aK pL o6 S (a1 Corpus) kE (enc (X:=Bool)) kK:=by
 rintro c hc
 simp[pL,o6,h1,bU, -Bool.forall_bool]
 exact hc
end Go.Gv

namespace Go.Gv
open Cod (enc dec)
variable {S S0:Nat→Spc}
theorem Pc {α:Type} (m:List α) (bl x:α) (j:Nat) (hj:j≤m.length): (List.take (j+1) (m++ [bl]) ++ (List.take (m.length -j) (List.drop j (List.take (m.length+1) (m++ [bl]))) ++List.drop (j+1+min (m.length+1-j) (m.length-j)) (m++ [bl]))).set j x=m.take j++x::m.drop j:=by
 have h1:List.take (m.length+1) (m++ [bl])=m++ [bl]:=List.take_of_length_le (by simp)
 have h2:List.drop j (m++ [bl])=m.drop j++ [bl]:=List.drop_append_of_le_length hj
 have h3:List.take (m.length -j) (m.drop j++ [bl])=m.drop j:=by rw[List.take_left'];simp
 have h4:List.drop (j+1+min (m.length+1-j) (m.length-j)) (m++ [bl])= []:=List.drop_of_length_le (by simp;omega)
 rw[h1,h2,h3,h4,List.append_nil]
 have h5:List.take (j+1) (m++[bl])=m.take j++ [(m++ [bl])[j]'(by simp;omega)]:=by
  rw[List.take_succ_eq_append_getElem (by simp;omega),List.take_append_of_le_length hj]
 rw[h5,List.append_assoc,List.set_append_right _ _ (by simp;omega)]
 simp[hj]
theorem Nj {α:Type} {m:List α} {bl x:α} {j n:Nat} (hn:m.length=n) (hj:j≤n): (List.take (j+1) (m++ [bl]) ++ (List.take (n -j) (List.drop j (List.take (n+1) (m++ [bl]))) ++List.drop (j+1+min (n+1-j) (n-j)) (m++ [bl]))).set j x=m.take j++x::m.drop j:=by
 subst hn;exact Pc m bl x j hj
def Mf (l m:List Region):Prop:=m.length=l.length∧ ∀x∈m,x∈l
def HA (l:List Region):Prop:=l.length≤1000000
abbrev s_r06_SortRegions:Spc:=cz (a1 (List Region)) HA (enc (X:=List Region)) Mf
theorem uf (h1:S bE=s_r06_CompareRegions):aK iZ iQ S (a1 (List Region)) HA (enc (X:=List Region)) Mf:=by
 rintro l hl
 have hl:l.length≤1000000:=hl
 simp[iZ,iQ, -Bool.forall_bool]
 intro _
 refine ar (X:=Value×List Region) [7] [] l.length (fun k x=> x.2.length=k∧ ∀y∈x.2,y∈l) (fun x=> [(3, .own 32 x.1)]) (fun x=> [(32, .row x.1 bG 4 (x.2.map enc))]) (.slice none 0 0, []) (by simp) (by simp) (by omega) (by simp) (by simp) (by simp) (by simp) (by simp[isNilRow]) ?_ ?_
 ·rintro k ⟨v,m⟩ hk ⟨hm1,hm2⟩
  simp at hm1 hm2
  simp[hk]
  refine fun b _=> ?_
  refine cO (X:=Nat) [3,5,7,8,9] [5,32] (fun x=> x≤m.length) (fun x=> [(6,enc (x:Int))]) (fun x=> []) ?_ ?_
  ·simp
   refine bh (X:=Nat) [3,5,7,8,9] [5,32] (fun x=> x≤m.length) (fun x=> [(6,enc (x:Int))]) (fun x=> []) (fun x=> x) m.length (by simp) (by simp) (by simp) ?_
   intro j hj
   simp[h1,bU]
   refine⟨fun h0=> ⟨by simp only[InR];omega,by omega,by omega,by omega,fun a _ y=> ⟨fun _=> ⟨by simp only[InR];omega,j -1,by omega,by omega,by omega⟩,fun _=> ⟨j,hj,rfl⟩⟩⟩,fun _=> ⟨j,hj,rfl⟩⟩
  ·intro j hj
   simp
   have hx:D.agg [D.v (Value.string l[k].ty),D.v (Value.int IntKind.i64 l[k].b),D.v (Value.int IntKind.i64 l[k].e),D.list 2 (List.map enc l[k].kv)]=enc l[k]:=by simp
   refine⟨by omega,by omega,fun v=> ⟨by simp only[InR];omega,by omega,by omega,by omega,by omega,by omega,fun d _=> ⟨v,m.take j++l[k]::m.drop j,⟨by simp;omega,fun y hy=> ?_⟩,rfl, .inl ⟨rfl,?_⟩⟩⟩⟩
   ·rcases List.mem_append.1 hy with h | h
    ·exact hm2 _ (List.mem_of_mem_take h)
    ·rcases List.mem_cons.1 h with rfl | h
     ·exact List.getElem_mem hk
     ·exact hm2 _ (List.mem_of_mem_drop h)
   ·refine(Nj (by simp) hj).trans ?_
    rw[hx,qJ,LK,List.map_append,List.map_cons]
 ·rintro⟨v,m⟩ ⟨hm1,hm2⟩
  simp at hm1 hm2
  simp
  exact dK m (jH bG (by simp)) ⟨hm1,hm2⟩
def sK (s:Int):List rR→Int→Prop
 | [],e=> s=e
 | t::r,e=> t.b=s∧t.b < t.e∧sK t.e r e
def FT (c:Corpus):Prop:=sK 0 c.texts c.toks.length∧c.texts≠ []∧c.toks.length≤4096∧c.texts.length≤64∧c.regs.length≤1024∧c.nodes.length≤2048∧c.attrs.length≤1000∧c.heads.length≤c.toks.length∧c.rels.length≤c.toks.length∧
 (∀x∈c.regs,0≤x.b∧x.b≤c.toks.length∧0≤x.e∧x.e≤c.toks.length)∧(∀x∈c.nodes,0≤x.b∧x.b≤c.toks.length∧0≤x.e∧x.e≤c.toks.length)∧(∀ (j:Nat) (y:oz),c.nodes[j]?=some y→y.par < j)∧ ∀h∈c.heads,h≤c.toks.length
def At (c:Corpus) (x:List Int×List B):Prop:=(∀h∈x.1,h≤c.toks.length)∧x.1.length≤c.toks.length∧x.2.length≤c.toks.length
abbrev s_r06_allHeads:Spc:=cz (a1 Corpus) FT (sy (Y:=List Int) (Z:=List B)) At
theorem yg:aK lE ll S (a1 Corpus) FT (sy (Y:=List Int) (Z:=List B)) At:=by
 rintro c hc
 obtain⟨c1,c2,c3,c4,c5,c6,c7,c8,c9,c10,c11,c12,c13⟩:=hc
 simp[lE,ll, -Bool.forall_bool]
 refine fun _=> ⟨fun _=> ⟨c.heads, .same _,c.rels, .same _,c13,c8,c9⟩,fun _ _=> ⟨by omega,by omega,fun v _=> ?_⟩⟩
 refine ar (X:=List Int) [1] [] c.toks.length (fun k x=> x.length=c.toks.length∧ ∀ (j:Nat) (y:Int),x[j]?=some y→j < k→y= -1) (fun x=> [(4, .own 17 v)]) (fun x=> [(17, .row v ci 1 (x.map enc))]) (List.replicate c.toks.length 0) (by simp) (by simp) (by omega) (by simp) (by simp) (by simp) (by simp) (by simp) ?_ ?_
 ·rintro k m hk ⟨hm1,hm2⟩
  simp
  refine⟨by omega,fun a _=> ⟨m.set k (-1),⟨by simpa using hm1,fun j y hy hj=> ?_⟩, .inl (gk m k (-1))⟩⟩
  rw[List.getElem?_set] at hy
  split at hy
  ·split at hy
   ·cases hy;rfl
   ·cases hy
  ·exact hm2 j y hy (by omega)
 ·rintro m ⟨hm1,hm2⟩
  simp
  refine fun _=> ⟨by omega,by omega,fun x=> ⟨m,jH ci (by simp),List.replicate c.toks.length ⟨#[]⟩,jH ak (by simp),fun y hy=> ?_,by show m.length≤_;omega,by simp⟩⟩
  obtain⟨j,hj⟩:=List.mem_iff_getElem?.1 hy
  have:=hm2 j y hj (by have:=(List.getElem?_eq_some_iff.1 hj).1;have h9:j < m.length:=this;omega)
  omega
end Go.Gv
