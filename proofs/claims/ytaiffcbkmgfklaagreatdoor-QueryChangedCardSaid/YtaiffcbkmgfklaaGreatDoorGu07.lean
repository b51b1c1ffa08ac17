/- A part of the framework and of the walks: T5 T6. -/
import Derived.Test.YtaiffcbkmgfklaaGreatDoorGu06
set_option linter.unusedSimpArgs false
set_option linter.unusedVariables false

namespace Go.Gv
def Dq (o:Oper):List Nat:=(o.after.toList.filter fun e=> Region.binds .any e).map (·.on)
def L6:List Oper→List (List Nat)→List (List Nat)
 | [],acc=> acc
 | o::r,acc=> L6 r (acc++ [((Dq o) ++ (Dq o).flatMap fun j=> (acc[j]?).getD []).eraseDups])
def Rj (ops:Array Oper):List (List Nat):=L6 ops.toList []
def PO (an:List (List Nat)) (j i:Nat):Bool:=((an[j]?).getD []).contains i
def Pw (ops:Array Oper) (cis:List CI) (m:Nat):Bool:=
 (List.range ops.size).all (fun i=> ((ops[i]?).map fun o=> (Dq o).all (· < i)).getD true) &&
 (List.range ops.size).all (fun j=> decide (j < m) || (List.range j).all fun i=> PO (Rj ops) j i) &&
 (List.range m).all (fun j=> (List.range j).all fun i=> PO (Rj ops) j i || (match cis[i]?,cis[j]? with | some x,some y=> iP x y | _,_=> false)) &&
 decide (m≤ops.size)
def tu (listed:Array Bool) (i:Nat):Prop:=listed.getD i false=true
def DC (ops:Array Oper) (listed:Array Bool):Prop:= ∀i o,ops[i]?=some o→tu listed i→ ∀j∈Dq o,tu listed j
theorem I6 {α:Type} [BEq α] [LawfulBEq α] {l:List α} {x:α} (h:x∈l.eraseDups):x∈l:=by
 simpa using h
theorem WT {ops:Array Oper} {listed:Array Bool} (hdc:DC ops listed): ∀ (r:List Oper) (acc:List (List Nat)),(∀ (k:Nat),r[k]?=ops[acc.length+k]?)→
 (∀ (k:Nat) (l:List Nat),acc[k]?=some l→(∀o,ops[k]?=some o→ ∀j∈Dq o,tu listed j)→ ∀j∈l,tu listed j)→
 ∀ (k:Nat) (l:List Nat),(L6 r acc)[k]?=some l→(∀o,ops[k]?=some o→ ∀j∈Dq o,tu listed j)→ ∀j∈l,tu listed j
 | [],acc,_,hacc=> hacc
 | o::r,acc,hr,hacc=> by
   simp only[L6]
   refine WT hdc r _ (fun k=> ?_) (fun k l hl hd j hj=> ?_)
   ·have:=hr (k+1)
    simp only[List.getElem?_cons_succ] at this
    rw[this]
    congr 1
    simp;omega
   ·have ho:ops[acc.length]?=some o:=by
     have:=hr 0
     simpa using this.symm
    by_cases hk:k < acc.length
    ·rw[List.getElem?_append_left hk] at hl
     exact hacc k l hl hd j hj
    ·rw[List.getElem?_append_right (by omega)] at hl
     have hk0:k -acc.length=0:=by
      have:=(List.getElem?_eq_some_iff.1 hl).1
      simp at this;omega
     have hke:k=acc.length:=by omega
     subst hke
     rw[hk0] at hl
     simp at hl
     subst hl
     have hd':=hd o ho
     rcases List.mem_append.1 (I6 hj) with hj | hj
     ·exact hd' j hj
     ·obtain⟨q,hq,hjq⟩:=List.mem_flatMap.1 hj
      cases hacq:acc[q]? with
      | none=> rw[hacq] at hjq;simp at hjq
      | some lq=>
        rw[hacq] at hjq
        simp at hjq
        exact hacc q lq hacq (fun oq hoq=> hdc q oq hoq (hd' q hq)) j hjq
theorem Bm {ops:Array Oper} {listed:Array Bool} (hdc:DC ops listed) {j i:Nat} (h:PO (Rj ops) j i=true) (hj: ∀o,ops[j]?=some o→ ∀k∈Dq o,tu listed k):tu listed i:=by
 unfold PO at h
 cases hl: (Rj ops)[j]? with
 | none=> rw[hl] at h;simp at h
 | some l=>
   rw[hl] at h
   exact WT hdc ops.toList [] (fun k=> by simp) (fun k l h=> by simp at h) j l hl hj i (by simpa using h)
theorem pT {ops:Array Oper} {listed:Array Bool} {i:Nat} :i∈Region.ready .any ops listed↔i < ops.size∧listed.getD i true=false∧ ∀o,ops[i]?=some o→ ∀j∈Dq o,tu listed j:=by
 unfold Region.ready
 rw[List.mem_filter,List.mem_range]
 constructor
 ·rintro⟨h1,h2⟩
  simp only[Bool.and_eq_true,Bool.not_eq_true'] at h2
  refine⟨h1,h2.1,fun o ho j hj=> ?_⟩
  rw[ho] at h2
  simp only[Option.map_some,Option.getD_some,Array.all_eq_true] at h2
  unfold Dq at hj
  obtain⟨e,he,rfl⟩:=List.mem_map.1 hj
  rw[List.mem_filter] at he
  obtain⟨k,hk,hke⟩:=List.mem_iff_getElem.1 he.1
  have:=h2.2 k (by simpa using hk)
  have hke':o.after[k]'(by simpa using hk)=e:=by simpa using hke
  rw[hke',he.2] at this
  simpa [tu] using this
 ·rintro⟨h1,h2,h3⟩
  have ho:ops[i]?=some ops[i]:=by simp[h1]
  refine⟨h1,?_⟩
  simp only[h2,Bool.not_false,Bool.true_and,ho,Option.map_some,Option.getD_some,Array.all_eq_true]
  intro k hk
  by_cases hb:Region.binds .any (ops[i].after[k])=true
  ·have:=h3 _ ho (ops[i].after[k]).on (by
    unfold Dq
    exact List.mem_map.2 ⟨_,List.mem_filter.2 ⟨by simp,hb⟩,rfl⟩)
   simp only[tu] at this
   simp[this]
  ·simp[hb]
theorem HI {listed:Array Bool} {i k:Nat} (hi:i < listed.size):tu (listed.setIfInBounds i true) k↔k=i∨tu listed k:=by
 simp only[tu,Array.getD_eq_getD_getElem?,Array.getElem?_setIfInBounds]
 by_cases h:i=k
 ·subst h;simp[hi]
 ·rw[if_neg h]
  constructor
  ·exact .inr
  ·rintro(rfl | h2)
   ·exact absurd rfl h
   ·exact h2
theorem WC {ops:Array Oper} {listed:Array Bool} (hdc:DC ops listed) (hs:listed.size=ops.size) {i:Nat} (hi:i∈Region.ready .any ops listed):DC ops (listed.setIfInBounds i true):=by
 obtain⟨h1,h2,h3⟩:=pT.1 hi
 intro k o ho hk j hj
 rw[HI (by omega)] at hk ⊢
 rcases hk with rfl | hk
 ·exact .inr (h3 o ho j hj)
 ·exact .inr (hdc k o ho hk j hj)
theorem mE {ops:Array Oper} {listed:Array Bool} (hs:listed.size=ops.size) {i:Nat} (hi:i < ops.size):listed.getD i true=false↔ ¬tu listed i:=by
 simp only[tu,Array.getD_eq_getD_getElem?]
 have:listed[i]?=some listed[i]:=by simp[hs,hi]
 rw[this]
 simp
section
variable {P:Program} {im:List Nat} {E:pR} {S:Nat→Spc} {ops:Array Oper}
theorem xb {cis:List CI} {N:Nat} (h:lu P im N ops=some cis):cis.length=ops.size∧ ∀ (i:Nat) (o:Oper),ops[i]?=some o→ ∃x,cis[i]?=some x∧dE P im N ops o=some x:=by
 unfold lu at h
 have key: ∀ (l:List Oper) (cs:List CI),l.mapM (dE P im N ops)=some cs→cs.length=l.length∧ ∀ (i:Nat) (o:Oper),l[i]?=some o→ ∃x,cs[i]?=some x∧dE P im N ops o=some x:=by
  intro l
  induction l with
  | nil=> intro cs h;simp at h;subst h;exact⟨rfl,fun i o h=> by simp at h⟩
  | cons o l ih=>
    intro cs h
    rw[List.mapM_cons] at h
    simp only[Option.bind_eq_bind,Option.bind_eq_some_iff] at h
    obtain⟨x,hx,y,hy,h⟩:=h
    cases h
    obtain⟨h1,h2⟩:=ih y hy
    refine⟨by simp[h1],fun i q hq=> ?_⟩
    cases i with
    | zero=> simp at hq;subst hq;exact⟨x,rfl,hx⟩
    | succ i=> simp at hq;simpa using h2 i q hq
 obtain⟨h1,h2⟩:=key _ _ h
 exact⟨by simpa using h1,fun i o ho=> h2 i o (by simpa using ho)⟩
theorem FJ {Q:Exit→Act→World→Prop} {K:Sg→ab→Prop} {z:List PanicEntry→Prop} (hpan: ∀c a w',a.defers=E.ds→Oq E z c w'→Q (.panic c) a w') (hQ: ∀σ H a w,St E σ H a w→K σ H→Q .normal a w)
 (hC0: ∀i o,ops[i]?=some o→ ∀j∈Dq o,j < i) {m:Nat} (hC2: ∀j,m≤j→j < ops.size→ ∀i,i < j→PO (Rj ops) j i=true):
 ∀ (tl:List CI),(∀x∈tl,dS P z S x)→ ∀ (k:Nat) (listed:Array Bool),m≤k→k≤ops.size→listed.size=ops.size→(∀i,i < ops.size→(tu listed i↔i < k))→DC ops listed→
  ((ops.toList.drop k).mapM (dE P im E.N ops)=some (tl.filter CI.real))→ ∀ (σ:Sg) (H:ab) (a:Act) (w:World),St E σ H a w→xz S tl σ H K→
  wpAny P .any ops Q (ops.size -k) listed a w
 | [],hS,k,listed,hmk,hk,hs,hd,hdc,hm,σ,H,a,w,hst,hv=> by
   have hkn:k=ops.size:=by
    cases hdr:ops.toList.drop k with
    | nil=>
      have:=congrArg List.length hdr
      simp at this
      omega
    | cons o r=>
      rw[hdr,List.mapM_cons] at hm
      simp only[Option.bind_eq_bind,Option.bind_eq_some_iff,List.filter_nil] at hm
      obtain⟨x,_,y,_,h⟩:=hm
      cases h
   subst hkn
   rw[Nat.sub_self]
   refine⟨?_,hQ σ H a w hst hv⟩
   rw[List.eq_nil_iff_forall_not_mem]
   intro i hi
   obtain⟨h1,h2,_⟩:=pT.1 hi
   rw[mE hs h1] at h2
   exact h2 ((hd i h1).2 h1)
 | .frz t n::tl,hS,k,listed,hmk,hk,hs,hd,hdc,hm,σ,H,a,w,hst,hv=> by
   simp only[xz] at hv
   obtain⟨σ',H',hst',hv'⟩:=Dh hst hv
   exact FJ hpan hQ hC0 hC2 tl (fun x hx=> hS x (by simp[hx])) k listed hmk hk hs hd hdc (by simpa [List.filter_cons,CI.real] using hm) σ' H' a w hst' hv'
 | .op dst g c::tl,hS,k,listed,hmk,hk,hs,hd,hdc,hm,σ,H,a,w,hst,hv=> by
   have hkn:k < ops.size:=by
    cases hdr:ops.toList.drop k with
    | nil=> rw[hdr] at hm;simp[List.filter_cons,CI.real] at hm
    | cons o r=>
      have:=congrArg List.length hdr
      simp at this
      omega
   have hdrop:ops.toList.drop k=ops[k]::ops.toList.drop (k+1):=by
    rw[List.drop_eq_getElem_cons (by simpa using hkn)]
    simp
   rw[hdrop,List.mapM_cons] at hm
   simp only[Option.bind_eq_bind,Option.bind_eq_some_iff,List.filter_cons,CI.real,if_true] at hm
   obtain⟨x,hx,y,hy,h⟩:=hm
   cases h
   obtain⟨g',c',hxe,hc,hg,hdst⟩:=jn hx
   cases hxe
   have hfu:ops.size -k=(ops.size - (k+1)) +1:=by omega
   rw[hfu]
   have hok:ops[k]?=some ops[k]:=by simp[hkn]
   have hkready:k∈Region.ready .any ops listed:=pT.2 ⟨hkn,(mE hs hkn).2 (fun h=> by have:=(hd k hkn).1 h;omega),fun o ho j hj=> by
    have hjk:=hC0 k o ho j hj
    exact(hd j (by omega)).2 hjk⟩
   refine⟨fun h=> (by rw[h] at hkready;cases hkready),fun i hi=> ?_⟩
   obtain⟨h1,h2,h3⟩:=pT.1 hi
   rw[mE hs h1] at h2
   have hik:i=k:=by
    rcases Nat.lt_trichotomy i k with h | h | h
    ·exact absurd ((hd i h1).2 h) h2
    ·exact h
    ·exfalso
     have:=Bm hdc (hC2 i (by omega) h1 k h) h3
     have:=(hd k hkn).1 this
     omega
   subst hik
   unfold wpOp
   rw[hok]
   simp only[]
   have hst0:=hst
   obtain⟨hdf,hN,tp,hw,hr⟩:=hst
   simp only[xz] at hv
   have hnext: ∀ (σ':Sg) (H':ab) (a':Act) (w':World),St E σ' H' a' w'→xz S tl σ' H' K→wpAny P .any ops Q (ops.size - (i+1)) (listed.setIfInBounds i true) a' w':=fun σ' H' a' w' hst' hv'=>
    FJ hpan hQ hC0 hC2 tl (fun x hx=> hS x (by simp[hx])) (i+1) _ (by omega) (by omega) (by simpa using hs) (fun j hj=> by rw[HI (by omega),hd j hj];omega) (WC hdc hs hi) hy σ' H' a' w' hst' hv'
   rcases rN hg hr hv with⟨hwant,hyes⟩ | ⟨hwant,hno⟩
   ·rw[if_pos hwant]
    exact .inl (xt (hS (.op _ g c) (List.mem_cons_self ..)) hc hw hdf hN hr hdst hyes (fun c w'=> hpan c a w' hdf) (fun r H' x w' hk hst'=> hnext _ _ _ _ hst' hk))
   ·rw[if_neg (by simp[hwant])]
    exact hnext _ _ _ _ (hst0.skip _ hdst) hno
theorem Yl {Q:Exit→Act→World→Prop} {K:Sg→ab→Prop} {z:List PanicEntry→Prop} (hpan: ∀c a w',a.defers=E.ds→Oq E z c w'→Q (.panic c) a w') (hQ: ∀σ H a w,St E σ H a w→K σ H→Q .normal a w) {cis:List CI} (hcis:lu P im E.N ops=some cis)
 (hC0: ∀i o,ops[i]?=some o→ ∀j∈Dq o,j < i) {m:Nat} (hS: ∀j x,j < m→cis[j]?=some x→dS P z S x) (hquiet: ∀j i x y,j < i→i < m→cis[j]?=some x→cis[i]?=some y→iP x y=true→dS P JC S x) (hm:m≤ops.size) (hC2: ∀j,m≤j→j < ops.size→ ∀i,i < j→PO (Rj ops) j i=true)
 (hC1: ∀j,j < m→ ∀i,i < j→PO (Rj ops) j i=true∨ ∃x y,cis[i]?=some x∧cis[j]?=some y∧iP x y=true) {tl:List CI} (htl: (ops.toList.drop m).mapM (dE P im E.N ops)=some (tl.filter CI.real)) (hStl: ∀x∈tl,dS P z S x) {Hr:Nat→ab}
 (hban: ∀i j x t,i < m→j < m→i≠j→cis[i]?=some x→x.wid=some t→Hr j t=none∨PO (Rj ops) i j=true) (hbanc: ∀i j x t,i < m→j < m→i < j→cis[i]?=some x→x.wid=some t→Hr j t=none):
 ∀ (n:Nat) (us:List Nat) (listed:Array Bool),us.length=n→us.Pairwise (· < ·)→(∀i∈us,i < m)→listed.size=ops.size→(∀i,i < ops.size→(tu listed i↔i < m∧i∉us))→DC ops listed→
  ∀ (σ:Sg) (H:ab) (a:Act) (w:World),St E σ H a w→(∀i∈us,OA (Hr i) H)→Xz S (us.map fun i=> ((cis[i]?).getD (.frz 0 0),Hr i)) σ H (fun σ H=> xz S tl σ H K)→
  wpAny P .any ops Q (us.length+ (ops.size -m)) listed a w:=by
 obtain⟨hclen,hcget⟩:=xb hcis
 intro n
 induction n with
 | zero=>
   intro us listed hn hpw hus hs hd hdc σ H a w hst hle hv
   have:us= []:=List.eq_nil_of_length_eq_zero hn
   subst this
   simp only[List.length_nil,Nat.zero_add]
   exact FJ hpan hQ hC0 hC2 tl hStl m listed (Nat.le_refl _) hm hs (fun i hi=> by rw[hd i hi];simp) hdc htl σ H a w hst hv
 | succ n ih=>
   intro us listed hn hpw hus hs hd hdc σ H a w hst hle hv
   have hfu:us.length+ (ops.size -m)=(n+ (ops.size -m)) +1:=by omega
   rw[hfu]
   -- something may come up
   have hne:Region.ready .any ops listed≠ []:=by
    cases us with
    | nil=> simp at hn
    | cons u us=>
      have hum:=hus u (by simp)
      have:u∈Region.ready .any ops listed:=pT.2 ⟨by omega,(mE hs (by omega)).2 (fun h=> ((hd u (by omega)).1 h).2 (by simp)),fun o ho j hj=> by
       have hju:=hC0 u o ho j hj
       refine(hd j (by omega)).2 ⟨by omega,fun hmem=> ?_⟩
       rcases List.mem_cons.1 hmem with rfl | hmem
       ·omega
       ·have:=List.rel_of_pairwise_cons hpw hmem
        omega⟩
      intro h
      rw[h] at this
      cases this
   refine⟨fun h=> absurd h hne,fun i hi=> ?_⟩
   obtain⟨h1,h2,h3⟩:=pT.1 hi
   rw[mE hs h1] at h2
   have hiu:i∈us:=by
    by_cases him:i < m
    ·by_cases hmem:i∈us
     ·exact hmem
     ·exact absurd ((hd i h1).2 ⟨him,hmem⟩) h2
    ·exfalso
     cases us with
     | nil=> simp at hn
     | cons u us=>
       have hum:=hus u (by simp)
       have:=Bm hdc (hC2 i (by omega) h1 u (by omega)) h3
       exact((hd u (by omega)).1 this).2 (by simp)
   obtain⟨us1,us2,rfl⟩:=List.append_of_mem hiu
   have him:i < m:=hus i hiu
   have hoi:ops[i]?=some ops[i]:=by simp[h1]
   obtain⟨x,hxi,hx⟩:=hcget i _ hoi
   have hlt1: ∀j∈us1,j < i:=fun j hj=> by
    have:=List.pairwise_append.1 hpw
    exact this.2.2 j hj i (by simp)
   -- what stands ahead of it in the text is apart from it
   have hap: ∀y∈us1.map (fun i=> ((cis[i]?).getD (.frz 0 0),Hr i)),iP y.1 x=true:=by
    intro y hy
    obtain⟨j,hj,rfl⟩:=List.mem_map.1 hy
    have hji:=hlt1 j hj
    rcases hC1 i him j hji with h | ⟨x',y',e1,e2,e3⟩
    ·exfalso
     have:=Bm hdc h h3
     exact((hd j (by omega)).1 this).2 (by simp[hj])
    ·rw[hxi] at e2
     cases e2
     simp only[e1,Option.getD_some]
     exact e3
   rw[List.map_append,List.map_cons,hxi] at hv
   simp only[Option.getD_some] at hv
   obtain⟨pre,out,hform⟩:=GZ S x σ (Hr i) (sT H x.wid)
   have hform: ∀H',sT H' x.wid=sT H x.wid→ ∀K,IK S x σ (Hr i) H' K↔ (pre∧ ∀d u,out d u→K d (gF H' x.wid u)):=hform
   have hgx: ∀ (j:Nat),j < i→ ∃y o,cis[j]?=some y∧dE P im E.N ops o=some y:=fun j hj=> by
    obtain⟨y',hy1,hy2⟩:=hcget j ops[j] (by simp)
    exact⟨y',_,hy1,hy2⟩
   have hpre:=Jf (x:=(x,Hr i)) (im:=im) (ops:=ops) _ _ σ H a w (fun y hy=> by
    obtain⟨j,hj,rfl⟩:=List.mem_map.1 hy
    obtain⟨y',o',hy1,hy2⟩:=hgx j (hlt1 j hj)
    simp only[hy1,Option.getD_some]
    have hap1:=hap ((cis[j]?).getD (.frz 0 0),Hr j) (List.mem_map.2 ⟨j,hj,rfl⟩)
    simp only[hy1,Option.getD_some] at hap1
    exact hquiet j i y' x (hlt1 j hj) him hy1 hxi hap1) hap (fun y hy=> by
    obtain⟨j,hj,rfl⟩:=List.mem_map.1 hy
    obtain⟨y',o',hy1,hy2⟩:=hgx j (hlt1 j hj)
    simp only[hy1,Option.getD_some]
    exact⟨_,hy2⟩) (by
    rw[List.pairwise_map]
    refine(List.pairwise_append.1 hpw).1.imp_of_mem ?_
    intro j k hj hk hjk t ht
    obtain⟨y',o',hy1,hy2⟩:=hgx j (hlt1 j hj)
    simp only[hy1,Option.getD_some] at ht
    have:=hlt1 k hk
    exact hbanc j k y' t (by omega) (by omega) hjk hy1 ht) (fun y hy t ht=> by
    obtain⟨j,hj,rfl⟩:=List.mem_map.1 hy
    have hji:=hlt1 j hj
    obtain⟨y',o',hy1,hy2⟩:=hgx j hji
    simp only[hy1,Option.getD_some] at ht
    exact hbanc j i y' t (by omega) (by omega) hji hy1 ht) hst (fun y hy=> by
    obtain⟨j,hj,rfl⟩:=List.mem_map.1 hy
    exact hle j (by simp[hj])) (hle i (by simp)) hv _ rfl pre out hform
   have htake:=MA (x:=(x,Hr i)) _ _ σ H hap hv _ rfl pre out hform
   obtain⟨g,c,hxe,_,_,_⟩:=jn hx
   have hdx:x.dst=(ops[i]).dst:=by rw[hxe];rfl
   have hvx:IK S x σ (Hr i) H fun d H'=> Xz S ((us1++us2).map fun i=> ((cis[i]?).getD (.frz 0 0),Hr i)) (f9 σ x.dst d) H' (fun σ H=> xz S tl σ H K)∧ ∀j∈us1++us2,OA (Hr j) H':=(hform H rfl _).2 ⟨hpre,fun d u hout=> ⟨by rw[List.map_append];exact htake d u hout,fun j hj k r hk=> by
    have hju:j∈us1++i::us2:=by
     rcases List.mem_append.1 hj with h | h <;> simp[h]
    have hle':=hle j hju
    cases u with
    | none=> rw[lT];exact hle' k r hk
    | some u=>
      cases hxd:x.wid with
      | none=> simp only[gF];exact hle' k r hk
      | some t=>
        simp only[gF,au]
        have hji:i≠j:=fun e=> by
         subst e
         have:=List.pairwise_append.1 hpw
         rcases List.mem_append.1 hj with h | h
         ·have:=hlt1 i h;omega
         ·have h4:=List.rel_of_pairwise_cons this.2.1 h;omega
        have hjm:=hus j hju
        have hne:k≠t:=fun e=> by
         rcases hban i j x t him hjm hji hxi hxd with h | h
         ·rw[e,h] at hk
          cases hk
         ·have h5:=Bm hdc h h3
          exact((hd j (by omega)).1 h5).2 hju
        rw[if_neg hne]
        exact hle' k r hk⟩⟩
   unfold wpOp
   rw[hoi]
   simp only[]
   have hlen: (us1++us2).length=n:=by simp at hn ⊢;omega
   have hsub: (us1++us2).Pairwise (· < ·):=hpw.sublist (by simp)
   have hnd:i∉us1++us2:=by
    have:=List.pairwise_append.1 hpw
    intro h
    rcases List.mem_append.1 h with h | h
    ·have:=hlt1 i h;omega
    ·have h4:=List.rel_of_pairwise_cons this.2.1 h;omega
   have hps:=Jv (Q:=Q) (next:=wpAny P .any ops Q (n+ (ops.size -m)) (listed.setIfInBounds i true)) (hS i x him hxi) hx hst (hle i (by simp)) hvx (fun c w'=> hpan c a w' hst.1) (fun r H' v w' hk hst'=> by
    rw[←hdx] at hst'
    have:=ih (us1++us2) (listed.setIfInBounds i true) hlen hsub (fun j hj=> hus j (by simp at hj ⊢;rcases hj with h | h <;> simp[h])) (by simpa using hs) (fun j hj=> by
     rw[HI (by omega),hd j hj]
     constructor
     ·rintro(rfl | ⟨ha,hb⟩)
      ·exact⟨him,hnd⟩
      ·exact⟨ha,fun h=> hb (by simp at h ⊢;rcases h with h | h <;> simp[h])⟩
     ·rintro⟨ha,hb⟩
      by_cases hji:j=i
      ·exact .inl hji
      ·exact .inr ⟨ha,fun h=> hb (by simp at h ⊢;rcases h with h | h | h;exact .inl h;exact absurd h hji;exact .inr h)⟩) (WC hdc hs hi) _ H' _ w' hst' hk.2 hk.1
    rw[hlen,hdx] at this
    exact this)
   split
   ·rename_i hw
    rw[if_pos hw] at hps
    exact .inl hps
   ·rename_i hw
    rw[if_neg hw] at hps
    exact hps
end
end Go.Gv

namespace Go.Gv
inductive Ex where
 | norm
 | ex (id:Nat)
 | ret
inductive CC where
 | skip
 | reg (l:List CI)
 | regd (pre tl:List CI)
 | seq (a b:CC)
 | ite (c:Operand) (a b:CC)
 | block (id:Nat) (b:CC)
 | loop (key:Nat) (b:CC)
 | exit (id:Nat)
 | ret
 | cut (key:Nat) (c:CC)
 | keep (ls lh:List Nat) (c:CC)
structure qbu where
 X:Type
 P:X→Prop
 s:X→Sg
 h:X→ab
 m:X→Nat
def Wk (σ:Sg) (H:ab) (σ':Sg) (H':ab):Prop:= ∀ (E:pR) (a:Act) (w:World),St E σ H a w→St E σ' H' a w
def Qg (a b:D):Prop:=
 match b with
 | .any=> True
 | .own _ x=> a= .v x∨ ∃i,a= .own i x
 | .list n es=> a= .list n es∨(a= .v (.slice none 0 0)∧es= [])
 | b=> a=b
def isNilRow:Res→Prop
 | .row x _ _ es=> x= .slice none 0 0∧es= []
 | _=> False
def rk:List (Nat×D)→Sg→Prop
 | [],_=> True
 | (t,d)::l,σ=> Qg (σ t) d∧rk l σ
def uG:List (Nat×Res)→ab→Prop
 | [],_=> True
 | (i,r)::l,H=> (H i=some r∨isNilRow r)∧uG l H
def qeE:List (Nat×D)→Sg
 | []=> fun _=> .any
 | (t,d)::l=> l5 (qeE l) t d
def jW (ls:List Nat) (σ:Sg):Sg:=qeE (ls.map fun t=> (t,σ t))
def jX:List Nat→ab→ab
 | [],_=> fun _=> none
 | i::l,H=> au (jX l H) i (H i)
def vc (S:Nat→Spc):CC→(Ex→Sg→ab→Prop)→Sg→ab→Prop
 | .skip,K,σ,H=> K .norm σ H
 | .reg l,K,σ,H=> xz S l σ H (K .norm)
 | .regd pre tl,K,σ,H=> lY S pre σ (ck pre H) H fun σ H=> xz S tl σ H (K .norm)
 | .seq a b,K,σ,H=> vc S a (fun e σ H=> match e with
   | .norm=> vc S b K σ H
   | e=> K e σ H) σ H
 | .ite c a b,K,σ,H=> match ev σ c with
   | .v (.bool t)=> (t=true→vc S a K σ H)∧(t=false→vc S b K σ H)
   | _=> False
 | .block id b,K,σ,H=> vc S b (fun e σ H=> match e with
   | .ex i=> if i=id then K .norm σ H else K (.ex i) σ H
   | e=> K e σ H) σ H
 | .loop _ b,K,σ,H=> ∃inv:qbu,(∃x,inv.P x∧Wk σ H (inv.s x) (inv.h x))∧ ∀x,inv.P x→vc S b (fun e σ' H'=> match e with
    | .norm=> ∃y,inv.P y∧Wk σ' H' (inv.s y) (inv.h y)∧inv.m y < inv.m x
    | e=> K e σ' H') (inv.s x) (inv.h x)
 | .exit id,K,σ,H=> K (.ex id) σ H
 | .ret,K,σ,H=> K .ret σ H
 | .keep ls lh c,K,σ,H=> vc S c K (jW ls σ) (jX lh H)
 | .cut _ c,K,σ,H=> ∃ (σ':Sg) (H':ab),Wk σ H σ' H'∧vc S c K σ' H'
def dZ:CC→CC
 | .reg l=> .reg (l.filter CI.real)
 | .regd pre tl=> .regd pre (tl.filter CI.real)
 | .seq a b=> .seq (dZ a) (dZ b)
 | .ite c a b=> .ite c (dZ a) (dZ b)
 | .block id b=> .block id (dZ b)
 | .loop _ b=> .loop 0 (dZ b)
 | .cut _ c=> dZ c
 | .keep _ _ c=> dZ c
 | c=> c
def cU (ops:Array Oper):Nat:=
 ((List.range (ops.size+1)).find? fun m=> (List.range ops.size).all fun j=> decide (j < m) || (List.range j).all fun i=> PO (Rj ops) j i).getD ops.size
def COp.noRead:COp→Bool
 | .mv _ | .nilck _ | .faddr _ _ | .ext _ _ | .arith _ _ _ | .cmp _ _ _ | .not _ | .conv _ _=> true
 | _=> false
def CI.noRead:CI→Bool
 | .op _ _ c=> c.noRead
 | .frz _ _=> false
def Lo (ops:Array Oper) (cis:List CI) (m k:Nat):Bool:=
 decide (k≤m) && (List.range k).all fun j=> ((cis[j]?).map CI.noRead).getD false || (List.range m).all fun i=> decide (i < k) || (((cis[i]?).map fun x=> x.wid.isNone).getD true) || PO (Rj ops) i j
def CI.isSt:CI→Bool
 | .op _ _ (.store (some _) _ _ _)=> true
 | _=> false
def CI.isLd:CI→Bool
 | .op _ _ (.load _ _ _)=> true
 | _=> false
def qdb (ops:Array Oper) (cis:List CI) (m:Nat):Option Nat:=do
 let f ← (List.range m).find? fun i=> ((cis[i]?).map CI.isSt).getD false
 let k ← ((List.range (f+1)).reverse).find? fun k=> Lo ops cis m k
 if(List.range k).any fun j=> ((cis[j]?).map CI.isLd).getD false then some k else none
def UT (ops:Array Oper) (cis:List CI) (m:Nat):List CI:=
 match qdb ops cis m with
 | some k=> if Lo ops cis m k then cis.take k++ .frz 0 0:: (cis.take m).drop k else cis.take m
 | none=> cis.take m
def bd (P:Program) (im:List Nat) (N:Nat):Code→Option CC
 | .skip=> some .skip
 | .label _=> some .skip
 | .region _ ops false=> (lu P im N ops).map .reg
 | .region _ ops true=> do
   let cis ←lu P im N ops
   if Pw ops cis (cU ops) then some (.regd (UT ops cis (cU ops)) (cis.drop (cU ops))) else none
 | .seq a b=> do some (.seq (←bd P im N a) (←bd P im N b))
 | .cond c a b=> do if uS c then some (.ite c (←bd P im N a) (←bd P im N b)) else none
 | .block id b=> do some (.block id (←bd P im N b))
 | .loop b=> do some (.loop 0 (←bd P im N b))
 | .exit id=> some (.exit id)
 | .ret=> some .ret
 | _=> none
section
variable {P:Program} {im:List Nat} {E:pR} {S:Nat→Spc}
theorem ZE {tp I:Nat→Prop} {w:World} {x:Value} {a b:D} (h:Qg a b) (hr:R tp I w x a):R tp I w x b:=by
 unfold Qg at h
 split at h
 ·exact .any x
 ·rcases h with rfl | ⟨i,rfl⟩
  ·cases hr with
   | v _ h1 _=> exact .own _ _ h1
  ·cases hr with
   | own _ _ h1=> exact .own _ _ h1
 ·rcases h with rfl | ⟨rfl,rfl⟩
  ·exact hr
  ·cases hr
   exact .nolist _ _ _
 ·subst h;exact hr
theorem StW.sub {tp:Nat→Prop} {H H':ab} {w:World} (h:StW E tp H w) (hs: ∀i r,H' i=some r→H i=some r∨isNilRow r):
 StW E tp H' w∧ ∀x d,R tp (cm E.O tp H w) w x d→R tp (cm E.O tp H' w) w x d:=by
 have nilblk: ∀r,isNilRow r→r.blk=none:=fun r hr=> by
  cases r with
  | box b c=> exact hr.elim
  | iter b s p=> exact hr.elim
  | tbox b s p=> exact hr.elim
  | row x el n es=> obtain⟨rfl,rfl⟩:=hr;rfl
 have hown: ∀b,eR H' b→eR H b:=fun b ⟨i,r,h1,h2⟩=> by
  rcases hs i r h1 with h3 | h3
  ·exact⟨i,r,h3,h2⟩
  ·rw[nilblk r h3] at h2;cases h2
 have move: ∀x d,R tp (cm E.O tp H w) w x d→R tp (cm E.O tp H' w) w x d:=fun x d hr=>
  hr.mono (fun _ h=> h) (fun b hb=> ⟨⟨hb.1,hb.2.1,hb.2.2.1,fun ho=> hb.2.2.2 (hown b ho)⟩,rfl⟩) (fun b _=> .refl _ _)
 refine⟨⟨h.hO,h.tpx,h.tpn,h.tpl,h.step,fun b hb=> h.loc b (hown b hb),⟨fun i j r s b h1 h2 h3 h4=> ?_,fun i r b h1 h2=> ?_,fun i r h1=> ?_⟩⟩,move⟩
 ·rcases hs i r h1 with k1 | k1
  ·rcases hs j s h2 with k2 | k2
   ·exact h.sat.dis i j r s b k1 k2 h3 h4
   ·rw[nilblk s k2] at h4;cases h4
  ·rw[nilblk r k1] at h3;cases h3
 ·rcases hs i r h1 with k1 | k1
  ·exact h.sat.out i r b k1 h2
  ·rw[nilblk r k1] at h2;cases h2
 ·rcases hs i r h1 with k1 | k1
  ·exact(h.sat.ok i r k1).conv move (fun _ _=> rfl)
  ·cases r with
   | box b c=> exact k1.elim
   | iter b s p=> exact k1.elim
   | tbox b s p=> exact k1.elim
   | row x el n es=>
     obtain⟨rfl,rfl⟩:=k1
     exact⟨[],World.ownsRow_nil _ _ _ _,by simp,fun k y c h=> by simp at h⟩
theorem JJ {H:ab} : ∀ {l:List Nat},∀i r,jX l H i=some r→H i=some r∨isNilRow r
 | [],i,r,h=> by simp[jX] at h
 | j::l,i,r,h=> by
   simp only[jX,au] at h
   split at h
   ·rename_i e
    subst e
    exact .inl h
   ·exact JJ i r h
theorem QS {tp I:Nat→Prop} {w:World} {a:Act} {σ:Sg} (hr: ∀t,R tp I w (a.tmps.getD t undef) (σ t)): ∀ {l:List Nat},∀t,R tp I w (a.tmps.getD t undef) (qeE (l.map fun t=> (t,σ t)) t)
 | [],t=> .any _
 | s::l,t=> by
   simp only[List.map_cons,qeE,l5]
   split
   ·rename_i e
    subst e
    exact hr t
   ·exact QS hr t
def qdN (E:pR) (K:Ex→Sg→ab→Prop):Exit→Act→World→Prop
 | .normal,a,w=> ∃σ H,St E σ H a w∧K .norm σ H
 | .exit i,a,w=> ∃σ H,St E σ H a w∧K (.ex i) σ H
 | .ret,a,w=> ∃σ H,St E σ H a w∧K .ret σ H
 | _,_,_=> False
def PostZ (E:pR) (z:List PanicEntry→Prop) (K:Ex→Sg→ab→Prop):Exit→Act→World→Prop
 | .normal,a,w=> ∃σ H,St E σ H a w∧K .norm σ H
 | .exit i,a,w=> ∃σ H,St E σ H a w∧K (.ex i) σ H
 | .ret,a,w=> ∃σ H,St E σ H a w∧K .ret σ H
 | .panic c,a,w=> a.defers=E.ds∧Oq E z c w
 | _,_,_=> False
theorem PostZ.no {E:pR} {K:Ex→Sg→ab→Prop} {e:Exit} {a:Act} {w:World} (h:PostZ E JC K e a w):qdN E K e a w:=by
 cases e <;> first | exact h | exact h.2.1.elim
def QuietL (P:Program) (S:Nat→Spc):List CI→Prop
 | []=> True
 | x::l=> ((∀y∈l,iP x y=false)∨dS P JC S x)∧QuietL P S l
theorem QuietL.get {P:Program} {S:Nat→Spc} {l:List CI} :QuietL P S l→ ∀ (j i:Nat) (x y:CI),j < i→l[j]?=some x→l[i]?=some y→iP x y=true→dS P JC S x:=by
 induction l with
 | nil=> intro _ j i x y _ h;simp at h
 | cons z l ih=>
   intro hq j i x y hij hx hy ha
   obtain⟨h1,h2⟩:=hq
   rcases i with _ | i
   ·omega
   rw[List.getElem?_cons_succ] at hy
   rcases j with _ | j
   ·rw[List.getElem?_cons_zero] at hx
    have hx:=Option.some.inj hx
    subst hx
    rcases h1 with h | h
    ·have:=h y (List.mem_of_getElem? hy)
     rw[this] at ha
     exact absurd ha (by simp)
    ·exact h
   ·rw[List.getElem?_cons_succ] at hx
    exact ih h2 j i x y (by omega) hx hy ha
theorem Gl {P:Program} {S:Nat→Spc} : ∀ {l:List CI},(∀x∈l,dS P JC S x)→QuietL P S l
 | [],_=> trivial
 | x::l,h=> ⟨.inr (h x (by simp)),Gl fun y hy=> h y (by simp[hy])⟩
def CK (P:Program) (z:List PanicEntry→Prop) (S:Nat→Spc):CC→Prop
 | .reg l=> ∀x∈l,dS P z S x
 | .regd pre tl=> (∀x∈pre,dS P z S x)∧(∀x∈tl,dS P z S x)∧QuietL P S (pre.filter CI.real)
 | .seq a b=> CK P z S a∧CK P z S b
 | .ite _ a b=> CK P z S a∧CK P z S b
 | .block _ b=> CK P z S b
 | .loop _ b=> CK P z S b
 | .cut _ b=> CK P z S b
 | .keep _ _ b=> CK P z S b
 | _=> True
theorem CJ {P:Program} {S:Nat→Spc} (h: ∀f,Tri P f (S f).pt): ∀x,dS P JC S x
 | .op _ _ c=> Th h c
 | .frz _ _=> trivial
theorem nX {P:Program} {S:Nat→Spc} (h: ∀f,Tri P f (S f).pt): ∀cc,CK P JC S cc
 | .reg l=> fun x _=> CJ h x
 | .regd pre tl=> ⟨fun x _=> CJ h x,fun x _=> CJ h x,Gl fun x _=> CJ h x⟩
 | .seq a b=> ⟨nX h a,nX h b⟩
 | .ite _ a b=> ⟨nX h a,nX h b⟩
 | .block _ b=> nX h b
 | .loop _ b=> nX h b
 | .cut _ b=> nX h b
 | .keep _ _ b=> nX h b
 | .skip=> trivial
 | .exit _=> trivial
 | .ret=> trivial
def rC (x:CI) (Hr:ab):ab:=if x.noRead then fun _=> none else Hr
def nE:List CI→ab→List (CI×ab)
 | [],_=> []
 | .frz _ _::r,Hr=> nE r (ck r Hr)
 | .op d g c::r,Hr=> (.op d g c,rC (.op d g c) Hr)::nE r Hr
theorem K9 {c:COp} {dst:Option Nat} {σ:Sg} {Hr Hr' H:ab} {K:D→ab→Prop} (h:c.noRead=true):bh S c dst σ Hr H K↔bh S c dst σ Hr' H K:=by
 cases c <;> first | (simp[COp.noRead] at h;done) | exact Iff.rfl
theorem US {d:Option Nat} {g:Option (Nat×Bool)} {c:COp} {dst:Option Nat} {σ:Sg} {Hr H:ab} {K:D→ab→Prop} :bh S c dst σ (rC (.op d g c) Hr) H K↔bh S c dst σ Hr H K:=by
 unfold rC
 split
 ·rename_i h
  exact K9 h
 ·exact Iff.rfl
theorem Ae {K:Sg→ab→Prop} : ∀ (l:List CI) (σ:Sg) (Hr H:ab),lY S l σ Hr H K→Xz S (nE l Hr) σ H K
 | [],σ,Hr,H,h=> h
 | .frz _ _::l,σ,Hr,H,h=> Ae l σ (ck l Hr) H h
 | .op dst g c::r,σ,Hr,H,h=> by
   simp only[lY] at h
   simp only[nE,Xz,IK,CI.dst]
   have mono: ∀σ':Sg,bh S c dst σ' Hr H (fun d H'=> lY S r (f9 σ' dst d) Hr H' K)→bh S c dst σ' (rC (.op dst g c) Hr) H (fun d H'=> Xz S (nE r Hr) (f9 σ' dst d) H' K):=fun σ' hp=> by
    obtain⟨pre,out,hf⟩:=GY S c dst σ' Hr (sT H (c.wid dst))
    have hf: ∀H',sT H' (c.wid dst)=sT H (c.wid dst)→ ∀K,bh S c dst σ' Hr H' K↔ (pre∧ ∀d u,out d u→K d (gF H' (c.wid dst) u)):=hf
    obtain⟨h1,h2⟩:=(hf H rfl _).1 hp
    exact US.2 ((hf H rfl _).2 ⟨h1,fun d u ho=> Ae r _ Hr _ (h2 d u ho)⟩)
   cases g with
   | none=> exact mono σ h
   | some sb=>
     obtain⟨s,b⟩:=sb
     simp only[nY] at h
     split at h
     ·rename_i t e1
      simp only
      rw[e1]
      refine⟨fun e=> ?_,fun e=> ?_⟩
      ·have:=h.1 e
       rw[←e,Ag e1] at this
       exact mono σ this
      ·have:=h.2 e
       rw[←e,Ag e1] at this
       exact Ae r _ Hr H this
     ·rename_i e1
      simp only
      rw[e1]
      exact Ae r _ Hr H h
     ·exact h.elim
theorem uc (Hr:ab): ∀ (l:List CI),(∀x∈l,x.real=true)→ ∀ (r:List CI),nE (l++r) Hr=(l.map fun x=> (x,rC x Hr)) ++nE r Hr
 | [],_,r=> rfl
 | .frz _ _::l,h,r=> by simp[CI.real] at h
 | .op _ _ _::l,h,r=> by
   simp only[List.cons_append,nE,List.map_cons]
   rw[uc Hr l (fun x hx=> h x (by simp[hx])) r]
theorem zA {t:Nat} {H:ab} : ∀ {l:List CI},(∀x∈l,x.real=true)→ ∀x∈l,x.wid=some t→ck l H t=none
 | .frz _ _::l,h,x,hx,hw=> by simp[CI.real] at h
 | .op _ _ _::l,h,x,hx,hw=> by
   simp only[ck]
   rcases List.mem_cons.1 hx with rfl | hx
   ·rw[if_pos hw]
   ·split
    ·rfl
    ·exact zA (fun x hx=> h x (by simp[hx])) x hx hw
theorem ww {H:ab} : ∀ (l:List CI),OA (ck l H) H
 | []=> fun _ _ h=> h
 | .frz _ _::l=> fun _ _ h=> h
 | .op _ _ _::l=> fun i r h=> by
   simp only[ck] at h
   split at h
   ·cases h
   ·exact ww l i r h
theorem JE {H:ab} : ∀ (l:List CI) (a b:Nat) (r:List CI),(∀x∈l,x.real=true)→ck (l++ .frz a b::r) H=ck l H
 | [],_,_,_,_=> rfl
 | .frz _ _::l,_,_,_,h=> by simp[CI.real] at h
 | .op _ _ _::l,a,b,r,h=> by
   simp only[List.cons_append,ck]
   rw[JE l a b r (fun x hx=> h x (by simp[hx]))]
theorem Na {ops:Array Oper} {cis:List CI} {m:Nat} (h:Pw ops cis m=true):
 (∀i o,ops[i]?=some o→ ∀j∈Dq o,j < i)∧m≤ops.size∧(∀j,m≤j→j < ops.size→ ∀i,i < j→PO (Rj ops) j i=true)∧
 (∀j,j < m→ ∀i,i < j→PO (Rj ops) j i=true∨ ∃x y,cis[i]?=some x∧cis[j]?=some y∧iP x y=true):=by
 unfold Pw at h
 simp only[Bool.and_eq_true,List.all_eq_true,List.mem_range,Bool.or_eq_true,decide_eq_true_eq] at h
 obtain⟨⟨⟨h0,h2⟩,h1⟩,hm⟩:=h
 refine⟨fun i o ho j hj=> ?_,hm,fun j hmj hj i hi=> ?_,fun j hj i hi=> ?_⟩
 ·have hi:i < ops.size:=(Array.getElem?_eq_some_iff.1 ho).1
  have:=h0 i hi
  rw[ho] at this
  simp only[Option.map_some,Option.getD_some,List.all_eq_true,decide_eq_true_eq] at this
  exact this j hj
 ·rcases h2 j hj with h | h
  ·omega
  ·exact h i hi
 ·rcases h1 j hj i hi with h | h
  ·exact .inl h
  ·split at h
   ·rename_i x y e1 e2
    exact .inr ⟨x,y,e1,e2,h⟩
   ·cases h
theorem JF {α β:Type} {f:α→Option β} : ∀ {l:List α} {r:List β} (m:Nat),l.mapM f=some r→(l.drop m).mapM f=some (r.drop m)
 | l,r,0,h=> by simpa using h
 | [],r,m+1,h=> by simp at h;subst h;simp
 | a::l,r,m+1,h=> by
   rw[List.mapM_cons] at h
   simp only[Option.bind_eq_bind,Option.bind_eq_some_iff] at h
   obtain⟨x,hx,y,hy,h⟩:=h
   cases h
   simpa using JF m hy
theorem P4 {ops:Array Oper} {id:Nat} {pre tl:List CI} {K:Ex→Sg→ab→Prop} {z:List PanicEntry→Prop} (hSp: ∀x∈pre,dS P z S x) (hSt: ∀x∈tl,dS P z S x) (hqu:QuietL P S (pre.filter CI.real)) (hmix:P.follows .mixedOrders=true) (hc:bd P im E.N (.region id ops true)=some (.regd pre (tl.filter CI.real)))
 {σ:Sg} {H:ab} {a:Act} {w:World} (hst:St E σ H a w) (hv:lY S pre σ (ck pre H) H fun σ H=> xz S tl σ H (K .norm)): (Code.region id ops true).wp P (PostZ E z K) a w:=by
 simp only[bd,Option.bind_eq_bind,Option.bind_eq_some_iff] at hc
 obtain⟨cis,hcis,hc⟩:=hc
 split at hc
 ·rename_i hok
  simp only[Option.some.injEq,CC.regd.injEq] at hc
  obtain⟨hpre,htl⟩:=hc
  obtain⟨hC0,hm,hC2,hC1⟩:=Na hok
  obtain⟨hclen,hcget⟩:=xb hcis
  refine wp_region_any hmix ?_
  have hst':St E σ H a w.drew:=by
   obtain⟨hd,hN,tp,hw,hr⟩:=hst
   have hmv:=hw.grow (LI w none)
   exact⟨hd,hN,tp,hmv.1,fun t=> hmv.2 _ _ (hr t)⟩
  have hreal: ∀x∈cis,x.real=true:=fun x hx=> by
   obtain⟨i,hi⟩:=List.mem_iff_getElem?.1 hx
   have hil:i < ops.size:=by rw[←hclen];exact(List.getElem?_eq_some_iff.1 hi).1
   obtain⟨y,h1,h2⟩:=hcget i ops[i] (by simp[hil])
   rw[hi] at h1
   cases h1
   obtain⟨g,c,rfl,_⟩:=jn h2
   rfl
  have hfil:pre.filter CI.real=cis.take (cU ops):=by
   have hall: ∀l:List CI,(∀x∈l,x.real=true)→l.filter CI.real=l:=fun l h=> List.filter_eq_self.2 h
   rw[←hpre]
   unfold UT
   split
   ·split
    ·rename_i k _ hok2
     unfold Lo at hok2
     simp only[Bool.and_eq_true,decide_eq_true_eq] at hok2
     rw[List.filter_append,hall _ fun x hx=> hreal x (List.mem_of_mem_take hx),List.filter_cons]
     simp only[CI.real,Bool.false_eq_true,if_false]
     rw[hall _ fun x hx=> hreal x (List.mem_of_mem_take (List.mem_of_mem_drop hx))]
     conv=> rhs;rw[←List.take_append_drop k (cis.take (cU ops)),List.take_take,Nat.min_eq_left hok2.1]
    ·exact hall _ fun x hx=> hreal x (List.mem_of_mem_take hx)
   ·exact hall _ fun x hx=> hreal x (List.mem_of_mem_take hx)
  rw[hfil] at hqu
  have hSj: ∀j x,j < cU ops→cis[j]?=some x→dS P z S x:=fun j x hj hx=> by
   refine hSp x ?_
   have hx':x∈pre.filter CI.real:=by
    rw[hfil,List.mem_iff_getElem?]
    exact⟨j,by rw[List.getElem?_take,if_pos hj];exact hx⟩
   exact(List.mem_filter.1 hx').1
  have hquiet: ∀j i x y,j < i→i < cU ops→cis[j]?=some x→cis[i]?=some y→iP x y=true→dS P JC S x:=fun j i x y hij hi hx hy ha=>
   hqu.get j i x y hij (by rw[List.getElem?_take,if_pos (by omega)];exact hx) (by rw[List.getElem?_take,if_pos hi];exact hy) ha
  obtain⟨k,hkm,hkok,hpre2⟩: ∃k,k≤cU ops∧(∀i j x t,k≤i→i < cU ops→j < k→cis[i]?=some x→x.wid=some t→(∃y,cis[j]?=some y∧y.noRead=true)∨PO (Rj ops) i j=true)∧
   nE pre (ck pre H)=((cis.take k).map fun x=> (x,rC x (ck (cis.take k) H))) ++ (((cis.take (cU ops)).drop k).map fun x=> (x,rC x (ck ((cis.take (cU ops)).drop k) (ck (cis.take k) H)))):=by
   have hr1: ∀n,∀x∈cis.take n,x.real=true:=fun n x hx=> hreal x (List.mem_of_mem_take hx)
   have hr2: ∀n k,∀x∈ (cis.take n).drop k,x.real=true:=fun n k x hx=> hr1 n x (List.mem_of_mem_drop hx)
   have plain:pre=cis.take (cU ops)→ ∃k,k≤cU ops∧(∀i j x t,k≤i→i < cU ops→j < k→cis[i]?=some x→x.wid=some t→(∃y,cis[j]?=some y∧y.noRead=true)∨PO (Rj ops) i j=true)∧
    nE pre (ck pre H)=((cis.take k).map fun x=> (x,rC x (ck (cis.take k) H))) ++ (((cis.take (cU ops)).drop k).map fun x=> (x,rC x (ck ((cis.take (cU ops)).drop k) (ck (cis.take k) H)))):=fun e=> by
    refine⟨cU ops,Nat.le_refl _,fun i j x t h1 h2=> by omega,?_⟩
    have: (cis.take (cU ops)).drop (cU ops)= []:=by simp
    rw[e,this]
    have:=uc (ck (cis.take (cU ops)) H) (cis.take (cU ops)) (hr1 _) []
    simpa [nE] using this
   have hpre':=hpre.symm
   unfold UT at hpre'
   split at hpre'
   ·rename_i k _
    split at hpre'
    ·rename_i hok2
     unfold Lo at hok2
     simp only[Bool.and_eq_true,decide_eq_true_eq,List.all_eq_true,List.mem_range,Bool.or_eq_true] at hok2
     refine⟨k,hok2.1,fun i j x t h1 h2 h3 h4 h5=> ?_,?_⟩
     ·rcases hok2.2 j h3 with h | h
      ·left
       cases hj:cis[j]? with
       | none=> rw[hj] at h;simp at h
       | some y=> rw[hj] at h;exact⟨y,rfl,by simpa using h⟩
      ·right
       rcases h i h2 with(h | h) | h
       ·omega
       ·rw[h4] at h;simp[h5] at h
       ·exact h
     ·rw[hpre',JE _ _ _ _ (hr1 _),uc _ _ (hr1 _)]
      simp only[nE]
      congr 1
      have:=uc (ck ((cis.take (cU ops)).drop k) (ck (cis.take k) H)) ((cis.take (cU ops)).drop k) (hr2 _ _) []
      simpa [nE] using this
    ·exact plain hpre'
   ·exact plain hpre'
  have hHr: ∀j,∃Hr,Hr=rC ((cis[j]?).getD (.frz 0 0)) (if j < k then ck (cis.take k) H else ck ((cis.take (cU ops)).drop k) (ck (cis.take k) H)):=fun j=> ⟨_,rfl⟩
  have hr1: ∀n,∀x∈cis.take n,x.real=true:=fun n x hx=> hreal x (List.mem_of_mem_take hx)
  have hr2: ∀n k,∀x∈ (cis.take n).drop k,x.real=true:=fun n k x hx=> hr1 n x (List.mem_of_mem_drop hx)
  have mem1: ∀i x,i < k→cis[i]?=some x→x∈cis.take k:=fun i x hi hx=> List.mem_iff_getElem?.2 ⟨i,by rw[List.getElem?_take,if_pos hi];exact hx⟩
  have mem2: ∀i x,k≤i→i < cU ops→cis[i]?=some x→x∈ (cis.take (cU ops)).drop k:=fun i x h1 h2 hx=> List.mem_iff_getElem?.2 ⟨i -k,by rw[List.getElem?_drop,List.getElem?_take,if_pos (by omega),show k+ (i -k)=i by omega];exact hx⟩
  have none1: ∀i x t,i < k→cis[i]?=some x→x.wid=some t→ck (cis.take k) H t=none:=fun i x t hi hx ht=> zA (hr1 _) x (mem1 i x hi hx) ht
  have none2: ∀i x t,i < cU ops→cis[i]?=some x→x.wid=some t→ck ((cis.take (cU ops)).drop k) (ck (cis.take k) H) t=none:=fun i x t hi hx ht=> by
   by_cases hik:i < k
   ·cases he:ck ((cis.take (cU ops)).drop k) (ck (cis.take k) H) t with
    | none=> rfl
    | some r=>
      have:=ww _ _ _ he
      rw[none1 i x t hik hx ht] at this
      cases this
   ·exact zA (hr2 _ _) x (mem2 i x (by omega) hi hx) ht
  have hrOf_none: ∀x (Hr:ab) t,Hr t=none→rC x Hr t=none:=fun x Hr t h=> by
   unfold rC;split
   ·rfl
   ·exact h
  have hrOf_le: ∀x (Hr:ab),OA Hr H→OA (rC x Hr) H:=fun x Hr h=> by
   unfold rC;split
   ·intro i r hi;cases hi
   ·exact h
  have hmain:=Yl (im:=im) (cis:=cis) (tl:=tl) (Hr:=fun j=> rC ((cis[j]?).getD (.frz 0 0)) (if j < k then ck (cis.take k) H else ck ((cis.take (cU ops)).drop k) (ck (cis.take k) H))) (Q:=PostZ E z K) (fun c a w' h1 h2=> ⟨h1,h2⟩) (fun σ H a w hs hk=> ⟨σ,H,hs,hk⟩) hcis hC0 hSj hquiet hm hC2 hC1 (by
   rw[←htl]
   exact JF _ hcis) hSt (fun i j x t hi hj hij hx ht=> by
   by_cases hjk:j < k
   ·simp only[if_pos hjk]
    by_cases hik:i < k
    ·exact .inl (hrOf_none _ _ _ (none1 i x t hik hx ht))
    ·rcases hkok i j x t (by omega) hi hjk hx ht with⟨y,hy,hn⟩ | h
     ·left
      simp only[hy,Option.getD_some,rC]
      rw[if_pos hn]
     ·exact .inr h
   ·simp only[if_neg hjk]
    exact .inl (hrOf_none _ _ _ (none2 i x t hi hx ht))) (fun i j x t hi hj hij hx ht=> by
   by_cases hjk:j < k
   ·simp only[if_pos hjk]
    exact hrOf_none _ _ _ (none1 i x t (by omega) hx ht)
   ·simp only[if_neg hjk]
    exact hrOf_none _ _ _ (none2 i x t hi hx ht)) (cU ops) (List.range (cU ops)) (Array.replicate ops.size false) (by simp) (by
   simp only[List.pairwise_iff_getElem]
   intro i j hi hj hij
   simpa using hij) (fun i hi=> by simpa using hi) (by simp) (fun i hi=> by
    constructor
    ·intro h
     simp[tu,hi] at h
    ·rintro⟨h1,h2⟩
     exact absurd (List.mem_range.2 h1) h2) (fun i o ho hd=> by
    exfalso
    simp[tu] at hd
    have hi:i < ops.size:=(Array.getElem?_eq_some_iff.1 ho).1
    simp[hi] at hd) σ H a w.drew hst' (fun i _=> by
    refine hrOf_le _ _ ?_
    split
    ·exact ww _
    ·exact fun i r hi=> ww _ _ _ (ww _ _ _ hi)) (by
    have hv2:=Ae _ _ _ _ hv
    rw[hpre2] at hv2
    have hlist: ((List.range (cU ops)).map fun i=> ((cis[i]?).getD (.frz 0 0),rC ((cis[i]?).getD (.frz 0 0)) (if i < k then ck (cis.take k) H else ck ((cis.take (cU ops)).drop k) (ck (cis.take k) H))))=
     ((cis.take k).map fun x=> (x,rC x (ck (cis.take k) H))) ++ (((cis.take (cU ops)).drop k).map fun x=> (x,rC x (ck ((cis.take (cU ops)).drop k) (ck (cis.take k) H)))):=by
     have hcl:cU ops≤cis.length:=by omega
     have hgeti: ∀i,i < cU ops→ ∃x,cis[i]?=some x:=fun i hi=> ⟨_,List.getElem?_eq_getElem (by omega)⟩
     apply List.ext_getElem?
     intro i
     have hl1: ((cis.take k).map fun x=> (x,rC x (ck (cis.take k) H))).length=k:=by simp;omega
     by_cases him:i < cU ops
     ·obtain⟨x,hx⟩:=hgeti i him
      rw[List.getElem?_map,List.getElem?_range him]
      simp only[Option.map_some,hx,Option.getD_some]
      by_cases hik:i < k
      ·rw[List.getElem?_append_left (by omega),List.getElem?_map,List.getElem?_take,if_pos hik,hx]
       simp[hik]
      ·rw[List.getElem?_append_right (by omega),hl1,List.getElem?_map,List.getElem?_drop,List.getElem?_take,if_pos (show k+ (i -k) < cU ops by omega),show k+ (i -k)=i by omega,hx]
       simp[hik]
     ·have e1: ((cis.take k).map fun x=> (x,rC x (ck (cis.take k) H))).length+ (((cis.take (cU ops)).drop k).map fun x=> (x,rC x (ck ((cis.take (cU ops)).drop k) (ck (cis.take k) H)))).length=cU ops:=by
       rw[hl1,List.length_map,List.length_drop,List.length_take];omega
      rw[List.getElem?_eq_none (by simp;omega),List.getElem?_eq_none]
      rw[List.length_append,e1];omega
    rw[hlist]
    exact hv2)
  have hsz: (List.range (cU ops)).length+ (ops.size -cU ops)=ops.size:=by simp;omega
  rw[hsz] at hmain
  exact hmain
 ·cases hc
theorem fu {N:Nat} {code:Code} {c:CC} (h:bd P im N code=some c):
 (c= .skip∧(code= .skip∨ ∃l,code= .label l))∨(∃id ops l,code= .region id ops false∧c= .reg l∧lu P im N ops=some l)∨(∃id ops pre tl,code= .region id ops true∧c= .regd pre tl)∨
 (∃a b x y,code= .seq a b∧c= .seq x y∧bd P im N a=some x∧bd P im N b=some y)∨
 (∃q a b x y,code= .cond q a b∧c= .ite q x y∧uS q=true∧bd P im N a=some x∧bd P im N b=some y)∨
 (∃id a x,code= .block id a∧c= .block id x∧bd P im N a=some x)∨(∃a x,code= .loop a∧c= .loop 0 x∧bd P im N a=some x)∨
 (∃id,code= .exit id∧c= .exit id)∨(code= .ret∧c= .ret):=by
 cases code with
 | skip=> simp only[bd] at h;cases h;exact .inl ⟨rfl, .inl rfl⟩
 | label l=> simp only[bd] at h;cases h;exact .inl ⟨rfl, .inr ⟨l,rfl⟩⟩
 | region id ops d=>
   cases d
   ·simp only[bd] at h
    obtain⟨l,hl,rfl⟩:=bq h
    exact .inr (.inl ⟨id,ops,l,rfl,rfl,hl⟩)
   ·simp only[bd,Option.bind_eq_bind,Option.bind_eq_some_iff] at h
    obtain⟨cis,_,h⟩:=h
    split at h
    ·cases h;exact .inr (.inr (.inl ⟨id,ops,_,_,rfl,rfl⟩))
    ·cases h
 | seq a b=>
   simp only[bd,Option.bind_eq_bind,Option.bind_eq_some_iff] at h
   obtain⟨x,hx,y,hy,h⟩:=h
   cases h
   exact .inr (.inr (.inr (.inl ⟨a,b,x,y,rfl,rfl,hx,hy⟩)))
 | cond q a b=>
   simp only[bd,Option.bind_eq_bind] at h
   split at h
   ·rename_i hq
    simp only[Option.bind_eq_some_iff] at h
    obtain⟨x,hx,y,hy,h⟩:=h
    cases h
    exact .inr (.inr (.inr (.inr (.inl ⟨q,a,b,x,y,rfl,rfl,hq,hx,hy⟩))))
   ·cases h
 | block id b=>
   simp only[bd,Option.bind_eq_bind,Option.bind_eq_some_iff] at h
   obtain⟨x,hx,h⟩:=h
   cases h
   exact .inr (.inr (.inr (.inr (.inr (.inl ⟨id,b,x,rfl,rfl,hx⟩)))))
 | loop b=>
   simp only[bd,Option.bind_eq_bind,Option.bind_eq_some_iff] at h
   obtain⟨x,hx,h⟩:=h
   cases h
   exact .inr (.inr (.inr (.inr (.inr (.inr (.inl ⟨b,x,rfl,rfl,hx⟩))))))
 | exit id=> simp only[bd] at h;cases h;exact .inr (.inr (.inr (.inr (.inr (.inr (.inr (.inl ⟨id,rfl,rfl⟩)))))))
 | ret=> simp only[bd] at h;cases h;exact .inr (.inr (.inr (.inr (.inr (.inr (.inr (.inr ⟨rfl,rfl⟩)))))))
 | _=> simp[bd] at h
theorem Po {ops:Array Oper} {id:Nat} {l:List CI} {K:Ex→Sg→ab→Prop} {z:List PanicEntry→Prop} (hS: ∀x∈l,dS P z S x) (hc:lu P im E.N ops=some (l.filter CI.real))
 {σ:Sg} {H:ab} {a:Act} {w:World} (hst:St E σ H a w) (hv:xz S l σ H (K .norm)): (Code.region id ops false).wp P (PostZ E z K) a w:=
 wp_region_list (Jq (im:=im) (Q:=PostZ E z K) (K:=K .norm) (fun c a w' h1 h2=> ⟨h1,h2⟩) (fun σ H a w hs hk=> ⟨σ,H,hs,hk⟩) l hS ops.toList hc σ H a w hst hv)
theorem Je {z:List PanicEntry→Prop} (hmix:P.follows .mixedOrders=true) (cc:CC):CK P z S cc→ ∀ (code:Code),bd P im E.N code=some (dZ cc)→ ∀ (K:Ex→Sg→ab→Prop) (σ:Sg) (H:ab) (a:Act) (w:World),
 St E σ H a w→vc S cc K σ H→code.wp P (PostZ E z K) a w:=by
 induction cc with
 | skip=>
   intro hqu code hc K σ H a w hst hv
   rcases fu hc with⟨_,h⟩ | ⟨_,_,_,_,h,_⟩ | ⟨_,_,_,_,_,h⟩ | ⟨_,_,_,_,_,h,_⟩ | ⟨_,_,_,_,_,_,h,_⟩ | ⟨_,_,_,_,h,_⟩ | ⟨_,_,_,h,_⟩ | ⟨_,_,h⟩ | ⟨_,h⟩ <;> try (simp[dZ] at h;done)
   rcases h with rfl | ⟨l,rfl⟩
   ·exact wp_skip ⟨σ,H,hst,hv⟩
   ·exact wp_label ⟨σ,H,hst,hv⟩
 | reg l=>
   intro hqu code hc K σ H a w hst hv
   rcases fu hc with⟨h,_⟩ | ⟨id,ops,l',rfl,h,hl⟩ | ⟨_,_,_,_,_,h⟩ | ⟨_,_,_,_,_,h,_⟩ | ⟨_,_,_,_,_,_,h,_⟩ | ⟨_,_,_,_,h,_⟩ | ⟨_,_,_,h,_⟩ | ⟨_,_,h⟩ | ⟨_,h⟩ <;> try (simp[dZ] at h;done)
   simp only[dZ,CC.reg.injEq] at h
   subst h
   exact Po hqu hl hst hv
 | regd pre tl=>
   intro hqu code hc K σ H a w hst hv
   rcases fu hc with⟨h,_⟩ | ⟨_,_,_,_,h,_⟩ | ⟨id,ops,pre',tl',rfl,h⟩ | ⟨_,_,_,_,_,h,_⟩ | ⟨_,_,_,_,_,_,h,_⟩ | ⟨_,_,_,_,h,_⟩ | ⟨_,_,_,h,_⟩ | ⟨_,_,h⟩ | ⟨_,h⟩ <;> try (simp[dZ] at h;done)
   exact P4 hqu.1 hqu.2.1 hqu.2.2 hmix hc hst hv
 | seq x y ihx ihy=>
   intro hqu code hc K σ H a w hst hv
   rcases fu hc with⟨h,_⟩ | ⟨_,_,_,_,h,_⟩ | ⟨_,_,_,_,_,h⟩ | ⟨p,q,x',y',rfl,h,hx,hy⟩ | ⟨_,_,_,_,_,_,h,_⟩ | ⟨_,_,_,_,h,_⟩ | ⟨_,_,_,h,_⟩ | ⟨_,_,h⟩ | ⟨_,h⟩ <;> try (simp[dZ] at h;done)
   simp only[dZ,CC.seq.injEq] at h
   obtain⟨rfl,rfl⟩:=h
   refine wp_seq (Code.wp_mono ?_ (ihx hqu.1 p hx _ σ H a w hst hv))
   intro e a' w' hp
   cases e with
   | normal=>
     obtain⟨σ',H',hs,hk⟩:=hp
     exact ihy hqu.2 q hy K σ' H' a' w' hs hk
   | exit id=> exact hp
   | ret=> exact hp
   | goto l=> exact hp
   | panic c=> exact hp
   | outgrown=> exact hp
 | ite q x y ihx ihy=>
   intro hqu code hc K σ H a w hst hv
   rcases fu hc with⟨h,_⟩ | ⟨_,_,_,_,h,_⟩ | ⟨_,_,_,_,_,h⟩ | ⟨_,_,_,_,_,h,_⟩ | ⟨q',p1,p2,x',y',rfl,h,hq,hx,hy⟩ | ⟨_,_,_,_,h,_⟩ | ⟨_,_,_,h,_⟩ | ⟨_,_,h⟩ | ⟨_,h⟩ <;> try (simp[dZ] at h;done)
   simp only[dZ,CC.ite.injEq] at h
   obtain⟨rfl,rfl,rfl⟩:=h
   simp only[vc] at hv
   have hst0:=hst
   obtain⟨hd,hN,tp,hw,hr⟩:=hst
   have hqr:=SU hr q hq
   split at hv
   ·rename_i t e1
    rw[e1] at hqr
    refine wp_cond_split hqr.inv_v (fun h=> ?_) (fun h=> ?_)
    ·exact ihx hqu.1 p1 hx K σ H a w hst0 (hv.1 h)
    ·exact ihy hqu.2 p2 hy K σ H a w hst0 (hv.2 h)
   ·exact hv.elim
 | block id b ih=>
   intro hqu code hc K σ H a w hst hv
   rcases fu hc with⟨h,_⟩ | ⟨_,_,_,_,h,_⟩ | ⟨_,_,_,_,_,h⟩ | ⟨_,_,_,_,_,h,_⟩ | ⟨_,_,_,_,_,_,h,_⟩ | ⟨id',p,x',rfl,h,hx⟩ | ⟨_,_,_,h,_⟩ | ⟨_,_,h⟩ | ⟨_,h⟩ <;> try (simp[dZ] at h;done)
   simp only[dZ,CC.block.injEq] at h
   obtain⟨rfl,rfl⟩:=h
   refine wp_block (Code.wp_mono ?_ (ih hqu p hx _ σ H a w hst hv))
   intro e a' w' hp
   cases e with
   | normal=> exact hp
   | exit i=>
     obtain⟨σ',H',hs,hk⟩:=hp
     simp only[Exit.inBlock]
     by_cases hi:i=id
     ·simp only[if_pos hi] at hk ⊢
      exact⟨σ',H',hs,hk⟩
     ·simp only[if_neg hi] at hk ⊢
      exact⟨σ',H',hs,hk⟩
   | ret=> exact hp
   | goto l=> exact hp
   | panic c=> exact hp
   | outgrown=> exact hp
 | loop key b ih=>
   intro hqu code hc K σ H a w hst hv
   rcases fu hc with⟨h,_⟩ | ⟨_,_,_,_,h,_⟩ | ⟨_,_,_,_,_,h⟩ | ⟨_,_,_,_,_,h,_⟩ | ⟨_,_,_,_,_,_,h,_⟩ | ⟨_,_,_,_,h,_⟩ | ⟨p,x',rfl,h,hx⟩ | ⟨_,_,h⟩ | ⟨_,h⟩ <;> try (simp[dZ] at h;done)
   simp only[dZ,CC.loop.injEq,true_and] at h
   subst h
   simp only[vc] at hv
   obtain⟨inv,⟨x0,hP0,hm0⟩,hround⟩:=hv
   ·skip
    intro fr k cs
    -- the states at the loop's head, with their data
    have key: ∀ (n:Nat) (x:inv.X),inv.P x→inv.m x=n→ ∀a w,St E (inv.s x) (inv.h x) a w→
     ∃e a' w',PostZ E z K e a' w'∧Arrives P (lone (fr.at a (.code p:: .inLoop p::k)) cs w) fr k cs e a' w':=by
     intro n
     induction n using Nat.strongRecOn with
     | _ n ihn=>
       intro x hP hm a w hst
       obtain⟨e,a1,w1,hq,harr⟩:=ih hqu p hx _ _ _ a w hst (hround x hP) fr (.inLoop p::k) cs
       cases e with
       | normal=>
         obtain⟨σ',H',hs,y,hPy,hy1,hlt⟩:=hq
         obtain⟨e2,a2,w2,hq2,harr2⟩:=ihn (inv.m y) (by omega) y hPy rfl a1 w1 (hy1 _ _ _ hs)
         exact⟨e2,a2,w2,hq2, .of_steps (Steps.trans harr (.one step_inLoop)) harr2⟩
       | exit id=>
         obtain⟨σ',H',hs,hk⟩:=hq
         exact⟨.exit id,a1,w1,⟨σ',H',hs,hk⟩, .pass (x:= .inLoop p) rfl (fun _ _=> .inl (by simp)) harr⟩
       | ret=>
         obtain⟨σ',H',hs,hk⟩:=hq
         exact⟨.ret,a1,w1,⟨σ',H',hs,hk⟩, .pass (x:= .inLoop p) rfl (fun _ _=> .inl (by simp)) harr⟩
       | goto l=> exact hq.elim
       | panic c=> exact⟨.panic c,a1,w1,hq, .pass (x:= .inLoop p) rfl (fun _ _=> .inl (by simp)) harr⟩
       | outgrown=> exact hq.elim
    obtain⟨e,a',w',hq,harr⟩:=key _ x0 hP0 rfl a w (hm0 _ _ _ hst)
    exact⟨e,a',w',hq, .of_steps (.one step_loop) harr⟩
 | exit id=>
   intro hqu code hc K σ H a w hst hv
   rcases fu hc with⟨h,_⟩ | ⟨_,_,_,_,h,_⟩ | ⟨_,_,_,_,_,h⟩ | ⟨_,_,_,_,_,h,_⟩ | ⟨_,_,_,_,_,_,h,_⟩ | ⟨_,_,_,_,h,_⟩ | ⟨_,_,_,h,_⟩ | ⟨id',rfl,h⟩ | ⟨_,h⟩ <;> try (simp[dZ] at h;done)
   simp only[dZ,CC.exit.injEq] at h
   subst h
   exact wp_exit ⟨σ,H,hst,hv⟩
 | ret=>
   intro hqu code hc K σ H a w hst hv
   rcases fu hc with⟨h,_⟩ | ⟨_,_,_,_,h,_⟩ | ⟨_,_,_,_,_,h⟩ | ⟨_,_,_,_,_,h,_⟩ | ⟨_,_,_,_,_,_,h,_⟩ | ⟨_,_,_,_,h,_⟩ | ⟨_,_,_,h,_⟩ | ⟨_,_,h⟩ | ⟨rfl,h⟩ <;> try (simp[dZ] at h;done)
   exact wp_ret ⟨σ,H,hst,hv⟩
 | cut key c ih=>
   intro hqu code hc K σ H a w hst hv
   simp only[vc] at hv
   obtain⟨σ',H',hwk,hrest⟩:=hv
   exact ih hqu code hc K _ _ a w (hwk _ _ _ hst) hrest
 | keep ls lh c ih=>
   intro hqu code hc K σ H a w hst hv
   simp only[vc] at hv
   refine ih hqu code hc K _ _ a w ?_ hv
   obtain⟨hd,hN,tp,hw,hr⟩:=hst
   have hm:=hw.sub (JJ (l:=lh))
   refine⟨hd,hN,tp,hm.1,fun t=> hm.2 _ _ ?_⟩
   unfold jW
   exact QS hr t
theorem ij (hS: ∀f,Tri P f (S f).pt) (hmix:P.follows .mixedOrders=true) (cc:CC): ∀ (code:Code),bd P im E.N code=some (dZ cc)→ ∀ (K:Ex→Sg→ab→Prop) (σ:Sg) (H:ab) (a:Act) (w:World),
 St E σ H a w→vc S cc K σ H→code.wp P (qdN E K) a w:=fun code hc K σ H a w hst hv=>
 Code.wp_mono (fun _ _ _ h=> h.no) (Je (z:=JC) hmix cc (nX hS cc) code hc K σ H a w hst hv)
end
end Go.Gv
