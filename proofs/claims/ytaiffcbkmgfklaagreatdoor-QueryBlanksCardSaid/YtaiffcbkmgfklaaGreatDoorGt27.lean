/- A part of the framework and of the walks: W33 W34 W35 W76. -/
import Derived.Test.YtaiffcbkmgfklaaGreatDoorGt23
import Derived.Test.YtaiffcbkmgfklaaGreatDoorGt21
import Derived.Test.YtaiffcbkmgfklaaGreatDoorGt26
set_option linter.unusedSimpArgs false
set_option linter.unusedVariables false
set_option maxRecDepth 100000

namespace Go.Gv
open Cod (enc dec)
variable {S S0:Nat→Spc}
theorem QL {α:Type} {l:List α} {k:Nat} {a:α} {P:α→Prop} (h: ∀x∈l.take k,P x) (ha:l[k]?=some a) (hp:P a): ∀x∈l.take (k+1),P x:=by
 rw[cp ha]
 intro x hx
 rcases List.mem_append.1 hx with hx | hx
 ·exact h x hx
 ·simp at hx
  subst hx
  exact hp
def P8 {X:Type} (m:X→Nat) (n:Nat) (x:X):Prop:=m x≤n
abbrev HT (n:Nat):Spc:=dt (a2 Cond Cond) (P8 (fun x=> hJ x.1) n) (enc (X:=Bool)) fun x y=> (y=true↔x.1=x.2)
theorem SI {a b:Cond} (h1:a.op=b.op) (h2:a.name=b.name) (h3:a.arg=b.arg) (h4:a.val=b.val) (h5:a.lab=b.lab) (h6:a.fold=b.fold) (h7:a.kids=b.kids):a=b:=by
 cases a;cases b;simp only at*;subst h1;subst h2;subst h3;subst h4;subst h5;subst h6;subst h7;rfl
theorem LB (n:Nat) (h1:S eq=HT n):Walk uZ tM S (a2 Cond Cond) (P8 (fun x=> hJ x.1) (n+1)) (enc (X:=Bool)) fun x y=> (y=true↔x.1=x.2):=by
 rintro⟨a,b⟩ hn
 have hn:hJ a≤n+1:=hn
 have hpre: ∀k∈a.kids,∀y,P8 (fun x:Cond×Cond=> hJ x.1) n (k,y):=fun k hk y=> by have:=La hk;show hJ k≤n;omega
 simp[uZ,tM]
 refine⟨fun e1=> ⟨fun e2=> ⟨fun e3=> ⟨fun e4=> ⟨fun e5=> ⟨fun e6 _ _=> ⟨fun h e=> h (by rw[e]),fun hl _=> ?_⟩,fun h e=> h (by rw[e])⟩,fun h e=> h (by rw[e])⟩,fun h e=> h (by rw[e])⟩,fun h e=> h (by rw[e])⟩,fun h e=> h (by rw[e])⟩,fun h e=> h (by rw[e])⟩
 refine aJ (X:=Unit) [2,3] [] a.kids.length (fun k _=> a.kids.take k=b.kids.take k) (fun _=> []) (fun _=> []) () (by simp) (by simp) (by omega) (by simp) (by simp) (by simp) (by simp) (by simp) ?_ ?_
 ·rintro k -hk hP
  obtain⟨x,hx⟩:=cV hk
  obtain⟨y,hy⟩:=cV (l:=b.kids) (k:=k) (by omega)
  have hx1:=cn hx
  obtain⟨_,hgx⟩:=List.getElem?_eq_some_iff.1 hx
  obtain⟨_,hgy⟩:=List.getElem?_eq_some_iff.1 hy
  simp[h1,hk,hx,hy,hgx,hgy,hpre x hx1, -Bool.forall_bool]
  refine⟨by omega,fun r hr=> ⟨fun hf e=> ?_,fun ht=> ?_⟩⟩
  ·subst e
   rw[hx] at hy
   cases hy
   rw[hr.2 rfl] at hf
   cases hf
  ·rw[cp hx,cp hy,hP,hr.1 ht]
 ·rintro -hP
  simp
  have h8:a.kids=b.kids:=by
   rw[List.take_of_length_le (by omega),List.take_of_length_le (by omega)] at hP
   exact hP
  exact SI e1 e2 e3 e4 e5 e6 h8
abbrev tE:Spc:=dt (a2 Pat Int) (fun _=> True) (enc (X:=Bool)) fun x y=> y=(decide (x.2≤100) && lG x.1)
abbrev xL:Spc:=dt (a2 Cond Cond) (fun _=> True) (enc (X:=Bool)) fun x y=> (y=true↔x.1=x.2)
theorem Jl (h1:S eq=xL):Walk r8 rp S (a2 Pat Int) (fun _=> True) (enc (X:=Bool)) fun x y=> y=(decide (x.2≤100) && lG x.1):=by
 rintro⟨p,d⟩ -
 simp[r8,rp,h1, -Bool.forall_bool]
 clear h1
 refine⟨fun h h'=> absurd h (by omega),fun hd y hy=> ?_⟩
 have hy:y=true↔p.cond=Cond0:=hy
 rw[decide_eq_true hd,Bool.true_and]
 revert hy
 revert y
 repeat' first | apply And.intro | intro _
 all_goals (rw[Bool.eq_iff_iff,zY];unfold AB;simp_all;try omega)
abbrev CR (n:Nat):Spc:=dt (a2 Pat Int) (fun x=> eJ x.1≤n∧0≤x.2∧x.2≤101) (enc (X:=Bool)) fun x y=> y=(cx x.1 x.2 && eN lG x.1)
theorem Hp (n:Nat) (h1:S mE=tE) (h2:S eL=CR n):Walk qa pP S (a2 Pat Int) (fun x=> eJ x.1≤n+1∧0≤x.2∧x.2≤101) (enc (X:=Bool)) fun x y=> y=(cx x.1 x.2 && eN lG x.1):=by
 rintro⟨p,d⟩ ⟨hn,hd0,hd1⟩
 have hpre: ∀k∈p.kids,eJ k≤n:=fun k hk=> by have:=k9 hk;have:eJ p≤n+1:=hn;omega
 simp only at hd0 hd1
 simp[qa,pP,h1]
 rw[kq,fC]
 refine⟨fun h=> ?_,fun hd hnd _=> ?_⟩
 ·simp only[Bool.and_eq_true,decide_eq_true_eq]
  intro h1
  rw[h h1.1,Bool.false_and]
 refine aJ (X:=Unit) [1,12] [] p.kids.length (fun k _=> ∀x∈p.kids.take k,(cx x (d+1) && eN lG x)=true) (fun _=> []) (fun _=> []) () (by simp) (by simp) (by omega) (by simp) (by simp) (by simp) (by simp) (by simp) ?_ ?_
 ·rintro k -hk hP
  obtain⟨x,hx⟩:=cV hk
  have hx1:=cn hx
  obtain⟨_,hgx⟩:=List.getElem?_eq_some_iff.1 hx
  have q1:=hpre x hx1
  simp[h2,hk,hx,hgx,q1, -Bool.forall_bool]
  refine⟨by simp only[InR];omega,by omega,fun hf _ hall _=> ⟨x,hx1,hf (hall x hx1)⟩,fun t1 t2=> ?_⟩
  have:=QL (P:=fun x=> (cx x (d+1) && eN lG x)=true) hP hx (by simp[t1,t2])
  simpa using this
 ·rintro -hP
  simp
  simp at hP
  simp[hnd,hd]
  exact⟨fun x hx=> (hP x hx).1,fun x hx=> (hP x hx).2⟩
end Go.Gv

namespace Go.Gv
open Cod (enc dec)
variable {S S0:Nat→Spc}
theorem NA {a b A B:Int} (h0:0≤a) (h1:a≤A) (h2:0≤b) (h3:b≤B):0≤a*b∧a*b≤A*B:=⟨Int.mul_nonneg h0 h2,Int.mul_le_mul h1 h3 h2 (by omega)⟩
def PPat (n:Nat) (p:Pat):Prop:=eJ p≤n∧qE eo p=true
theorem PPat.kid {n:Nat} {p k:Pat} (h:PPat (n+1) p) (hk:k∈p.kids):PPat n k:=by
 have h1:=k9 hk
 have h2:=h.1
 exact⟨by omega,JZ h.2 hk⟩
abbrev mM:Spc:=dt (a1 Pat) (fun _=> True) (enc (X:=Bool)) fun x y=> y=qE eo x
abbrev zh:Spc:=dt (a2 Pat Int) (fun x=> 0≤x.2∧x.2≤101) (enc (X:=Bool)) fun x y=> y=(cx x.1 x.2 && eN lG x.1)
abbrev L3 (n:Nat):Spc:=dt (a1 Pat) (PPat n) (enc (X:=Int)) fun x y=> y=kM x
end Go.Gv

namespace Go.Gv
open Cod (enc dec)
variable {S S0:Nat→Spc}
abbrev GN:D:= .v (.slice none 0 0)
def TF (x:Pat) (l:List Pat):Prop:=l.length+ (aQ x).length≤100000000
abbrev Es (n:Nat):Spc:=VD (X:=Pat) (Y:=Pat) (fun x l=> eJ x≤n∧TF x l) (fun x l r=> r=l++aQ x) ah 13
abbrev i_leavesA:Spc:=VD (X:=Pat) (Y:=Pat) (fun x l=> TF x l) (fun x l r=> r=l++aQ x) ah 13
theorem RH {ks:List Pat} {k:Nat} {x:Pat} (l:List Pat) (hx:ks[k]?=some x): (l++ (ks.take k).flatMap aQ) ++aQ x=l++ (ks.take (k+1)).flatMap aQ:=by
 rw[cp hx,List.flatMap_append,List.flatMap_singleton,List.append_assoc]
theorem Mn {ks:List Pat} {k:Nat} {x:Pat} {l:List Pat} (hx:ks[k]?=some x) (h:l.length+ (ks.flatMap aQ).length≤100000000):TF x (l++ (ks.take k).flatMap aQ):=by
 have:ks=ks.take k++x::ks.drop (k+1):=by rw[←dC hx,List.take_append_drop]
 rw[this] at h
 simp only[List.flatMap_append,List.flatMap_cons,List.length_append] at h
 unfold TF
 rw[List.length_append]
 omega
theorem Hq (n:Nat) (h1:S cX=Es n):I5 (X:=Pat) (Y:=Pat) jV jM S (fun x l=> eJ x≤n+1∧TF x l) (fun x l r=> r=l++aQ x) ah 13:=by
 rintro v l p ⟨hp,hl⟩
 have hk: ∀k∈p.kids,eJ k≤n:=fun k hk=> by have:=k9 hk;have:eJ p≤n+1:=hp;omega
 have hl':=hl
 unfold TF at hl'
 rw[bq] at hl'
 simp[jV,jM]
 refine⟨fun h1=> ⟨by simp[h1] at hl';omega,by simp[h1] at hl';omega,fun v=> jh (l++aQ p) (by simp[bq,h1]) rfl⟩,fun hne _=> ?_⟩
 rw[if_neg hne] at hl'
 refine aJ (X:=Value×List Pat) [15] [] p.kids.length (fun k x=> x.2=l++ (p.kids.take k).flatMap aQ) (fun x=> [(1, .own 1 x.1)]) (fun x=> [(1, .row x.1 ah 13 (x.2.map enc))]) (v,l) (by simp) (by simp) (by omega) (by simp) (by simp) (by simp) (by simp) (by simp[isNilRow]) ?_ ?_
 ·rintro k ⟨v,m⟩ hkl hm
  simp only at hm
  obtain⟨x,hx⟩:=cV hkl
  have hx1:=cn hx
  obtain⟨_,hgx⟩:=List.getElem?_eq_some_iff.1 hx
  have q1:=Mn hx hl'
  rw[←hm] at q1
  have q2:=hk x hx1
  simp[h1,hkl,hx,hgx,q1,q2]
  intro v'
  refine .inl ?_
  rw[hm,RH _ hx]
 ·rintro⟨v,m⟩ hm
  simp only at hm
  rw[List.take_length] at hm
  simp
  refine jh m (by simp) ?_
  rw[hm,bq,if_neg hne]
abbrev So:Spc:=Zu (Y:=Pat) (aE Pat (aD a0)) (fun x=> x.2.1=GN∧TF x.1 []) (fun x r=> r=aQ x.1) ah 13
theorem Fs (h1:S cX=i_leavesA):Ob (Y:=Pat) jV jM S (aE Pat (aD a0)) (fun x=> x.2.1=GN∧TF x.1 []) (fun x r=> r=aQ x.1) ah 13:=by
 rintro⟨p,d,⟨⟩⟩ ⟨hd,hl⟩
 have hd:d=GN:=hd
 subst hd
 have hl': ([]:List Pat).length+ (aQ p).length≤100000000:=hl
 rw[bq] at hl'
 simp[jV,jM]
 refine⟨fun h1 v=> jh (aQ p) (by simp[bq,h1]) rfl,fun hne _=> ?_⟩
 rw[if_neg hne] at hl'
 refine aJ (X:=Value×List Pat) [15] [] p.kids.length (fun k x=> x.2= [] ++ (p.kids.take k).flatMap aQ) (fun x=> [(1, .own 1 x.1)]) (fun x=> [(1, .row x.1 ah 13 (x.2.map enc))]) (.slice none 0 0, []) (by simp) (by simp) (by omega) (by simp) (by simp) (by simp) (by simp) (by simp[isNilRow]) ?_ ?_
 ·rintro k ⟨v,m⟩ hkl hm
  simp only at hm
  obtain⟨x,hx⟩:=cV hkl
  have hx1:=cn hx
  obtain⟨_,hgx⟩:=List.getElem?_eq_some_iff.1 hx
  have q1:=Mn hx hl'
  rw[←hm] at q1
  simp[h1,hkl,hx,hgx,q1]
  intro v'
  refine .inl ?_
  rw[hm,RH _ hx]
  rfl
 ·rintro⟨v,m⟩ hm
  simp only at hm
  rw[List.take_length] at hm
  simp
  refine jh m (by simp) ?_
  rw[hm,bq,if_neg hne]
  rfl
abbrev s_leaves:Spc:=YZ So i_leavesA
abbrev HP:Spc:=dt (a1 Pat) (fun x=> qE eo x=true) (enc (X:=Int)) fun x y=> y=kM x
abbrev wB:Spc:=dt (a1 Pat) (fun _=> True) (enc (X:=Int)) fun x y=> y=if qE eo x then kM x else 0
end Go.Gv

namespace Go.Gv
open Cod (enc dec)
variable {S S0:Nat→Spc}
theorem On {σ:Sg} {H:aa} {k j b el n:Nat} {cs cs':List D} (hkj:j≠k) (hk:H k=some (.box b cs)) (hl:cs.length=cs'.length) (hc: ∀ (m:Nat) (c c':D),cs[m]?=some c→cs'[m]?=some c'→FrzTo cu c c'):
 Wk σ H σ (ak (ak H k (some (.box b cs'))) j (some (.row (.slice none 0 0) el n []))):=by
 refine Hm (Hf:=cu) id (fun t=> .same _) (fun i r h=> ?_) (fun i j r s _ _ e=> .inl e) (fun i r h=> by simp[cu] at h)
 by_cases e:i=j
 ·subst e
  simp[ak] at h
  subst h
  exact .inr ⟨rfl,rfl⟩
 ·by_cases e2:i=k
  ·subst e2
   simp[ak,e] at h
   subst h
   exact .inl ⟨_,hk, .inr ⟨rfl,hl,hc⟩⟩
  ·simp only[ak,e,e2,if_false] at h
   exact .inl ⟨r,h, .inl rfl⟩
def J8:Nat→Cond→Prop
 | 0,_=> False
 | n+1,x=> x.kids.length≤1000000∧ ∀k∈x.kids,J8 n k
abbrev Db (n:Nat):Spc:=dt (a1 Cond) (J8 n) (enc (X:=Cond)) fun x y=> y=x
theorem Cm (n:Nat) (h1:S dB=Db n):Walk m8 mT S (a1 Cond) (J8 (n+1)) (enc (X:=Cond)) fun x y=> y=x:=by
 rintro⟨op,name,arg,val,lab,fold,kids⟩ ⟨hlen,hk⟩
 simp only at hlen hk
 simp[m8,mT]
 intro b2 b3 hkl
 refine OE (On (k:=3) (j:=20) (b:=b3) (el:=aN) (n:=7) (cs':= [.v (.int .i64 op), .v (.string name), .v (.string arg), .v (.string val), .v (.string lab), .v (.bool fold), .own 20 (.slice none 0 0)]) (by decide) (by simp;rfl) (by simp) ?_) ?_
 ·intro m c c' hc hc'
  match m with
  | 0 | 1 | 2 | 3 | 4 | 5=> simp at hc hc';subst hc;subst hc';exact .same _
  | 6=> simp at hc hc';subst hc;subst hc';exact .nilown _
  | m+7=> simp at hc
 refine aJ (X:=Value×List Cond) [2,9] [2] kids.length (fun k x=> x.2=kids.take k) (fun x=> [(3, .bptr 3 b3 0)]) (fun x=> [(3, .box b3 [.v (.int .i64 op), .v (.string name), .v (.string arg), .v (.string val), .v (.string lab), .v (.bool fold), .own 20 x.1]),(20, .row x.1 aN 7 (x.2.map enc))]) (.slice none 0 0, []) (by simp) (by simp) (by omega) (by simp) (by simp) (by simp) (by simp) (by simp) ?_ ?_
 ·rintro k ⟨v,m⟩ hkl' hm
  simp only at hm
  obtain⟨x,hx⟩:=cV hkl'
  obtain⟨_,hgx⟩:=List.getElem?_eq_some_iff.1 hx
  have hx1:=hk x (cn hx)
  have hml:m.length=k:=by rw[hm,List.length_take];omega
  simp[h1,hkl',hx,hgx,hx1]
  refine⟨by omega,by omega,fun v=> .inl (.inl ?_)⟩
  rw[hm,List.map_take,List.take_add_one]
  simp[hx]
 ·rintro⟨v,m⟩ hm
  simp only at hm
  rw[List.take_length] at hm
  subst hm
  simp
  refine gq (Y:=Cond) ⟨op,name,arg,val,lab,fold,m⟩ ?_ rfl
  simp
  refine .agg (by simp) fun i c c' h h'=> ?_
  match i with
  | 0 | 1 | 2 | 3 | 4 | 5=> simp at h h';subst h;subst h';exact .same _
  | 6=> simp at h h';subst h;subst h';exact MF aN (by simp)
  | i+7=> simp at h
theorem qiD {H:aa} {l l':List D} (h:FzL H l l'):FrzTo H (.agg l) (.agg l'):= .agg h.get.1 h.get.2
abbrev zu:Spc:=dt (a1 Cond) (fun x=> ∃n,J8 n x) (enc (X:=Cond)) fun x y=> y=x
def xe (p:Pat):Pat:=⟨p.op,p.cond,p.lab,⟨#[]⟩,0,0, []⟩
abbrev xP:Spc:=dt (a1 Pat) (fun p=> ∃n,J8 n p.cond) (enc (X:=Pat)) fun x y=> y=xe x
theorem FB (h1:S dB=zu):Walk oU nX S (a1 Pat) (fun p=> ∃n,J8 n p.cond) (enc (X:=Pat)) fun x y=> y=xe x:=by
 rintro p hp
 simp[oU,nX,h1,hp]
 intro b
 refine gq (Y:=Pat) (xe p) ?_ rfl
 unfold xe
 simp
 refine qiD ?_
 simp
def d5 (p:Pat):List Pat:=(aQ p).map xe
theorem rO (p:Pat):d5 p=if p.op=1 then[xe p] else p.kids.flatMap d5:=by
 unfold d5
 rw[bq]
 split
 ·rfl
 ·rw[List.map_flatMap]
def PLc (p:Pat):Prop:= ∀y∈aQ p,∃n,J8 n y.cond
theorem PLc.kid {p k:Pat} (h:PLc p) (hne: ¬p.op=1) (hk:k∈p.kids):PLc k:=fun y hy=> h y (by rw[bq,if_neg hne];exact List.mem_flatMap.2 ⟨k,hk,hy⟩)
theorem RJ {ks:List Pat} {k:Nat} {x:Pat} (l:List Pat) (hx:ks[k]?=some x): (l++ (ks.take k).flatMap d5) ++d5 x=l++ (ks.take (k+1)).flatMap d5:=by
 rw[cp hx,List.flatMap_append,List.flatMap_singleton,List.append_assoc]
def XP (x:Pat) (l:List Pat):Prop:=l.length+ (aQ x).length≤100000000∧PLc x
theorem WT (ks:List Pat): (ks.flatMap d5).length=(ks.flatMap aQ).length:=by
 induction ks with
 | nil=> rfl
 | cons k ks ih=> simp only[List.flatMap_cons,List.length_append,ih];unfold d5;simp
theorem RI {ks:List Pat} {k:Nat} {x:Pat} {l:List Pat} (hx:ks[k]?=some x) (h:l.length+ (ks.flatMap aQ).length≤100000000) (hc:PLc x):XP x (l++ (ks.take k).flatMap d5):=by
 have:=Mn hx h
 unfold TF at this
 refine⟨?_,hc⟩
 simp only[List.length_append] at this ⊢
 rw[WT]
 exact this
abbrev Af (n:Nat):Spc:=VD (X:=Pat) (Y:=Pat) (fun x l=> eJ x≤n∧XP x l) (fun x l r=> r=l++d5 x) ah 13
abbrev i_leavesQA:Spc:=VD (X:=Pat) (Y:=Pat) (fun x l=> XP x l) (fun x l r=> r=l++d5 x) ah 13
theorem Cl (n:Nat) (h1:S bZ=Af n) (h2:S fV=xP):I5 (X:=Pat) (Y:=Pat) gK gE S (fun x l=> eJ x≤n+1∧XP x l) (fun x l r=> r=l++d5 x) ah 13:=by
 rintro v l p ⟨hp,hl,hc⟩
 have hk: ∀k∈p.kids,eJ k≤n:=fun k hk=> by have:=k9 hk;have:eJ p≤n+1:=hp;omega
 have hl':=hl
 rw[bq] at hl'
 simp[gK,gE,h2]
 refine⟨fun h1=> ?_,fun hne _=> ?_⟩
 ·have hcc: ∃n,J8 n p.cond:=hc p (by rw[bq,if_pos h1];simp)
  simp[h1] at hl'
  exact⟨hcc,by omega,by omega,fun v=> jh (l++d5 p) (by simp[rO,h1]) rfl⟩
 rw[if_neg hne] at hl'
 refine aJ (X:=Value×List Pat) [16] [] p.kids.length (fun k x=> x.2=l++ (p.kids.take k).flatMap d5) (fun x=> [(1, .own 1 x.1)]) (fun x=> [(1, .row x.1 ah 13 (x.2.map enc))]) (v,l) (by simp) (by simp) (by omega) (by simp) (by simp) (by simp) (by simp) (by simp[isNilRow]) ?_ ?_
 ·rintro k ⟨v,m⟩ hkl hm
  simp only at hm
  obtain⟨x,hx⟩:=cV hkl
  have hx1:=cn hx
  obtain⟨_,hgx⟩:=List.getElem?_eq_some_iff.1 hx
  have q1:=RI hx hl' (hc.kid hne hx1)
  rw[←hm] at q1
  have q2:=hk x hx1
  simp[h1,hkl,hx,hgx,q1,q2]
  intro v'
  refine .inl ?_
  rw[hm,RJ _ hx]
 ·rintro⟨v,m⟩ hm
  simp only at hm
  rw[List.take_length] at hm
  simp
  refine jh m (by simp) ?_
  rw[hm,rO,if_neg hne]
abbrev PE:Spc:=Zu (Y:=Pat) (aE Pat (aD a0)) (fun x=> x.2.1=GN∧XP x.1 []) (fun x r=> r=d5 x.1) ah 13
theorem A9 (h1:S bZ=i_leavesQA) (h2:S fV=xP):Ob (Y:=Pat) gK gE S (aE Pat (aD a0)) (fun x=> x.2.1=GN∧XP x.1 []) (fun x r=> r=d5 x.1) ah 13:=by
 rintro⟨p,d,⟨⟩⟩ ⟨hd,hl,hc⟩
 have hd:d=GN:=hd
 subst hd
 have hl': ([]:List Pat).length+ (aQ p).length≤100000000:=hl
 rw[bq] at hl'
 simp[gK,gE,h2]
 refine⟨fun h1=> ⟨hc p (by rw[bq,if_pos h1];simp),fun v=> jh (d5 p) (by simp[rO,h1]) rfl⟩,fun hne _=> ?_⟩
 rw[if_neg hne] at hl'
 refine aJ (X:=Value×List Pat) [16] [] p.kids.length (fun k x=> x.2= [] ++ (p.kids.take k).flatMap d5) (fun x=> [(1, .own 1 x.1)]) (fun x=> [(1, .row x.1 ah 13 (x.2.map enc))]) (.slice none 0 0, []) (by simp) (by simp) (by omega) (by simp) (by simp) (by simp) (by simp) (by simp[isNilRow]) ?_ ?_
 ·rintro k ⟨v,m⟩ hkl hm
  simp only at hm
  obtain⟨x,hx⟩:=cV hkl
  have hx1:=cn hx
  obtain⟨_,hgx⟩:=List.getElem?_eq_some_iff.1 hx
  have q1:=RI hx hl' (hc.kid hne hx1)
  rw[←hm] at q1
  simp[h1,hkl,hx,hgx,q1]
  intro v'
  refine .inl ?_
  rw[hm,RJ _ hx]
  rfl
 ·rintro⟨v,m⟩ hm
  simp only at hm
  rw[List.take_length] at hm
  simp
  refine jh m (by simp) ?_
  rw[hm,rO,if_neg hne]
  rfl
abbrev s_leavesQ:Spc:=YZ PE i_leavesQA
end Go.Gv
