/- A part of the framework and of the walks: W33 W34 W35 W76. -/
import Derived.Test.YtaiffcbkmgfklaaGreatDoorGs22
import Derived.Test.YtaiffcbkmgfklaaGreatDoorGs21
import Derived.Test.YtaiffcbkmgfklaaGreatDoorGs25
import Derived.Test.YtaiffcbkmgfklaaGreatDoorGs20
set_option linter.unusedSimpArgs false
set_option linter.unusedVariables false
set_option maxRecDepth 100000

namespace Go.Gv
open Cod (enc dec)
variable {S S0:Nat→Spc}
theorem S8 {α:Type} {l:List α} {k:Nat} {a:α} {P:α→Prop} (h: ∀x∈l.take k,P x) (ha:l[k]?=some a) (hp:P a): ∀x∈l.take (k+1),P x:=by
 rw[dq ha]
 intro x hx
 rcases List.mem_append.1 hx with hx | hx
 ·exact h x hx
 ·simp at hx
  subst hx
  exact hp
def Sl {X:Type} (m:X→Nat) (n:Nat) (x:X):Prop:=m x≤n
abbrev JZ (n:Nat):Spc:=cY (a2 Cond Cond) (Sl (fun x=> fk x.1) n) (enc (X:=Bool)) fun x y=> (y=true↔x.1=x.2)
theorem Vk {a b:Cond} (h1:a.op=b.op) (h2:a.name=b.name) (h3:a.arg=b.arg) (h4:a.val=b.val) (h5:a.lab=b.lab) (h6:a.fold=b.fold) (h7:a.kids=b.kids):a=b:=by
 cases a;cases b;simp only at*;subst h1;subst h2;subst h3;subst h4;subst h5;subst h6;subst h7;rfl
theorem NO (n:Nat) (h1:S fA=JZ n):Walk w7 vM S (a2 Cond Cond) (Sl (fun x=> fk x.1) (n+1)) (enc (X:=Bool)) fun x y=> (y=true↔x.1=x.2):=by
 rintro⟨a,b⟩ hn
 have hn:fk a≤n+1:=hn
 have hpre: ∀k∈a.kids,∀y,Sl (fun x:Cond×Cond=> fk x.1) n (k,y):=fun k hk y=> by have:=G6 hk;show fk k≤n;omega
 simp[w7,vM]
 refine⟨fun e1=> ⟨fun e2=> ⟨fun e3=> ⟨fun e4=> ⟨fun e5=> ⟨fun e6 _ _=> ⟨fun h e=> h (by rw[e]),fun hl _=> ?_⟩,fun h e=> h (by rw[e])⟩,fun h e=> h (by rw[e])⟩,fun h e=> h (by rw[e])⟩,fun h e=> h (by rw[e])⟩,fun h e=> h (by rw[e])⟩,fun h e=> h (by rw[e])⟩
 refine aw (X:=Unit) [2,3] [] a.kids.length (fun k _=> a.kids.take k=b.kids.take k) (fun _=> []) (fun _=> []) () (by simp) (by simp) (by omega) (by simp) (by simp) (by simp) (by simp) (by simp) ?_ ?_
 ·rintro k -hk hP
  obtain⟨x,hx⟩:=cz hk
  obtain⟨y,hy⟩:=cz (l:=b.kids) (k:=k) (by omega)
  have hx1:=cn hx
  obtain⟨_,hgx⟩:=List.getElem?_eq_some_iff.1 hx
  obtain⟨_,hgy⟩:=List.getElem?_eq_some_iff.1 hy
  simp[h1,hk,hx,hy,hgx,hgy,hpre x hx1, -Bool.forall_bool]
  refine⟨by omega,fun r hr=> ⟨fun hf e=> ?_,fun ht=> ?_⟩⟩
  ·subst e
   rw[hx] at hy
   cases hy
   rw[hr.2 rfl] at hf
   cases hf
  ·rw[dq hx,dq hy,hP,hr.1 ht]
 ·rintro -hP
  simp
  have h8:a.kids=b.kids:=by
   rw[List.take_of_length_le (by omega),List.take_of_length_le (by omega)] at hP
   exact hP
  exact Vk e1 e2 e3 e4 e5 e6 h8
abbrev vE:Spc:=cY (a2 Pat Int) (fun _=> True) (enc (X:=Bool)) fun x y=> y=(decide (x.2≤100) && nq x.1)
abbrev zS:Spc:=cY (a2 Cond Cond) (fun _=> True) (enc (X:=Bool)) fun x y=> (y=true↔x.1=x.2)
theorem Lr (h1:S fA=zS):Walk ur tE S (a2 Pat Int) (fun _=> True) (enc (X:=Bool)) fun x y=> y=(decide (x.2≤100) && nq x.1):=by
 rintro⟨p,d⟩ -
 simp[ur,tE,h1, -Bool.forall_bool]
 clear h1
 refine⟨fun h h'=> absurd h (by omega),fun hd y hy=> ?_⟩
 have hy:y=true↔p.cond=Cond0:=hy
 rw[decide_eq_true hd,Bool.true_and]
 revert hy
 revert y
 repeat' first | apply And.intro | intro _
 all_goals (rw[Bool.eq_iff_iff,BR];unfold Cs;simp_all;try omega)
abbrev EX (n:Nat):Spc:=cY (a2 Pat Int) (fun x=> fP x.1≤n∧0≤x.2∧x.2≤101) (enc (X:=Bool)) fun x y=> y=(dc x.1 x.2 && fT nq x.1)
theorem Jv (n:Nat) (h1:S o3=vE) (h2:S fR=EX n):Walk sr rY S (a2 Pat Int) (fun x=> fP x.1≤n+1∧0≤x.2∧x.2≤101) (enc (X:=Bool)) fun x y=> y=(dc x.1 x.2 && fT nq x.1):=by
 rintro⟨p,d⟩ ⟨hn,hd0,hd1⟩
 have hpre: ∀k∈p.kids,fP k≤n:=fun k hk=> by have:=mV hk;have:fP p≤n+1:=hn;omega
 simp only at hd0 hd1
 simp[sr,rY,h1]
 rw[mj,gI]
 refine⟨fun h=> ?_,fun hd hnd _=> ?_⟩
 ·simp only[Bool.and_eq_true,decide_eq_true_eq]
  intro h1
  rw[h h1.1,Bool.false_and]
 refine aw (X:=Unit) [1,12] [] p.kids.length (fun k _=> ∀x∈p.kids.take k,(dc x (d+1) && fT nq x)=true) (fun _=> []) (fun _=> []) () (by simp) (by simp) (by omega) (by simp) (by simp) (by simp) (by simp) (by simp) ?_ ?_
 ·rintro k -hk hP
  obtain⟨x,hx⟩:=cz hk
  have hx1:=cn hx
  obtain⟨_,hgx⟩:=List.getElem?_eq_some_iff.1 hx
  have q1:=hpre x hx1
  simp[h2,hk,hx,hgx,q1, -Bool.forall_bool]
  refine⟨by simp only[InR];omega,by omega,fun hf _ hall _=> ⟨x,hx1,hf (hall x hx1)⟩,fun t1 t2=> ?_⟩
  have:=S8 (P:=fun x=> (dc x (d+1) && fT nq x)=true) hP hx (by simp[t1,t2])
  simpa using this
 ·rintro -hP
  simp
  simp at hP
  simp[hnd,hd]
  exact⟨fun x hx=> (hP x hx).1,fun x hx=> (hP x hx).2⟩
end Go.Gv

namespace Go.Gv
open Cod (enc dec)
variable {S S0:Nat→Spc}
theorem PM {a b A B:Int} (h0:0≤a) (h1:a≤A) (h2:0≤b) (h3:b≤B):0≤a*b∧a*b≤A*B:=⟨Int.mul_nonneg h0 h2,Int.mul_le_mul h1 h3 h2 (by omega)⟩
def PPat (n:Nat) (p:Pat):Prop:=fP p≤n∧sa ft p=true
theorem PPat.kid {n:Nat} {p k:Pat} (h:PPat (n+1) p) (hk:k∈p.kids):PPat n k:=by
 have h1:=mV hk
 have h2:=h.1
 exact⟨by omega,L9 h.2 hk⟩
abbrev ph:Spc:=cY (a1 Pat) (fun _=> True) (enc (X:=Bool)) fun x y=> y=sa ft x
abbrev A7:Spc:=cY (a2 Pat Int) (fun x=> 0≤x.2∧x.2≤101) (enc (X:=Bool)) fun x y=> y=(dc x.1 x.2 && fT nq x.1)
abbrev Oc (n:Nat):Spc:=cY (a1 Pat) (PPat n) (enc (X:=Int)) fun x y=> y=mL x
end Go.Gv

namespace Go.Gv
open Cod (enc dec)
variable {S S0:Nat→Spc}
abbrev IV:D:= .v (.slice none 0 0)
def VZ (x:Pat) (l:List Pat):Prop:=l.length+ (aW x).length≤100000000
abbrev Gy (n:Nat):Spc:=Ya (X:=Pat) (Y:=Pat) (fun x l=> fP x≤n∧VZ x l) (fun x l r=> r=l++aW x) aj 13
abbrev i_leavesA:Spc:=Ya (X:=Pat) (Y:=Pat) (fun x l=> VZ x l) (fun x l r=> r=l++aW x) aj 13
theorem TW {ks:List Pat} {k:Nat} {x:Pat} (l:List Pat) (hx:ks[k]?=some x): (l++ (ks.take k).flatMap aW) ++aW x=l++ (ks.take (k+1)).flatMap aW:=by
 rw[dq hx,List.flatMap_append,List.flatMap_singleton,List.append_assoc]
theorem OD {ks:List Pat} {k:Nat} {x:Pat} {l:List Pat} (hx:ks[k]?=some x) (h:l.length+ (ks.flatMap aW).length≤100000000):VZ x (l++ (ks.take k).flatMap aW):=by
 have:ks=ks.take k++x::ks.drop (k+1):=by rw[←ek hx,List.take_append_drop]
 rw[this] at h
 simp only[List.flatMap_append,List.flatMap_cons,List.length_append] at h
 unfold VZ
 rw[List.length_append]
 omega
theorem Jw (n:Nat) (h1:S dP=Gy n):Ld (X:=Pat) (Y:=Pat) lM lD S (fun x l=> fP x≤n+1∧VZ x l) (fun x l r=> r=l++aW x) aj 13:=by
 rintro v l p ⟨hp,hl⟩
 have hk: ∀k∈p.kids,fP k≤n:=fun k hk=> by have:=mV hk;have:fP p≤n+1:=hp;omega
 have hl':=hl
 unfold VZ at hl'
 rw[bJ] at hl'
 simp[lM,lD]
 refine⟨fun h1=> ⟨by simp[h1] at hl';omega,by simp[h1] at hl';omega,fun v=> kM (l++aW p) (by simp[bJ,h1]) rfl⟩,fun hne _=> ?_⟩
 rw[if_neg hne] at hl'
 refine aw (X:=Value×List Pat) [15] [] p.kids.length (fun k x=> x.2=l++ (p.kids.take k).flatMap aW) (fun x=> [(1, .own 1 x.1)]) (fun x=> [(1, .row x.1 aj 13 (x.2.map enc))]) (v,l) (by simp) (by simp) (by omega) (by simp) (by simp) (by simp) (by simp) (by simp[isNilRow]) ?_ ?_
 ·rintro k ⟨v,m⟩ hkl hm
  simp only at hm
  obtain⟨x,hx⟩:=cz hkl
  have hx1:=cn hx
  obtain⟨_,hgx⟩:=List.getElem?_eq_some_iff.1 hx
  have q1:=OD hx hl'
  rw[←hm] at q1
  have q2:=hk x hx1
  simp[h1,hkl,hx,hgx,q1,q2]
  intro v'
  refine .inl ?_
  rw[hm,TW _ hx]
 ·rintro⟨v,m⟩ hm
  simp only at hm
  rw[List.take_length] at hm
  simp
  refine kM m (by simp) ?_
  rw[hm,bJ,if_neg hne]
abbrev U0:Spc:=qbI (Y:=Pat) (aE Pat (aD a0)) (fun x=> x.2.1=IV∧VZ x.1 []) (fun x r=> r=aW x.1) aj 13
theorem HA (h1:S dP=i_leavesA):Qq (Y:=Pat) lM lD S (aE Pat (aD a0)) (fun x=> x.2.1=IV∧VZ x.1 []) (fun x r=> r=aW x.1) aj 13:=by
 rintro⟨p,d,⟨⟩⟩ ⟨hd,hl⟩
 have hd:d=IV:=hd
 subst hd
 have hl': ([]:List Pat).length+ (aW p).length≤100000000:=hl
 rw[bJ] at hl'
 simp[lM,lD]
 refine⟨fun h1 v=> kM (aW p) (by simp[bJ,h1]) rfl,fun hne _=> ?_⟩
 rw[if_neg hne] at hl'
 refine aw (X:=Value×List Pat) [15] [] p.kids.length (fun k x=> x.2= [] ++ (p.kids.take k).flatMap aW) (fun x=> [(1, .own 1 x.1)]) (fun x=> [(1, .row x.1 aj 13 (x.2.map enc))]) (.slice none 0 0, []) (by simp) (by simp) (by omega) (by simp) (by simp) (by simp) (by simp) (by simp[isNilRow]) ?_ ?_
 ·rintro k ⟨v,m⟩ hkl hm
  simp only at hm
  obtain⟨x,hx⟩:=cz hkl
  have hx1:=cn hx
  obtain⟨_,hgx⟩:=List.getElem?_eq_some_iff.1 hx
  have q1:=OD hx hl'
  rw[←hm] at q1
  simp[h1,hkl,hx,hgx,q1]
  intro v'
  refine .inl ?_
  rw[hm,TW _ hx]
  rfl
 ·rintro⟨v,m⟩ hm
  simp only at hm
  rw[List.take_length] at hm
  simp
  refine kM m (by simp) ?_
  rw[hm,bJ,if_neg hne]
  rfl
abbrev s_leaves:Spc:=qbd U0 i_leavesA
abbrev JV:Spc:=cY (a1 Pat) (fun x=> sa ft x=true) (enc (X:=Int)) fun x y=> y=mL x
abbrev yK:Spc:=cY (a1 Pat) (fun _=> True) (enc (X:=Int)) fun x y=> y=if sa ft x then mL x else 0
end Go.Gv

namespace Go.Gv
open Cod (enc dec)
variable {S S0:Nat→Spc}
theorem QF {σ:Sg} {H:ae} {k j b el n:Nat} {cs cs':List D} (hkj:j≠k) (hk:H k=some (.box b cs)) (hl:cs.length=cs'.length) (hc: ∀ (m:Nat) (c c':D),cs[m]?=some c→cs'[m]?=some c'→FrzTo cZ c c'):
 Wk σ H σ (aq (aq H k (some (.box b cs'))) j (some (.row (.slice none 0 0) el n []))):=by
 refine Js (Hf:=cZ) id (fun t=> .same _) (fun i r h=> ?_) (fun i j r s _ _ e=> .inl e) (fun i r h=> by simp[cZ] at h)
 by_cases e:i=j
 ·subst e
  simp[aq] at h
  subst h
  exact .inr ⟨rfl,rfl⟩
 ·by_cases e2:i=k
  ·subst e2
   simp[aq,e] at h
   subst h
   exact .inl ⟨_,hk, .inr ⟨rfl,hl,hc⟩⟩
  ·simp only[aq,e,e2,if_false] at h
   exact .inl ⟨r,h, .inl rfl⟩
def KC:Nat→Cond→Prop
 | 0,_=> False
 | n+1,x=> x.kids.length≤1000000∧ ∀k∈x.kids,KC n k
abbrev Fd (n:Nat):Spc:=cY (a1 Cond) (KC n) (enc (X:=Cond)) fun x y=> y=x
theorem Ew (n:Nat) (h1:S ej=Fd n):Walk pF pq S (a1 Cond) (KC (n+1)) (enc (X:=Cond)) fun x y=> y=x:=by
 rintro⟨op,name,arg,val,lab,fold,kids⟩ ⟨hlen,hk⟩
 simp only at hlen hk
 simp[pF,pq]
 intro b2 b3 hkl
 refine QZ (QF (k:=3) (j:=20) (b:=b3) (el:=aR) (n:=7) (cs':= [.v (.int .i64 op), .v (.string name), .v (.string arg), .v (.string val), .v (.string lab), .v (.bool fold), .own 20 (.slice none 0 0)]) (by decide) (by simp;rfl) (by simp) ?_) ?_
 ·intro m c c' hc hc'
  match m with
  | 0 | 1 | 2 | 3 | 4 | 5=> simp at hc hc';subst hc;subst hc';exact .same _
  | 6=> simp at hc hc';subst hc;subst hc';exact .nilown _
  | m+7=> simp at hc
 refine aw (X:=Value×List Cond) [2,9] [2] kids.length (fun k x=> x.2=kids.take k) (fun x=> [(3, .bptr 3 b3 0)]) (fun x=> [(3, .box b3 [.v (.int .i64 op), .v (.string name), .v (.string arg), .v (.string val), .v (.string lab), .v (.bool fold), .own 20 x.1]),(20, .row x.1 aR 7 (x.2.map enc))]) (.slice none 0 0, []) (by simp) (by simp) (by omega) (by simp) (by simp) (by simp) (by simp) (by simp) ?_ ?_
 ·rintro k ⟨v,m⟩ hkl' hm
  simp only at hm
  obtain⟨x,hx⟩:=cz hkl'
  obtain⟨_,hgx⟩:=List.getElem?_eq_some_iff.1 hx
  have hx1:=hk x (cn hx)
  have hml:m.length=k:=by rw[hm,List.length_take];omega
  simp[h1,hkl',hx,hgx,hx1]
  refine⟨by omega,by omega,fun v=> .inl (.inl ?_)⟩
  rw[hm,List.map_take,List.take_add_one]
  simp[hx]
 ·rintro⟨v,m⟩ hm
  simp only at hm
  rw[List.take_length] at hm
  subst hm
  simp
  refine gj (Y:=Cond) ⟨op,name,arg,val,lab,fold,m⟩ ?_ rfl
  simp
  refine .agg (by simp) fun i c c' h h'=> ?_
  match i with
  | 0 | 1 | 2 | 3 | 4 | 5=> simp at h h';subst h;subst h';exact .same _
  | 6=> simp at h h';subst h;subst h';exact OY aR (by simp)
  | i+7=> simp at h
theorem qkW {H:ae} {l l':List D} (h:FzL H l l'):FrzTo H (.agg l) (.agg l'):= .agg h.get.1 h.get.2
abbrev Bl:Spc:=cY (a1 Cond) (fun x=> ∃n,KC n x) (enc (X:=Cond)) fun x y=> y=x
def wZ (p:Pat):Pat:=⟨p.op,p.cond,p.lab,⟨#[]⟩,0,0, []⟩
abbrev zW:Spc:=cY (a1 Pat) (fun p=> ∃n,KC n p.cond) (enc (X:=Pat)) fun x y=> y=wZ x
theorem HL (h1:S ej=Bl):Walk qW qx S (a1 Pat) (fun p=> ∃n,KC n p.cond) (enc (X:=Pat)) fun x y=> y=wZ x:=by
 rintro p hp
 simp[qW,qx,h1,hp]
 intro b
 refine gj (Y:=Pat) (wZ p) ?_ rfl
 unfold wZ
 simp
 refine qkW ?_
 simp
def dy (p:Pat):List Pat:=(aW p).map wZ
theorem t6 (p:Pat):dy p=if p.op=1 then[wZ p] else p.kids.flatMap dy:=by
 unfold dy
 rw[bJ]
 split
 ·rfl
 ·rw[List.map_flatMap]
def PLc (p:Pat):Prop:= ∀y∈aW p,∃n,KC n y.cond
theorem PLc.kid {p k:Pat} (h:PLc p) (hne: ¬p.op=1) (hk:k∈p.kids):PLc k:=fun y hy=> h y (by rw[bJ,if_neg hne];exact List.mem_flatMap.2 ⟨k,hk,hy⟩)
theorem TY {ks:List Pat} {k:Nat} {x:Pat} (l:List Pat) (hx:ks[k]?=some x): (l++ (ks.take k).flatMap dy) ++dy x=l++ (ks.take (k+1)).flatMap dy:=by
 rw[dq hx,List.flatMap_append,List.flatMap_singleton,List.append_assoc]
def Yt (x:Pat) (l:List Pat):Prop:=l.length+ (aW x).length≤100000000∧PLc x
theorem Zi (ks:List Pat): (ks.flatMap dy).length=(ks.flatMap aW).length:=by
 induction ks with
 | nil=> rfl
 | cons k ks ih=> simp only[List.flatMap_cons,List.length_append,ih];unfold dy;simp
theorem TX {ks:List Pat} {k:Nat} {x:Pat} {l:List Pat} (hx:ks[k]?=some x) (h:l.length+ (ks.flatMap aW).length≤100000000) (hc:PLc x):Yt x (l++ (ks.take k).flatMap dy):=by
 have:=OD hx h
 unfold VZ at this
 refine⟨?_,hc⟩
 simp only[List.length_append] at this ⊢
 rw[Zi]
 exact this
abbrev B9 (n:Nat):Spc:=Ya (X:=Pat) (Y:=Pat) (fun x l=> fP x≤n∧Yt x l) (fun x l r=> r=l++dy x) aj 13
abbrev i_leavesQA:Spc:=Ya (X:=Pat) (Y:=Pat) (fun x l=> Yt x l) (fun x l r=> r=l++dy x) aj 13
theorem Ev (n:Nat) (h1:S cg=B9 n) (h2:S hZ=zW):Ld (X:=Pat) (Y:=Pat) jj jd S (fun x l=> fP x≤n+1∧Yt x l) (fun x l r=> r=l++dy x) aj 13:=by
 rintro v l p ⟨hp,hl,hc⟩
 have hk: ∀k∈p.kids,fP k≤n:=fun k hk=> by have:=mV hk;have:fP p≤n+1:=hp;omega
 have hl':=hl
 rw[bJ] at hl'
 simp[jj,jd,h2]
 refine⟨fun h1=> ?_,fun hne _=> ?_⟩
 ·have hcc: ∃n,KC n p.cond:=hc p (by rw[bJ,if_pos h1];simp)
  simp[h1] at hl'
  exact⟨hcc,by omega,by omega,fun v=> kM (l++dy p) (by simp[t6,h1]) rfl⟩
 rw[if_neg hne] at hl'
 refine aw (X:=Value×List Pat) [16] [] p.kids.length (fun k x=> x.2=l++ (p.kids.take k).flatMap dy) (fun x=> [(1, .own 1 x.1)]) (fun x=> [(1, .row x.1 aj 13 (x.2.map enc))]) (v,l) (by simp) (by simp) (by omega) (by simp) (by simp) (by simp) (by simp) (by simp[isNilRow]) ?_ ?_
 ·rintro k ⟨v,m⟩ hkl hm
  simp only at hm
  obtain⟨x,hx⟩:=cz hkl
  have hx1:=cn hx
  obtain⟨_,hgx⟩:=List.getElem?_eq_some_iff.1 hx
  have q1:=TX hx hl' (hc.kid hne hx1)
  rw[←hm] at q1
  have q2:=hk x hx1
  simp[h1,hkl,hx,hgx,q1,q2]
  intro v'
  refine .inl ?_
  rw[hm,TY _ hx]
 ·rintro⟨v,m⟩ hm
  simp only at hm
  rw[List.take_length] at hm
  simp
  refine kM m (by simp) ?_
  rw[hm,t6,if_neg hne]
abbrev RS:Spc:=qbI (Y:=Pat) (aE Pat (aD a0)) (fun x=> x.2.1=IV∧Yt x.1 []) (fun x r=> r=dy x.1) aj 13
theorem Dg (h1:S cg=i_leavesQA) (h2:S hZ=zW):Qq (Y:=Pat) jj jd S (aE Pat (aD a0)) (fun x=> x.2.1=IV∧Yt x.1 []) (fun x r=> r=dy x.1) aj 13:=by
 rintro⟨p,d,⟨⟩⟩ ⟨hd,hl,hc⟩
 have hd:d=IV:=hd
 subst hd
 have hl': ([]:List Pat).length+ (aW p).length≤100000000:=hl
 rw[bJ] at hl'
 simp[jj,jd,h2]
 refine⟨fun h1=> ⟨hc p (by rw[bJ,if_pos h1];simp),fun v=> kM (dy p) (by simp[t6,h1]) rfl⟩,fun hne _=> ?_⟩
 rw[if_neg hne] at hl'
 refine aw (X:=Value×List Pat) [16] [] p.kids.length (fun k x=> x.2= [] ++ (p.kids.take k).flatMap dy) (fun x=> [(1, .own 1 x.1)]) (fun x=> [(1, .row x.1 aj 13 (x.2.map enc))]) (.slice none 0 0, []) (by simp) (by simp) (by omega) (by simp) (by simp) (by simp) (by simp) (by simp[isNilRow]) ?_ ?_
 ·rintro k ⟨v,m⟩ hkl hm
  simp only at hm
  obtain⟨x,hx⟩:=cz hkl
  have hx1:=cn hx
  obtain⟨_,hgx⟩:=List.getElem?_eq_some_iff.1 hx
  have q1:=TX hx hl' (hc.kid hne hx1)
  rw[←hm] at q1
  simp[h1,hkl,hx,hgx,q1]
  intro v'
  refine .inl ?_
  rw[hm,TY _ hx]
  rfl
 ·rintro⟨v,m⟩ hm
  simp only at hm
  rw[List.take_length] at hm
  simp
  refine kM m (by simp) ?_
  rw[hm,t6,if_neg hne]
  rfl
abbrev s_leavesQ:Spc:=qbd RS i_leavesQA
end Go.Gv
