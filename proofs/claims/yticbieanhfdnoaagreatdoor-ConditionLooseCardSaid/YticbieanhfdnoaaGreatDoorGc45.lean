/- A part of the framework and of the walks: V59 W173 Asm23 Fr Fr2 Fr3 V32 Fr4. -/
import Derived.WalkKit
import Derived.ProofKit
import Derived.OpenShut
import Derived.ShutString
import Derived.ChangeOld
import Derived.Below
import Derived.Test.YticbieanhfdnoaaGreatDoorGc37
import Derived.Test.YticbieanhfdnoaaGreatDoorGc44
import Derived.Test.YticbieanhfdnoaaGreatDoorGc43
import Derived.Test.YticbieanhfdnoaaGreatDoorGc23
import Derived.Test.YticbieanhfdnoaaGreatDoorGc21
set_option linter.unusedSimpArgs false
set_option linter.unusedVariables false
set_option maxRecDepth 100000

namespace Go.Gv
open Go.Proofs
theorem rN {x:Cond} (h:gL x=false):x.op≠4∧ ∀k∈x.kids,gL k=false:=by
 rw[pO,Bool.or_eq_false_iff] at h
 refine⟨fun e=> by simp[e] at h,fun k hk=> ?_⟩
 cases hs:gL k with
 | false=> rfl
 | true=>
   have:=List.any_eq_true.2 ⟨k,hk,hs⟩
   rw[h.2] at this
   cases this
theorem td {c:Corpus} {t:Int} {lb lb':List B} {bd bd':List Int} : ∀ (n:Nat) (x:Cond),gL x=false→fG ⟨c,t,lb,bd⟩ n x=fG ⟨c,t,lb',bd'⟩ n x
 | 0,_,_=> rfl
 | n+1,x,h=> by
   obtain⟨h4,hk⟩:=rN h
   have ih: ∀k∈x.kids,fG ⟨c,t,lb,bd⟩ n k=fG ⟨c,t,lb',bd'⟩ n k:=fun k hm=> td n k (hk k hm)
   rw[fG,fG]
   dsimp only
   rw[if_neg h4,if_neg h4]
   have a0: (x.kids.all fun k=> (fG ⟨c,t,lb,bd⟩ n k).isSome)=x.kids.all fun k=> (fG ⟨c,t,lb',bd'⟩ n k).isSome:=by
    rw[Bool.eq_iff_iff,List.all_eq_true,List.all_eq_true]
    exact⟨fun g k hm=> by rw[←ih k hm];exact g k hm,fun g k hm=> by rw[ih k hm];exact g k hm⟩
   have a1: (x.kids.any fun k=> !((fG ⟨c,t,lb,bd⟩ n k).getD false))=x.kids.any fun k=> !((fG ⟨c,t,lb',bd'⟩ n k).getD false):=jk fun k hm=> by rw[ih k hm]
   have a2: (x.kids.any fun k=> (fG ⟨c,t,lb,bd⟩ n k).getD false)=x.kids.any fun k=> (fG ⟨c,t,lb',bd'⟩ n k).getD false:=jk fun k hm=> by rw[ih k hm]
   rw[a0,a1,a2]
   cases hks:x.kids with
   | nil=> rfl
   | cons k ks=> dsimp only;rw[ih k (by rw[hks];simp)]
mutual
theorem iY: ∀x:Cond,gL x=false→dX x=x
 | .mk op n a v l f ks,h=> by
   have h2:=rN h
   have h4: ¬op=4:=h2.1
   rw[dX,if_neg (by simp[h4,h]),Dg ks h2.2]
theorem Dg: ∀ks:List Cond,(∀k∈ks,gL k=false)→mz ks=ks
 | [],_=> rfl
 | k::ks,h=> by rw[mz,iY k (h k (by simp)),Dg ks fun k hk=> h k (by simp[hk])]
end
mutual
theorem JL: ∀x:Cond,gL (dX x)=false
 | .mk op n a v l f ks=> by
   rw[dX]
   split
   ·rw[pO];rfl
   ·rename_i h
    rw[pO]
    have h4: ¬op=4:=fun e=> h (.inl e)
    have e1: (Cond.mk op n a v l f (mz ks)).op=op:=rfl
    have e2: (Cond.mk op n a v l f (mz ks)).kids=mz ks:=rfl
    rw[e1,e2,Gb ks]
    simp[h4]
theorem Gb: ∀ks:List Cond,(mz ks).any gL=false
 | []=> rfl
 | k::ks=> by rw[mz,List.any_cons,JL k,Gb ks];rfl
end
mutual
theorem JS: ∀x:Cond,dx (dX x)≤dx x∧cA (dX x)≤cA x
 | .mk op n a v l f ks=> by
   rw[dX]
   have:=Gu ks
   split
   ·simp only[dx,cU,cA,fD];omega
   ·simp only[dx,cA];omega
theorem Gu: ∀ks:List Cond,cU (mz ks)≤cU ks∧fD (mz ks)≤fD ks
 | []=> by simp[mz]
 | k::ks=> by
   have:=JS k
   have:=Gu ks
   simp only[mz,cU,fD]
   omega
end
theorem LW (l:List B) (x:Cond):l.length≤(dK l x).length:=by unfold dK;split <;> simp
mutual
theorem R9 (l:List B): ∀x:Cond,l.length≤(mI l x).length
 | .mk op n a v lb f ks=> by
   rw[mI]
   have:=LW l (.mk op n a v lb f ks)
   have:=zr (dK l (.mk op n a v lb f ks)) ks
   omega
theorem zr (l:List B): ∀ks:List Cond,l.length≤(iF l ks).length
 | []=> by simp[iF]
 | k::ks=> by
   rw[iF]
   have:=R9 l k
   have:=zr (mI l k) ks
   omega
end
mutual
theorem A0 (l:List B): ∀x:Cond,gL x=false→mI l x=l
 | .mk op n a v lb f ks,h=> by
   have h2:=rN h
   rw[mI]
   have e:dK l (.mk op n a v lb f ks)=l:=by unfold dK;rw[if_neg (fun e=> h2.1 e.1)]
   rw[e]
   exact Dk l ks h2.2
theorem Dk (l:List B): ∀ks:List Cond,(∀k∈ks,gL k=false)→iF l ks=l
 | [],_=> by rw[iF]
 | k::ks,h=> by rw[iF,A0 l k (h k (by simp))];exact Dk l ks fun k hk=> h k (by simp[hk])
end
mutual
theorem GH (l:List B): ∀x:Cond,gL x=true→0 < (mI l x).length
 | .mk op n a v lb f ks,h=> by
   rw[mI]
   by_cases h4:op=4
   ·have h1:0 < (dK l (.mk op n a v lb f ks)).length:=by
     unfold dK
     split
     ·simp
     ·rename_i hn
      have hh:nk l lb=true:=by
       cases hs:nk l lb with
       | true=> rfl
       | false=> exact absurd ⟨h4,hs⟩ hn
      obtain⟨z,hz,_⟩:=List.any_eq_true.1 hh
      exact List.length_pos_of_mem hz
    have:=zr (dK l (.mk op n a v lb f ks)) ks
    omega
   ·rw[pO] at h
    have e1: (Cond.mk op n a v lb f ks).op=op:=rfl
    have e2: (Cond.mk op n a v lb f ks).kids=ks:=rfl
    rw[e1,e2] at h
    simp only[h4,decide_false,Bool.false_or] at h
    exact Dj _ ks h
theorem Dj (l:List B): ∀ks:List Cond,ks.any gL=true→0 < (iF l ks).length
 | [],h=> by cases h
 | k::ks,h=> by
   rw[iF]
   rw[List.any_cons,Bool.or_eq_true] at h
   rcases h with h | h
   ·have:=GH l k h
    have:=zr (mI l k) ks
    omega
   ·exact Dj _ ks h
end
theorem PW (x:Cond):mI [] x= [] ↔gL x=false:=by
 constructor
 ·intro h
  cases hs:gL x with
  | false=> rfl
  | true=>
    have:=GH [] x hs
    rw[h] at this
    simp at this
 ·exact A0 [] x
inductive GL:Nat→Cond→Prop
 | atom (n:Nat) (c:Cond) (h:GA [] c):GL n c
 | any (n:Nat):GL n ⟨1,E0,E0,E0,E0,false, []⟩
 | top (n:Nat) (v:B) (f:Bool) (h:v∈ValsT):GL n ⟨2,E0,E0,v,E0,f, []⟩
 | not (n:Nat) (k:Cond) (h:GL n k):GL (n+1) ⟨6,E0,E0,E0,E0,false, [k]⟩
 | two (n:Nat) (op:Int) (a b:Cond) (ho:op=7∨op=8) (h1:GL n a) (h2:GL n b):GL (n+1) ⟨op,E0,E0,E0,E0,false, [a,b]⟩
theorem NP {lb:List B} {c:Cond} (h:GA lb c) (hs:gL c=false):GA [] c:=by
 cases h with
 | val n v f h1 h2=> exact .val n v f h1 h2
 | feat v h=> exact .feat v h
 | same n l a h1 h2 h3=> exact absurd rfl (rN hs).1
 | reg n h=> exact .reg n h
 | regk n v h1 h2=> exact .regk n v h1 h2
theorem zu {lb:List B} : ∀ {n:Nat} {x:Cond},GI lb n x→gL x=false→GL n x
 | _,_, .atom n c h,hs=> .atom n c (NP h hs)
 | _,_, .not n k h,hs=> .not n k (zu h ((rN hs).2 k (by simp)))
 | _,_, .two n op a b ho h1 h2,hs=> .two n op a b ho (zu h1 ((rN hs).2 a (by simp))) (zu h2 ((rN hs).2 b (by simp)))
theorem zp {x:Cond} (h:x.op=4∨x.op=6∧gL x=true):dX x=⟨1,E0,E0,E0,E0,false, []⟩:=by rw[zq,if_pos h];rfl
theorem JV {op:Int} {a b:Cond} (ho:op=7∨op=8):dX ⟨op,E0,E0,E0,E0,false, [a,b]⟩=⟨op,E0,E0,E0,E0,false, [dX a,dX b]⟩:=by
 rw[zq,if_neg (by
  rintro(h | ⟨h,_⟩)
  ·rcases ho with rfl | rfl <;> cases h
  ·rcases ho with rfl | rfl <;> cases h)]
 rfl
theorem G0 {lb:List B} : ∀ {n:Nat} {x:Cond},GI lb n x→GL n (dX x)
 | _,_, .atom n c h=> by
   cases hs:gL c with
   | false=> rw[iY c hs];exact .atom n c (NP h hs)
   | true=>
     have h4:c.op=4:=by
      rw[pO,wA h] at hs
      simpa using hs
     rw[zp (.inl h4)]
     exact .any n
 | _,_, .not n k h=> by
   cases hs:gL ⟨6,E0,E0,E0,E0,false, [k]⟩ with
   | false=> rw[iY _ hs];exact .not n k (zu h ((rN hs).2 k (by simp)))
   | true=> rw[zp (.inr ⟨rfl,hs⟩)];exact .any _
 | _,_, .two n op a b ho h1 h2=> by
   rw[JV ho]
   exact .two n op _ _ ho (G0 h1) (G0 h2)
theorem Vk {lb:List B} {n:Nat} {x:Cond} (h:GC lb n x):GL n (dX x):=by
 cases h with
 | any=> rw[iY _ rfl];exact .any n
 | top v f h=> rw[iY _ rfl];exact .top n v f h
 | inner c h=> exact G0 h
theorem Dn {E:BV} (hE:wT E) (hlb:E.lb= []): ∀ {n m:Nat} {x:Cond},GL n x→n < m→ ∃y,fG E m x=some y
 | _,m+1,_, .atom n c h,_=> Rc hE (hlb ▸h)
 | _,m+1,_, .any n,_=> ND hE (n:=0) .any (by omega)
 | _,m+1,_, .top n v f h,_=> ND hE (n:=0) (.top v f h) (by omega)
 | _,m+1,_, .not n k h,hm=> by
   obtain⟨y,hy⟩:=Dn (m:=m) hE hlb h (by omega)
   exact⟨_,NC hy⟩
 | _,m+1,_, .two n op a b ho h1 h2,hm=> by
   obtain⟨p,hp⟩:=Dn (m:=m) hE hlb h1 (by omega)
   obtain⟨q,hq⟩:=Dn (m:=m) hE hlb h2 (by omega)
   rcases ho with rfl | rfl
   ·exact⟨_,EY hp hq⟩
   ·exact⟨_,J2 hp hq⟩
theorem wb: ∀ {n m:Nat} {x:Cond},GL n x→n < m→lF fH [] m x=true
 | _,m+1,_, .atom n c h,_=> qm (JR h) (wA h)
 | _,m+1,_, .any n,_=> AO (n:=0) .any (by omega)
 | _,m+1,_, .top n v f h,_=> AO (n:=0) (.top v f h) (by omega)
 | _,m+1,_, .not n k h,hm=> Db (wb h (by omega))
 | _,m+1,_, .two n op a b ho h1 h2,hm=> Da ho (wb h1 (by omega)) (wb h2 (by omega))
theorem IT {c:Corpus} {t:Int} {lb:List B} {bd:List Int} (hE:wT ⟨c,t,lb,bd⟩): ∀ {n m:Nat} {x:Cond},GI lb n x→n < m→fG ⟨c,t,lb,bd⟩ m x=some true→fG ⟨c,t, [], []⟩ m (dX x)=some true
 | _,m+1,_, .atom n x h,_,hx=> by
   cases hs:gL x with
   | false=> rw[iY x hs,td (lb':=lb) (bd':=bd) _ x hs];exact hx
   | true=>
     have h4:x.op=4:=by
      rw[pO,wA h] at hs
      simpa using hs
     rw[zp (.inl h4)]
     unfold fG
     rw[if_pos rfl]
 | _,m+1,_, .not n k h,_,hx=> by
   cases hs:gL ⟨6,E0,E0,E0,E0,false, [k]⟩ with
   | false=> rw[iY _ hs,td (lb':=lb) (bd':=bd) _ _ hs];exact hx
   | true=>
     rw[zp (.inr ⟨rfl,hs⟩)]
     unfold fG
     rw[if_pos rfl]
 | _,m+1,_, .two n op a b ho h1 h2,hm,hx=> by
   have hE0:wT ⟨c,t, [], []⟩:=⟨hE.c,hE.t0,hE.t1,rfl⟩
   obtain⟨p,hp⟩:=Do (m:=m) hE h1 (by omega)
   obtain⟨q,hq⟩:=Do (m:=m) hE h2 (by omega)
   obtain⟨p',hp'⟩:=Dn (m:=m) hE0 rfl (G0 h1) (by omega)
   obtain⟨q',hq'⟩:=Dn (m:=m) hE0 rfl (G0 h2) (by omega)
   have i1:p=true→p'=true:=fun e=> by
    subst e
    exact Option.some.inj (hp'.symm.trans (IT hE h1 (by omega) hp))
   have i2:q=true→q'=true:=fun e=> by
    subst e
    exact Option.some.inj (hq'.symm.trans (IT hE h2 (by omega) hq))
   rw[JV ho]
   rcases ho with rfl | rfl
   ·rw[EY hp hq] at hx
    rw[EY hp' hq']
    have h3:=Option.some.inj hx
    simp only[Bool.and_eq_true] at h3
    rw[i1 h3.1,i2 h3.2];rfl
   ·rw[J2 hp hq] at hx
    rw[J2 hp' hq']
    have h3:=Option.some.inj hx
    simp only[Bool.or_eq_true] at h3
    rcases h3 with h3 | h3
    ·rw[i1 h3];rfl
    ·rw[i2 h3];simp
theorem P8 {c:Corpus} {t:Int} {lb:List B} {bd:List Int} (hE:wT ⟨c,t,lb,bd⟩) {n m:Nat} {x:Cond} (h:GC lb n x) (hm:n < m) (hx:fG ⟨c,t,lb,bd⟩ m x=some true):fG ⟨c,t, [], []⟩ m (dX x)=some true:=by
 cases h with
 | any=> rw[iY _ rfl,td (lb':=lb) (bd':=bd) _ _ rfl];exact hx
 | top v f h=> rw[iY _ rfl,td (lb':=lb) (bd':=bd) _ _ rfl];exact hx
 | inner x h=> exact IT hE h hm hx
end Go.Gv

namespace Go.Gv
open Go.Proofs
open Cod (enc dec)
variable {S S0:Nat→Spc}
abbrev s_lLoo:Spc:=cv (a2 (List Int) (List Int)) (fun _=> True) (enc (X:=Bool)) fun _ y=> y=true
theorem Cb (h1:S tg=s_m_New) (h2:S gj=s_m_Corpus) (h3:S jc=xk) (h4:S ft=Ag) (h5:S je=Af) (h6:S eP=RN) (h7:S jd=xm) (h8:S bO=Gi) (h9:S dr=s_Labels) (h10:S eO=s_Loose):
 aN fB fg S (a2 (List Int) (List Int)) (fun _=> True) (enc (X:=Bool)) fun _ y=> y=true:=by
 rintro⟨l,m⟩ -
 simp[fB,fg,h1,h2,h3,h4, -Bool.forall_bool, -Bool.exists_bool]
 intro L c hw hk
 have hc:=RY hw hk
 have hlb:lbs2.length≤1000:=by decide
 refine⟨hlb,fun x hx b6 b7=> ?_⟩
 have hx:GC lbs2 3 x:=hx
 have hlen:c.toks.length≤4096:=hc.2.2.1
 have hgl:=Vk hx
 have hn:=NO hx
 have hn2:=JS x
 have hE0: ∀i:Nat,i < c.toks.length→wT ⟨c,(i:Int), [], []⟩:=fun i hi=> ⟨hc,by show(0:Int)≤(i:Int);omega,by show(i:Int) < c.toks.length;omega,rfl⟩
 have hP:DL (c,x):=⟨hc.sz,by show dx x≤60;omega,by show cA x≤60;omega,by
  show LZ c.attrs [] (dX x)=true
  rw[show c.attrs=fH from hc.1]
  exact M4 (by omega) (by omega) (wb hgl (by omega)),fun i hi=> Dn (hE0 i hi) rfl hgl (by omega)⟩
 simp[h8,hP, -Bool.forall_bool, -Bool.exists_bool]
 intro v31 hsl
 refine aq (X:=List Int) [5,6,7,10,32] [6,7] (Ck c x).length (fun k z=> ∀i,i∈z↔i∈ (Ck c x).take k) (fun _=> []) (fun z=> [(31, .mrow v31 (nP z))]) [] (by simp) (by simp) (by omega) (by simp) (by simp) (by simp) (by simp) (by simp[nP]) ?_ ?_
 ·rintro k z hk hz
  obtain⟨y,hy⟩:=jI hk
  obtain⟨_,hgy⟩:=List.getElem?_eq_some_iff.1 hy
  simp[hk,hy,hgy, -Bool.forall_bool, -Bool.exists_bool]
  refine Pm GK (x:=y) (l:=z) rfl ⟨GN y z,fun i=> ?_, .inl rfl⟩
  rw[dM hy,List.mem_append,Nk,hz i]
  simp[or_comm]
 ·rintro z hz
  rw[List.take_length] at hz
  simp[-Bool.forall_bool, -Bool.exists_bool]
  intro hcl
  refine aq (X:=Unit) [5,6,7,10] [6,7,31] c.toks.length (fun _ _=> True) (fun _=> []) (fun _=> []) () (by simp) (by simp) (by omega) (by simp) (by simp) trivial (by simp) (by simp) ?_ ?_
  ·rintro k -hk -
   have hPb: ∀L,SY (L,c):=fun _=> hc
   have hlx1:dx x≤60:=by omega
   have hlx2:cA x≤60:=by omega
   simp[h4,h5,h6,h9,hk,hPb,hlx1,hlx2, -Bool.forall_bool, -Bool.exists_bool]
   intro bd hbd
   have t0: (0:Int)≤(k:Int):=by omega
   have t1: (k:Int) < c.toks.length:=by omega
   have hE:wT ⟨c,(k:Int),lbs2,bd⟩:=⟨hc,t0,t1,hbd.1⟩
   obtain⟨p,hp⟩:=ND (m:=20) hE hx (by omega)
   have hp:=Rb hp
   refine⟨Sf hc t0 t1 (show QJ (([]:List Int),c) bd from hbd) (RZ hx (by omega)) ⟨p,hp⟩,fun y hy=> ?_⟩
   obtain rfl:p=y:=Option.some.inj (hp.symm.trans hy)
   have hin: (k:Int) ∈z↔ (fG ⟨c,(k:Int), [], []⟩ 21 (dX x)).getD false=true:=by
    rw[hz]
    unfold Ck D8
    rw[List.mem_map]
    constructor
    ·rintro⟨j,hj,e⟩
     obtain rfl:j=k:=by omega
     exact(List.mem_filter.1 hj).2
    ·intro h
     exact⟨k,List.mem_filter.2 ⟨List.mem_range.2 hk,h⟩,rfl⟩
   refine⟨fun e=> ⟨fun _ e2=> (by rw[e] at e2;cases e2),?_⟩,fun e hm _ _ hl=> ?_⟩
   ·subst e
    rw[hin,P8 hE hx (by omega) hp];rfl
   ·subst e
    have hs:=(PW x).1 hl
    rw[hin,iY x hs,td (lb':=lbs2) (bd':=bd) _ x hs,hp] at hm
    cases hm
  ·rintro - -
   simp[h7,h9,h10, -Bool.forall_bool, -Bool.exists_bool]
   exact⟨by omega,by omega,fun _=> A0 [] _ (JL x)⟩
end Go.Gv

namespace Go.Gv
open Go.Proofs
theorem u7:Tri Tryz.prog aL (cv (aE (List B) (a1 B)) (fun _=> True) (Cod.enc (X:=Bool)) fun x y=> y=nk x.1 x.2).pt:=
 ac (S:=bI [(ba,ub)]) (ah (ab gB ae)) iD (fun _=> Nat.le_of_ble_eq_true rfl) (tX rfl)
theorem wO:Tri Tryz.prog aL b_conS.pt:=zO u7 rfl (fun _=> Sj _)
theorem Jn:Tri Tryz.prog bz s_lab1.pt:=
 zL (by simp[JO]) (ah (ab wO ae)) rj (fun _ _=> Nat.le_of_ble_eq_true rfl) (HX (S:=bI [(aL,b_conS)]) rfl)
theorem Lr:Tri Tryz.prog aC (ua 0).pt:=by
 intro O tp w vs ds H d K hO htl hsat hlen hargs hA
 obtain⟨id,b,x,z,_,_,_,_,hp,_⟩:=hA
 have h1:cA z≤0:=hp.1
 cases z
 rw[cA] at h1
 omega
theorem Kt: ∀n,Tri Tryz.prog aC (ua n).pt
 | 0=> Lr
 | n+1=> zL (by simp[JO]) (ah (ab Jn (ab (Kt n) ae))) uk (fun _ _=> Nat.le_of_ble_eq_true rfl) (O9 (S:=bI [(bz,s_lab1),(aC,ua n)]) n rfl rfl)
theorem Ou:Tri Tryz.prog dr s_Labels.pt:=
 ac (S:=bI [(bu,mW),(aC,ua 60)]) (ah (ab kO (ab (Kt 60) ae))) tv (fun _=> Nat.le_of_ble_eq_true rfl) (Mc rfl rfl)
theorem QA:Tri Tryz.prog eO s_Loose.pt:=
 ac (S:=bI [(bu,mW),(bj,vM)]) (ah (ab kO (ab oh ae))) uv (fun _=> Nat.le_of_ble_eq_true rfl) (Pg rfl rfl)
theorem Cj:Tri Tryz.prog kz s_lLoo.pt:=
 ac (S:=bI [(tg,s_m_New),(gj,s_m_Corpus),(jc,xk),(ft,Ag),(je,Af),(eP,RN),(jd,xm),(bO,Gi),(dr,s_Labels),(eO,s_Loose)])
  (ah (ab Ps (ab yF (ab CJ (ab BK (ab CL (ab wM (ab CK (ab nJ (ab Ou (ab QA ae)))))))))))
  pk (fun _=> Nat.le_of_ble_eq_true rfl) (Cb rfl rfl rfl rfl rfl rfl rfl rfl rfl rfl)
end Go.Gv

namespace Go.Gv
open Go.ChangeShapes Go.WideShapes Go.ChangeAt Go.RowKit
section
variable {H:Type} {ec:TypeId×Value→H} {P:Program} {w:World} {base:Nat} {spare:Nat→Bool} {held:Bool} {tp I:Nat→Prop}
def OpR (tp I:Nat→Prop) (w:World) (cs:List Value) (d:D):Prop:=cs.length=d.cells.length∧ ∀ (k:Nat) (y:Value) (c:D),cs[k]?=some y→d.cells[k]?=some c→y.oneCell'=true∧R tp I w y c
theorem OpR.one {y:Value} {d:D} (h:OpR tp I w [y] d) (hd:d.cells= [d]):R tp I w y d:=(h.2 0 y d rfl (by rw[hd];rfl)).2
theorem M0 {t:TypeId} {fuel:Nat} {cs:List Value} {x:DataW H×List MemPlace} (ht:P.underlying t=some (.int .i64)) (h:DataW.trod ec P w base spare held fuel t cs=some x): ∃n:Int,OpR tp I w cs (Cod.enc n):=by
 obtain⟨n,rfl,_,_⟩:=DataW.trod_int ht h
 refine⟨n,rfl,fun k y c h1 h2=> ?_⟩
 cases k with
 | zero=> cases h1;cases h2;exact⟨rfl, .v _ rfl (fun s h=> by cases h)⟩
 | succ k=> simp at h1
theorem Gj {Y:Type} [Cod Y] {t e:TypeId} (ht:P.underlying t=some (.slice e)) (hc:P.cellsOf e=Cod.wd Y) (h0:0 < Cod.wd Y)
 (hel: ∀ (n:Nat) (cs:List Value) (x:DataW H×List MemPlace),DataW.trod ec P w base spare held n e cs=some x→ ∃y:Y,OpR tp I w cs (Cod.enc y)) (hI: ∀b,b < w.heap.size→I b)
 {fuel:Nat} {cs:List Value} {x:DataW H×List MemPlace} (h:DataW.trod ec P w base spare held fuel t cs=some x) (h1w:Cod.wd Y=1:=by rfl): ∃l:List Y,OpR tp I w cs (Cod.enc l):=by
 have one: ∀ (v:Value) (l:List Y),v.oneCell'=true→R tp I w v (.list (Cod.wd Y) (l.map Cod.enc))→OpR tp I w [v] (Cod.enc l):=fun v l h1 h2=> ⟨rfl,fun k y c e1 e2=> by
  cases k with
  | zero=> cases e1;cases e2;exact⟨h1,h2⟩
  | succ k=> simp at e1⟩
 rcases DataW.trod_slice ht h with⟨rfl,_⟩ | ⟨a,len,cap,elems,rest,n,_,rfl,_,_,hl,hm,hlen,hel',_⟩
 ·exact⟨[],one _ [] rfl (.nolist none 0 _)⟩
 ·by_cases hz:len=0
  ·subst hz
   exact⟨[],one _ [] rfl (.nolist (some a) cap _)⟩
  ·have each: ∀i:_root_.Fin len,∃p:List Value×Y,w.cells? base (a.add (i*P.cellsOf e)) (P.cellsOf e)=some p.1∧OpR tp I w p.1 (Cod.enc p.2):=fun i=> by
    have h1:=hel' i i.2
    rw[List.getElem?_eq_getElem (by omega)] at h1
    obtain⟨cs',h2,h3⟩:=Option.bind_eq_some_iff.1 h1
    obtain⟨y,hy⟩:=hel n cs' _ h3
    exact⟨(cs',y),h2,hy⟩
   obtain⟨g,hg⟩:=Classical.axiomOfChoice each
   obtain⟨b,off,spot⟩:=a
   have cellAt: ∀ (i:_root_.Fin len) (j:Nat),j < Cod.wd Y→ ∃v,(g i).1[j]?=some v∧w.cell? ((Addr.add ⟨b,off,spot⟩ (i*Cod.wd Y)).add j)=some v:=fun i j hj=> by
    have h1:=World.cells?_some (hg i).1
    have h2:=h1.2.2 j (by rw[hc];exact hj)
    have h3:j < (g i).1.length:=by rw[h1.2.1,hc];exact hj
    refine⟨(g i).1[j],List.getElem?_eq_getElem h3,?_⟩
    rw[hc] at h2
    rw[h2,List.getElem?_eq_getElem h3]
   have hs:spot=none:=by
    obtain⟨v,_,h2⟩:=cellAt ⟨0,by omega⟩ 0 h0
    have:=World.cell?_spot h2
    simpa [Addr.add] using this
   subst hs
   have hadd: ∀ (o n:Nat),Addr.add ⟨b,o,none⟩ n=⟨b,o+n,none⟩:=fun o n=> by
    unfold Addr.add
    split
    ·rename_i e;subst e;rfl
    ·rfl
   have cellAt': ∀ (i:_root_.Fin len) (j:Nat),j < Cod.wd Y→ ∃v,(g i).1[j]?=some v∧w.cell? ⟨b,off+ (i*Cod.wd Y+j),none⟩=some v:=fun i j hj=> by
    obtain⟨v,h1,h2⟩:=cellAt i j hj
    refine⟨v,h1,?_⟩
    rw[hadd,hadd] at h2
    rw[←Nat.add_assoc]
    exact h2
   have hb:b < w.heap.size:=by
    obtain⟨v,_,h2⟩:=cellAt' ⟨0,by omega⟩ 0 h0
    unfold World.cell? at h2
    by_cases hlt:b < w.heap.size
    ·exact hlt
    ·simp only[Array.getElem?_eq_none (Nat.le_of_not_lt hlt)] at h2
     cases h2
   let es:List Y:=List.ofFn fun i=> (g i).2
   have hesl:es.length=len:=by simp[es]
   have hesi: ∀i:_root_.Fin len,(es.map Cod.enc)[(i:Nat)]?=some (Cod.enc (g i).2):=fun i=> by
    rw[List.getElem?_map]
    have:es[(i:Nat)]?=some (g i).2:=by simp[es]
    rw[this];rfl
   have hw: ∀d∈es.map Cod.enc,d.kn=true∧d.cells.length=Cod.wd Y:=fun d hd=> by
    obtain⟨y,_,rfl⟩:=List.mem_map.1 hd
    exact⟨Cod.kn y,Cod.wid y⟩
   have flatAt: ∀ (k:Nat) (c:D),(bJ (es.map Cod.enc))[k]?=some c→ ∃v,w.cell? ⟨b,off+k,none⟩=some v∧v.oneCell'=true∧R tp I w v c:=fun k c hk=> by
    have hkl:=(List.getElem?_eq_some_iff.1 hk).1
    rw[bg (fun d hd=> (hw d hd).2),List.length_map,hesl] at hkl
    have hdm:k=(k/Cod.wd Y) *Cod.wd Y+k % Cod.wd Y:=by have:=Nat.div_add_mod k (Cod.wd Y);rw[Nat.mul_comm] at this;omega
    have hmod:k % Cod.wd Y < Cod.wd Y:=Nat.mod_lt _ h0
    have hq:k/Cod.wd Y < len:=Nat.div_lt_of_lt_mul (by rw[Nat.mul_comm];exact hkl)
    have g1:=fk (es:=es.map Cod.enc) (fun d hd=> (hw d hd).2) (i:=k/Cod.wd Y) hmod
    rw[←hdm,hk,hesi ⟨k/Cod.wd Y,hq⟩] at g1
    simp only[Option.bind_some] at g1
    obtain⟨v,h1,h2⟩:=cellAt' ⟨k/Cod.wd Y,hq⟩ (k % Cod.wd Y) hmod
    simp only at h2
    rw[←hdm] at h2
    exact⟨v,h2,(hg ⟨k/Cod.wd Y,hq⟩).2.2 _ v c h1 g1.symm⟩
   have hR:R tp I w (.slice (some ⟨b,off,none⟩) len cap) (.list (Cod.wd Y) (es.map Cod.enc)):=by
    have hll: (es.map (Cod.enc (X:=Y))).length=len:=by simp[hesl]
    rw[←hll]
    have rd: ∀ (k:Nat) (c:D),(bJ (es.map Cod.enc))[k]?=some c→w.cell? ⟨b,off+k,none⟩=some ((w.cell? ⟨b,off+k,none⟩).getD Go.undef):=fun k c hk=> by
     obtain⟨v,h1,_⟩:=flatAt k c hk
     rw[h1];rfl
    refine .list b off cap _ (es.map Cod.enc) (fun k=> (w.cell? ⟨b,off+k,none⟩).getD Go.undef) (hI b hb) (by rw[hll];exact hl) hm (fun h=> absurd h1w h) hw rd (fun k c hk=> ?_) (fun k c hk=> ?_)
    ·obtain⟨v,h1,h2,_⟩:=flatAt k c hk
     rw[h1];exact h2
    ·obtain⟨v,h1,_,h2⟩:=flatAt k c hk
     rw[h1];exact h2
   exact⟨es,one _ es rfl hR⟩
end
end Go.Gv

namespace Go.Gv
open Go.ChangeShapes Go.WideShapes Go.ChangeAt Go.RowKit
section
variable {H:Type} {ec:TypeId×Value→H} {P:Program} {w:World} {base:Nat} {spare:Nat→Bool} {held:Bool} {tp I:Nat→Prop}
end
abbrev Xq (w:World):Nat→Prop:=bB (fun _=> False) (fun _=> False) df w
theorem Nd {w:World} {b:Nat} (h:b < w.heap.size):Xq w b:=⟨h,fun h=> h,fun h=> h,fun⟨i,r,h,_⟩=> by simp[df] at h⟩
end Go.Gv

namespace Go.Gv
open Go.ChangeShapes Go.WideShapes Go.ChangeAt Go.RowKit
section
variable {H:Type} {ec:TypeId×Value→H} {P:Program} {w:World} {base:Nat} {spare:Nat→Bool} {held:Bool} {tp I:Nat→Prop}
end
end Go.Gv

namespace Go.Gv
open Cod (enc dec)
instance:Cod UInt8 where
 wd:=1
 enc n:= .v (.int .u8 n.toNat)
 dec | .v (.int .u8 n)=> if 0≤n∧n≤255 then some (UInt8.ofNat n.toNat) else none | _=> none
 kn _:=rfl
 wid _:=rfl
 dec_enc n:=by
  have:=n.toNat_lt
  simp only
  rw[if_pos (by omega)]
  congr 1
  rw[Int.toNat_natCast,UInt8.ofNat_toNat]
 le d x h:=by
  split at h
  ·split at h
   ·rename_i n hn
    cases h
    have e: ((UInt8.ofNat n.toNat).toNat:Int)=n:=by
     rw[UInt8.toNat_ofNat']
     omega
    show FrzTo df _ (.v (.int .u8 ((UInt8.ofNat n.toNat).toNat:Int)))
    rw[e]
    exact .same _
   ·cases h
  ·cases h
end Go.Gv

namespace Go.Gv
open Go.ChangeShapes Go.WideShapes Go.ChangeAt Go.RowKit
section
variable {H:Type} {ec:TypeId×Value→H} {P:Program} {w:World} {base:Nat} {spare:Nat→Bool} {held:Bool} {tp I:Nat→Prop}
end
theorem IR {P:Program} {f:Nat} {X:Type} {A:gK X} {p:X→Prop} {q:X→Bool→Prop} (h:Tri P f (cv A p (Cod.enc (X:=Bool)) q).pt) (hq: ∀x y,q x y→y=true) {w:World} {vs:List Value} {ds:List D} {x:X} (hp:p x) (hlen:vs.length=ds.length)
 (hR: ∀ (k:Nat) (y:Value) (c:D),vs[k]?=some y→ds[k]?=some c→R (fun _=> False) (Xq w) w y c) (hdec:A.dec ds=some x) (hG:GlW (fun _=> False) (fun _=> False) w):
 Calls P f vs.toArray w fun e w'=> e= .returned (.bool true)∧Below w.heap.size w w':=by
 obtain⟨_,hc⟩:=h (fun _=> False) (fun _=> False) w vs ds df 0 (fun r H'=> r= .v (.bool true)) (fun b h=> h.elim) ⟨fun b h=> h.elim,hG.mono (fun _ h=> h) (fun b ⟨i,r,h,_⟩=> by simp[df] at h)⟩
  ⟨fun i j r s b h=> by simp[df] at h,fun i r b h=> by simp[df] at h,fun i r h=> by simp[df] at h⟩ hlen hR
  (by rw[pN,hdec];exact⟨hp,fun y hy=> by rw[hq x y hy];rfl⟩)
 refine hc.mono ?_
 rintro e w' ⟨v,r,H',tp',rfl,hr,_,_,_,hs,_,_,hv⟩
 subst hr
 have hv':=hv.inv_v
 subst hv'
 exact⟨rfl,hs.os,hs.tape,hs.output,hs.size,fun k hk=> hs.same k hk (fun⟨i,r,h,_⟩=> by simp[df] at h) (fun h=> h)⟩
end Go.Gv
