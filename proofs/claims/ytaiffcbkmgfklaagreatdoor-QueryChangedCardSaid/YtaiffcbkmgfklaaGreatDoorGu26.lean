/- A part of the framework and of the walks: V25 W54 W98 C13 W99 W100 W101. -/
import Derived.Test.YtaiffcbkmgfklaaGreatDoorGu25
import Derived.Test.YtaiffcbkmgfklaaGreatDoorGu13
import Derived.Test.YtaiffcbkmgfklaaGreatDoorGu22
import Derived.Test.YtaiffcbkmgfklaaGreatDoorGu14
import Derived.Test.YtaiffcbkmgfklaaGreatDoorGu10
import Derived.Test.YtaiffcbkmgfklaaGreatDoorGu24
import Derived.Test.YtaiffcbkmgfklaaGreatDoorGu21
import Derived.Test.YtaiffcbkmgfklaaGreatDoorGu16
import Derived.Test.YtaiffcbkmgfklaaGreatDoorGu19
import Derived.Test.YtaiffcbkmgfklaaGreatDoorGu18
set_option linter.unusedSimpArgs false
set_option linter.unusedVariables false
set_option maxRecDepth 100000

namespace Go.Gv
section
variable {Y Z:Type} {d m:Int} {s:Rdr} {p:Pst}
theorem N6 {O:Pst→Option (Pst×Cond)} {n:B} (hO: ∀p,Dd p→DD p (O p)) (h:Dd p):DD p (yN O p n):=by
 unfold yN
 refine eK h ?_
 simp only[Bool.false_eq_true,if_false,jf]
 refine DD.bind (aV h) fun y=> ?_
 refine cr h ?_
 simp only[Bool.false_eq_true,if_false]
 exact DD.bind (hO p h) fun y=> DD.bind (aV h) fun y=> DD.some
theorem Jn {r:Int} {O:Rdr→Out (Rdr×Cond)} {O':Pst→Option (Pst×Cond)} {n:B} (hO: ∀s p,Rel d s p→rem s≤r→Sim d (rem s) (O s) (O' p)) (hD: ∀p,Dd p→DD p (O' p)) (h:Rel d s p) (hr:rem s≤r):Sim d (rem s -1) (tokenE O s n) (yN O' p n):=by
 have hk:=ov h.kind
 unfold tokenE yN
 simp only[jf,oW]
 by_cases hb:cO s ⟨#[91]⟩=true
 ·have hb':s.kind=5∧s.text=⟨#[91]⟩:=by unfold cO at hb;simpa using hb
  obtain⟨s',e1,e2,e3⟩:=h.next (by omega)
  rw[ou h,decide_eq_false (by rw[hk.2.2.2.2.1];omega),cb,Fh h (by rw[not_or];exact⟨fun h=> h (hk.2.2.2.2.2.2 hb'.1),fun h=> h.2 hb'.2⟩),cb]
  simp only[cG,pF,hb,if_true,e1,Option.map_some,Out.of_some,Out.bind_ok,Bool.false_eq_true,if_false]
  by_cases hc:cO s' ⟨#[93]⟩=true
  ·have hk2:=ov e2.kind
   have hc':s'.kind=5∧s'.text=⟨#[93]⟩:=by unfold cO at hc;simpa using hc
   obtain⟨s2,f1,f2,f3⟩:=e2.next (by omega)
   unfold fT
   rw[if_pos hc,vH e2,hc]
   simp only[Option.map_some,cb,if_true,d4,hc,fV,f1,Out.of_some,Out.bind_ok]
   exact bI f2 (by first | omega | (simp only at*;omega))
  ·have hc:cO s' ⟨#[93]⟩=false:=by simpa using hc
   rw[if_neg (by simp[hc]),fT,vH e2,hc]
   simp only[Option.map_some,cb,Bool.false_eq_true,if_false]
   refine Sim.bind (m1:=rem s') (hO s' _ e2 (by omega)) (fun s2 p2 y hR2 hm2=> ?_) (fun p' y hd=> ?_)
   ·exact br hR2 (fun s3 y hR3 hm3=> bI hR3 (by first | omega | (simp only at*;omega))) (fun p' hd y=> DD.some)
   ·exact DD.bind (aV hd) fun y=> DD.some
 ·have hb:cO s ⟨#[91]⟩=false:=by simpa using hb
  simp only[cG,pF,hb,Out.of_some,Out.bind_ok,Bool.false_eq_true,if_false]
  by_cases hs:s.kind=4
  ·rw[ou h,decide_eq_true (hk.2.2.2.2.1.2 hs),cb,if_pos rfl]
   exact BV h (fun s2 p2 y hR2 hm2=> bI hR2 (by first | omega | (simp only at*;omega))) (fun p' hd y=> DD.some)
  ·rw[ou h,decide_eq_false (by rw[hk.2.2.2.2.1];exact hs),cb,if_neg (by simp)]
   have hd:=h.dead 3 s.pos (by decide)
   rw[ES h (by
    by_cases e:s.kind=5
    ·refine .inr ⟨rfl,fun e2=> ?_⟩
     unfold cO at hb
     simp[e,e2] at hb
    ·exact .inl (by rw[Ne,hk.2.2.2.2.2];exact e)),cb]
   unfold vw dY
   rw[if_neg hs]
   refine oc hd ?_
   refine cr hd.dd ?_
   simp only[Bool.false_eq_true,if_false]
   exact DD.bind (hD _ hd.dd) fun y=> DD.bind (aV hd.dd) fun y=> DD.some
theorem FR {op:Int} (h:Rel d s p):Sim d (rem s) (BC s op) (BB p op):=by
 unfold BC BB
 simp only[jf,oW]
 refine cH h ⟨rfl,by decide,by decide⟩ (fun hs s' hR hm=> ?_) (fun p' hd y=> ?_)
 ·exact br hR (fun s3 y hR3 hm3=> bI hR3 (by first | omega | (simp only at*;omega))) (fun p' hd y=> DD.some)
 ·exact DD.bind (aV hd) fun y=> DD.some
theorem Rel.deeper (h:Rel d s p) (d':Int):Rel d' s { p with deep:=d' } :=⟨h.e,rfl,h.pos,h.len,h.size,h.kind,h.fin,h.dig,h.nam,h.at_⟩
def L8 (r:Int) (A:Rdr→Bool→Out (Rdr×Pat)) (A':Pst→Option (Pst×Pat)):Prop:= ∀d s p i,Rel d s p→rem s≤r→0≤d→d+rem s≤500→i=decide (0 < d)→Sim d (rem s) (A s i) (A' p)
def Ts (r:Int) (O:Rdr→Out (Rdr×Cond)) (O':Pst→Option (Pst×Cond)):Prop:= ∀d s p,Rel d s p→rem s≤r→Sim d (rem s) (O s) (O' p)
def qb7 (O':Pst→Option (Pst×Cond)):Prop:= ∀p,Dd p→DD p (O' p)
theorem LV (h:Rel d s p) {t:B} {b:Bool} (hb:cO s t=b):fT p t=some (if b then p.step else p,b):=by
 rw[fT,vH h,hb]
 cases b <;> rfl
theorem ET {t:B} (hb:cO s t=false):cG s t= .ok (s,false):=by
 rw[cG,pF,hb]
 rfl
theorem QB {t u:B} (h:cO s t=true) (hn:t≠u):cO s u=false:=by
 unfold cO at h ⊢
 simp at h ⊢
 intro _ e
 exact hn (h.2.symm.trans e)
theorem UB {r:Int} {A:Rdr→Bool→Out (Rdr×Pat)} {A':Pst→Option (Pst×Pat)} {O:Rdr→Out (Rdr×Cond)} {O':Pst→Option (Pst×Cond)} (hA:L8 (r -1) A A') (hO:Ts r O O') (hD:qb7 O') (h:Rel d s p) (hr:rem s≤r) (h0:0≤d) (h5:d+rem s≤500):
 Sim d (rem s -1) (itemE A O s) (itemG A' O' p):=by
 have hr0:=h.rem0
 have hk:=ov h.kind
 unfold itemE itemG
 simp only[jf,oW]
 by_cases hb:cO s ⟨#[40]⟩=true
 ·have hb':s.kind=5∧s.text=⟨#[40]⟩:=by unfold cO at hb;simpa using hb
  obtain⟨s',e1,e2,e3⟩:=h.next (by omega)
  have e20:=e2.rem0
  rw[ET (QB hb (by decide)),Out.bind_ok,if_neg (by simp),ET (QB hb (by decide)),Out.bind_ok,if_neg (by simp),LV h hb,cb]
  simp only[cG,pF,hb,if_true,e1,Option.map_some,Out.of_some,Out.bind_ok,show p.step.deep=d from h.deep]
  rw[if_pos (by omega)]
  have hA1:=hA (d+1) s' { p.step with deep:=d+1 } true (e2.deeper (d+1)) (by omega) (by omega) (by omega) (by symm;rw[decide_eq_true_eq];omega)
  cases hE:A s' true with
  | ok q=>
    rw[hE] at hA1
    obtain⟨p2,f1,f2,f3⟩:=hA1
    rw[f1,cb,Out.bind_ok]
    simp only[f2.deep]
    rw[if_pos (by omega)]
    have f4:=f2.deeper d
    rw[show d+1 -1=d by omega]
    exact br f4 (fun s3 y hR3 hm3=> bI hR3 (by first | omega | (simp only at*;omega))) (fun p' hd y=> DD.some)
  | err f=>
    rw[hE] at hA1
    obtain⟨p2,y,f1,f2⟩:=hA1
    rw[f1,cb,Out.bind_err]
    simp only[f2.deep]
    rw[if_pos (by omega)]
    have f3:Dead f d { p2 with deep:=d+1 -1 } :=⟨f2.e,f2.fail,f2.ne,by show d+1 -1=d;omega,f2.now⟩
    exact oc f3 (DD.bind (aV f3.dd) fun y=> DD.some)
  | no=> rw[hE] at hA1;exact hA1.elim
 ·have hb:cO s ⟨#[40]⟩=false:=by simpa using hb
  rw[LV h hb,cb]
  simp only[Bool.false_eq_true,if_false]
  refine bm h (fun hs s' hR hm=> ?_) (fun hs=> ?_)
  ·simp only[if_true]
   exact(FR hR).mono (by omega)
  ·simp only[Bool.false_eq_true,if_false]
   refine bm h (fun hs s' hR hm=> ?_) (fun hs=> ?_)
   ·simp only[if_true]
    exact(FR hR).mono (by omega)
   ·rw[ET hb,Out.bind_ok]
    simp only[Bool.false_eq_true,if_false]
    refine FQ h (fun e=> ?_) (fun e=> ?_)
    ·have e':s.kind=2:=hk.2.2.1.1 e
     rw[if_pos e',if_pos rfl]
     refine cH h ⟨rfl,by decide,by decide⟩ (fun hs s' hR hm=> ?_) (fun p' hd y=> ?_)
     ·refine br hR (fun s3 y hR3 hm3=> ?_) (fun p' hd y=> N6 hD hd)
      exact(Jn (hO d) hD hR3 (by simp only at*;omega)).mono (by simp only at*;omega)
     ·exact DD.bind (aV hd) fun y=> N6 hD hd
    ·have e': ¬s.kind=2:=fun h=> e (hk.2.2.1.2 h)
     rw[if_neg e',if_neg (by simp)]
     exact Jn (hO d) hD h hr
theorem Yb (h:Rel d s p) {k:Rdr×Option (Int×Int)→Out (Rdr×Y)} {g:Pst×Option (Int×Int)→Option (Pst×Y)} (h1: ∀s' p' x,Rel d s' p'→rem s' < rem s→Sim d m (k (s',some x)) (g (p',some x))) (h3:Sim d m (k (s,none)) (g (p,none)))
 (h2:0 < rem s→ ∀p',Dd p'→ ∀y,DD p' (g (p',y))):Sim d m ((X9 s).bind k) ((X8 p s.pos).bind g):=by
 have hr0:=h.rem0
 unfold X9 X8
 rw[ru,Out.bind_bind]
 refine bm h (fun hs s' hR hm=> ?_) (fun hs=> ?_)
 ·simp only[if_true,cb,Out.bind_ok]
  exact h1 _ _ _ hR hm
 simp only[Bool.false_eq_true,if_false]
 rw[ru,Out.bind_bind]
 refine bm h (fun hs s' hR hm=> ?_) (fun hs=> ?_)
 ·simp only[if_true,cb,Out.bind_ok]
  exact h1 _ _ _ hR hm
 simp only[Bool.false_eq_true,if_false]
 rw[ru,Out.bind_bind]
 refine bm h (fun hs s' hR hm=> ?_) (fun hs=> ?_)
 ·simp only[if_true,cb,Out.bind_ok]
  exact h1 _ _ _ hR hm
 simp only[Bool.false_eq_true,if_false]
 rw[ru,Out.bind_bind]
 refine bm h (fun hs s' hR hm=> ?_) (fun hs=> ?_)
 ·simp only[if_true,jf,oW]
  have hR0:=hR.rem0
  have h2':=h2 (by omega)
  unfold Qb
  simp only[jf,oW,ru,Out.bind_bind]
  refine cI hR (by decide) (fun s2 lo hR2 hm2=> ?_) (fun p' hd y=> ?_)
  ·refine bm hR2 (fun hs s3 hR3 hm3=> ?_) (fun hs=> ?_)
   ·simp only[if_true]
    have hk3:=ov hR3.kind
    by_cases hc:cO s3 ⟨#[125]⟩=true
    ·have hc':s3.kind=5∧s3.text=⟨#[125]⟩:=by unfold cO at hc;simpa using hc
     rw[if_pos hc,ou hR3,decide_eq_false (by rw[hk3.2.2.2.1];omega),cb,if_neg (by simp)]
     simp only[ru,Out.bind_bind,cb,Out.bind_ok]
     refine br hR3 (fun s4 y hR4 hm4=> h1 _ _ _ hR4 (by simp only at*;omega)) (fun p' hd y=> h2' p' hd _)
    ·have hc:cO s3 ⟨#[125]⟩=false:=by simpa using hc
     rw[if_neg (by simp[hc])]
     by_cases hk:s3.kind=3
     ·rw[ou hR3,decide_eq_true (hk3.2.2.2.1.2 hk),cb,if_pos rfl]
      simp only[ru,Out.bind_bind]
      refine cI hR3 (by decide) (fun s4 hi hR4 hm4=> ?_) (fun p' hd y=> ?_)
      ·by_cases hl:hi < lo
       ·rw[if_pos hl,if_pos hl]
        have hd:=hR4.dead 8 s.pos (by decide)
        rw[Out.bind_err]
        exact oc hd (DD.bind (aV hd.dd) fun y=> h2' _ hd.dd _)
       ·rw[if_neg hl,if_neg hl]
        simp only[ru,Out.bind_bind,cb,Out.bind_ok]
        refine br hR4 (fun s4 y hR4 hm4=> h1 _ _ _ hR4 (by simp only at*;omega)) (fun p' hd y=> h2' p' hd _)
      ·have e: (if y < lo then vp p' 8 s.pos else p')=p':=by
        split
        ·rw[vp,if_neg hd.e]
        ·rfl
       rw[e]
       exact DD.bind (aV hd) fun y=> h2' p' hd _
     ·rw[ou hR3,decide_eq_false (by rw[hk3.2.2.2.1];exact hk),cb,if_neg (by simp)]
      have hd:=hR3.dead 3 s3.pos (by decide)
      rw[ES hR3 (by
       by_cases e:s3.kind=5
       ·refine .inr ⟨rfl,fun e2=> ?_⟩
        unfold cO at hc
        simp[e,e2] at hc
       ·exact .inl (by rw[Ne,hk3.2.2.2.2.2];exact e))]
      unfold numberE dY
      rw[if_neg hk]
      simp only[Out.bind_err,cb]
      exact oc hd (h2' _ hd.dd _)
   ·simp only[Bool.false_eq_true,if_false,ru,Out.bind_bind,cb,Out.bind_ok]
    refine br hR2 (fun s4 y hR4 hm4=> h1 _ _ _ hR4 (by simp only at*;omega)) (fun p' hd y=> h2' p' hd _)
  ·simp only
   refine cr hd ?_
   simp only[Bool.false_eq_true,if_false,ru,cb]
   exact DD.bind (aV hd) fun y=> h2' p' hd _
 ·simp only[Bool.false_eq_true,if_false,cb,Out.bind_ok]
  exact h3
theorem HO {k:Nat} {x:Pat} (h:Dd p) (hk:1≤k):DD p (mB k p x):=by
 obtain _ | k:=k
 ·omega
 rw[mB,if_pos h.e]
 exact DD.some
theorem DK: ∀ (k:Nat) (s:Rdr) (p:Pst) (x:Pat),Rel d s p→rem s+2≤k→Sim d (rem s) (qw k s x) (mB k p x)
 | 0,s,p,x,h,hk=> by have:=h.rem0;omega
 | k+1,s,p,x,h,hk=> by
   have h0:=h.rem0
   rw[qw,mB,if_neg (by simp[h.e]),h.now,cb]
   refine Yb h (fun s' p' x hR hm=> ?_) ?_ (fun hr p' hd y=> ?_)
   ·have:=hR.rem0
    exact(DK k s' p' _ hR (by omega)).mono (by omega)
   ·exact bI h (Int.le_refl _)
   ·rcases y with _ | y
    ·exact DD.some
    ·exact HO hd (by omega)
theorem Qx {r:Int} {A:Rdr→Bool→Out (Rdr×Pat)} {A':Pst→Option (Pst×Pat)} {O:Rdr→Out (Rdr×Cond)} {O':Pst→Option (Pst×Cond)} (hA:L8 (r -1) A A') (hO:Ts r O O') (hD:qb7 O') (h:Rel d s p) (hr:rem s≤r) (h0:0≤d) (h5:d+rem s≤500):
 Sim d (rem s -1) (repE A O s) (repG A' O' p):=by
 unfold repE repG
 refine Sim.bind (UB hA hO hD h hr h0 h5) (fun s2 p2 y hR2 hm2=> ?_) (fun p' y hd=> HO hd (by decide))
 have:=hR2.rem0
 exact(DK 500 s2 p2 y hR2 (by omega)).mono hm2
theorem Tm (h:Rel d s p) (h0:0≤d) {i:Bool} (hi:i=decide (0 < d)): ∃b,uD s i=some b∧rP p=some b:=by
 have hk:=ov h.kind
 have hf:=h.fin
 have hz:=h.size
 unfold uD rP
 rw[h.now,cb,if_neg (show ¬ (p.e≠0) by simp[h.e])]
 by_cases h4:s.kind=4
 ·rw[if_pos h4]
  refine⟨true,rfl,?_⟩
  have: ¬kR s.kind=110:=by rw[hk.2.2.1];omega
  simp only
  rw[if_neg this,decide_eq_true (.inl (hk.2.2.2.2.1.2 h4))]
 rw[if_neg h4]
 by_cases h2:s.kind=2
 ·rw[if_pos h2]
  simp only
  rw[if_pos (hk.2.2.1.2 h2)]
  have hp:Jw s=some (cT s.txt s.fin.toNat).1:=by rw[Jw,if_pos ⟨hf,by omega⟩]
  have hn:Nd p=some (Uo (cT s.txt s.fin.toNat).1):=by
   have h1:=h.at_
   rw[if_neg (by omega),sJ (by omega)] at h1
   have hl:p.pos.toNat+2≤p.l.length:=by
    have:=congrArg List.length h1
    simp at this
    omega
   have hpos:=h.pos
   have hlen:=h.len
   rw[Nd,if_pos ⟨h.pos,by omega,h.len⟩,show(min (p.pos+1) ((p.l.length:Int) -1)).toNat=p.pos.toNat+1 by omega]
   have:=congrArg (fun l=> l[1]?) h1
   simpa [List.getElem?_drop] using this
  rw[hp,hn]
  refine⟨_,rfl,?_⟩
  simp only[Option.map_some]
  congr 1
  have hr:=ot (s:=s.txt) (i:=s.fin.toNat) (by omega)
  have hk2:=ov ⟨hr.1,hr.2.1⟩
  have ht:fU s Jk=DH s.text:=by
   unfold fU DH Jk
   rw[Bool.eq_iff_iff]
   simp only[Bool.and_eq_true,decide_eq_true_eq,List.any_cons,List.any_nil,Bool.or_false,Bool.or_eq_true,h2,true_and]
   constructor
   ·rintro(e | e | e | e)
    ·exact .inr (.inl e)
    ·exact .inr (.inr (.inl e))
    ·exact .inr (.inr (.inr e))
    ·exact .inl e
   ·rintro(e | e | e | e)
    ·exact .inr (.inr (.inr e))
    ·exact .inl e
    ·exact .inr (.inl e)
    ·exact .inr (.inr (.inl e))
  rw[ht,hi,h.deep,Bool.or_comm]
  congr 1
  unfold Uo
  rw[Bool.eq_iff_iff]
  simp[hk2.2.2.2.2.2]
 ·rw[if_neg h2]
  simp only
  rw[if_neg (by rw[hk.2.2.1];exact h2)]
  refine⟨_,rfl,?_⟩
  congr 1
  unfold cO
  rw[Bool.eq_iff_iff]
  simp only[hk.2.2.2.2.1,hk.2.2.2.2.2,h4,false_or,decide_eq_true_eq,Bool.or_eq_true,Bool.and_eq_true]
  constructor
  ·rintro⟨a,b | b | b | b⟩ <;> simp[a,b]
  ·rintro(((⟨a,b⟩ | ⟨a,b⟩) | ⟨a,b⟩) | ⟨a,b⟩) <;> simp[a,b]
theorem S9 {g:Bool→Option (Pst×Y)} (h:Dd p) (h1:DD p (g false)):DD p ((rP p).bind g):=by
 obtain⟨t,ht⟩:=h.now
 rw[rP,ht,cb,if_pos h.e]
 exact h1
section
variable {r:Int} {A:Rdr→Bool→Out (Rdr×Pat)} {A':Pst→Option (Pst×Pat)} {O:Rdr→Out (Rdr×Cond)} {O':Pst→Option (Pst×Cond)}
theorem HN {k:Nat} {acc:List Pat} (h:Dd p) (hk:1≤k):DD p (md A' O' k p acc):=by
 obtain _ | k:=k
 ·omega
 rw[md]
 refine S9 h ?_
 exact DD.some
theorem Qc (h:Rel d s p) {i:Bool} (hb:uD s i=some true):0 < rem s:=by
 have hf:=h.fin
 unfold rem
 split
 ·rename_i hk
  have hk':=h.kind
  unfold uD at hb
  rw[if_neg (by omega),if_neg (by omega)] at hb
  unfold cO at hb
  rw[decide_eq_false (by omega)] at hb
  simp at hb
 ·omega
end
section
variable {r:Int} {A:Rdr→Bool→Out (Rdr×Pat)} {A':Pst→Option (Pst×Pat)} {O:Rdr→Out (Rdr×Cond)} {O':Pst→Option (Pst×Cond)}
theorem DJ (hA:L8 (r -1) A A') (hO:Ts r O O') (hD:qb7 O') (h0:0≤d) {i:Bool} (hi:i=decide (0 < d)): ∀ (k:Nat) (s:Rdr) (p:Pst) (acc:List Pat),Rel d s p→rem s≤r→d+rem s≤500→rem s+2≤k→Sim d (rem s) (pX A O i k s acc) (md A' O' k p acc)
 | 0,s,p,acc,h,hr,h5,hk=> by have:=h.rem0;omega
 | k+1,s,p,acc,h,hr,h5,hk=> by
   rw[pX,md]
   obtain⟨b,b1,b2⟩:=Tm h h0 hi
   rw[b1,b2]
   simp only[Out.of_some,Out.bind_ok,cb]
   cases b with
   | true=>
     have h1:=Qc h b1
     simp only[if_true]
     refine Sim.bind (Qx hA hO hD h hr h0 h5) (fun s2 p2 y hR2 hm2=> ?_) (fun p' y hd=> HN hd (by omega))
     exact(DJ hA hO hD h0 hi k s2 p2 _ hR2 (by omega) (by omega) (by omega)).mono (by omega)
   | false=>
     simp only[Bool.false_eq_true,if_false]
     exact bI h (Int.le_refl _)
theorem Qw (hA:L8 (r -1) A A') (hO:Ts r O O') (hD:qb7 O') (h:Rel d s p) (hr:rem s≤r) (h0:0≤d) (h5:d+rem s≤500) {i:Bool} (hi:i=decide (0 < d)):Sim d (rem s -1) (seqE A O s i) (seqG A' O' p):=by
 unfold seqE seqG
 simp only[jf,oW]
 refine Sim.bind (Qx hA hO hD h hr h0 h5) (fun s2 p2 y hR2 hm2=> ?_) (fun p' y hd=> DD.bind (HN hd (by decide)) fun y=> DD.some)
 have:=hR2.rem0
 exact Sim.bind (DJ hA hO hD h0 hi 500 s2 p2 _ hR2 (by omega) (by omega) (by omega)) (fun s3 p3 y hR3 hm3=> bI hR3 (by first | omega | (simp only at*;omega))) (fun p' y hd=> DD.some)
theorem HQ {k:Nat} {acc:List Pat} (h:Dd p) (hk:1≤k):DD p (m9 A' O' k p acc):=by
 obtain _ | k:=k
 ·omega
 rw[m9]
 refine cr h ?_
 exact DD.some
theorem DN (hA:L8 (r -1) A A') (hO:Ts r O O') (hD:qb7 O') (h0:0≤d) {i:Bool} (hi:i=decide (0 < d)): ∀ (k:Nat) (s:Rdr) (p:Pst) (acc:List Pat),Rel d s p→rem s≤r→d+rem s≤500→rem s+2≤k→Sim d (rem s) (ri A O i k s acc) (m9 A' O' k p acc)
 | 0,s,p,acc,h,hr,h5,hk=> by have:=h.rem0;omega
 | k+1,s,p,acc,h,hr,h5,hk=> by
   rw[ri,m9]
   refine bm h (fun hs s' hR hm=> ?_) (fun hs=> ?_)
   ·have h1:=hR.rem0
    simp only[if_true]
    refine Sim.bind (Qw hA hO hD hR (by omega) h0 (by omega) hi) (fun s2 p2 y hR2 hm2=> ?_) (fun p' y hd=> HQ hd (by omega))
    exact(DN hA hO hD h0 hi k s2 p2 _ hR2 (by omega) (by omega) (by omega)).mono (by omega)
   ·simp only[Bool.false_eq_true,if_false]
    exact bI h (Int.le_refl _)
theorem Yc (hA:L8 (r -1) A A') (hO:Ts r O O') (hD:qb7 O'):L8 r (altE A O) (altG A' O'):=by
 intro d s p i h hr h0 h5 hi
 unfold altE altG
 simp only[jf,oW]
 refine Sim.bind (Qw hA hO hD h hr h0 h5 hi) (fun s2 p2 y hR2 hm2=> ?_) (fun p' y hd=> DD.bind (HQ hd (by decide)) fun y=> DD.some)
 have:=hR2.rem0
 exact Sim.bind (DN hA hO hD h0 hi 500 s2 p2 _ hR2 (by omega) (by omega) (by omega)) (fun s3 p3 y hR3 hm3=> bI hR3 (by first | omega | (simp only at*;omega))) (fun p' y hd=> DD.some)
end
theorem MO: ∀n:Nat,L8 ((n:Int) -1) (rQ n) (BD n)
 | 0=> fun d s p i h hr h0 h5 hi=> by have:=h.rem0;omega
 | n+1=> by
   show L8 _ (altE (rQ n) (orE (kK (n+1)))) (altG (BD n) (orG (rv (n+1))))
   rw[show((n+1:Nat):Int) -1=(n:Int) by omega]
   exact Yc (MO n) (fun d s p h hr=> UD s p h (by omega)) (fun p h=> YY h)
theorem Mk (h:Rel d s p) (w:B):DV p 110 w=some (fU s [w]):=by
 rw[DV,if_neg (by simp[h.e]),h.now,Option.map_some,fU]
 congr 1
 rw[Bool.eq_iff_iff]
 have:=(ov h.kind).2.2.1
 simp[this]
theorem Nw (w x:B) (l:List B):fw (x::l) w=if w=x then 0 else if fw l w < 0 then -1 else fw l w+1:=by
 show(if decide (w=x)=true then(0:Int) else if fw l w < 0 then -1 else fw l w+1)=_
 by_cases e:w=x <;> simp[e]
theorem rM: ∀ (l:List B) (w:B),fw l w= -1∨0≤fw l w
 | [],w=> .inl rfl
 | x::l,w=> by
   have:=rM l w
   rw[Nw]
   split
   ·exact .inr (by omega)
   ·split
    ·exact .inl rfl
    ·exact .inr (by omega)
theorem Hs (w x:B) (l:List B):fw (x::l) w=if w=x then 0 else if fw l w= -1 then -1 else fw l w+1:=by
 have:=rM l w
 rw[Nw]
 split
 ·rfl
 ·by_cases h:fw l w < 0
  ·rw[if_pos h,if_pos (by omega)]
  ·rw[if_neg h,if_neg (by omega)]
theorem sB (h:Rel d s p): ∀ (l:List B) (i:Int),sC p l i=some (if s.kind=2∧fw l s.text≠ -1 then fw l s.text+i else -1)
 | [],i=> by
   have:fw [] s.text= -1:=rfl
   rw[sC,this,if_neg (by simp)]
 | w::l,i=> by
   rw[sC,Mk h,cb,Hs]
   have hr:=rM l s.text
   unfold fU
   by_cases hk:s.kind=2
   ·by_cases e:s.text=w
    ·simp[hk,e]
    ·simp only[hk,e,decide_true,Bool.true_and,List.any_cons,decide_false,List.any_nil,Bool.or_self,Bool.false_eq_true,if_false,sB h l (i+1),true_and]
     rcases hr with hr | hr
     ·simp[hr]
     ·have h1:fw l s.text≠ -1:=by omega
      have h2:fw l s.text+1≠ -1:=by omega
      simp only[h1,h2,ne_eq,not_false_eq_true,if_true,if_false]
      congr 1
      omega
   ·simp only[hk,decide_false,Bool.false_and,Bool.false_eq_true,if_false,sB h l (i+1),false_and]
theorem z7 (l:List B) (hk:s.kind=2):fU s l=decide (fw l s.text≠ -1):=by
 unfold fU
 rw[decide_eq_true hk,Bool.true_and]
 induction l with
 | nil=> rfl
 | cons x l ih=>
   have hr:=rM l s.text
   rw[List.any_cons,ih,Hs]
   by_cases e:s.text=x
   ·simp[e]
   ·by_cases e2:fw l s.text= -1
    ·simp[e,e2]
    ·have:fw l s.text+1≠ -1:=by omega
     simp[e,e2,this]
theorem xa {k:Nat} {acc:List jT} (h:Dd p) (hk:1≤k):DD p (fy k p acc):=by
 obtain _ | k:=k
 ·omega
 rw[fy,if_pos h.e]
 exact DD.some
theorem Bp (w:B):fw filterL w=if w=E0 then 0 else if fw (filterL.drop 1) w= -1 then -1 else fw (filterL.drop 1) w+1:=Hs w E0 _
theorem A2 {s':Rdr} (h:yy s=some s'):fV s= .ok s':=by rw[fV,h];rfl
theorem At {k:Nat} {acc:List jT} {b:Bool} (ih: ∀ (s:Rdr) (p:Pst) (acc:List jT),Rel d s p→rem s+2≤k→Sim d (rem s) (gN k s acc) (fy k p acc)) (h:Rel d s p) (hk:rem s+1≤k) (h2:s.kind=2) (hD:fw (filterL.drop 1) s.text≠ -1):
 Sim d (rem s) ((if s.kind≠2∨fw filterL s.text < 1 then Out.err (s.pos,3) else(fV s).bind fun x=> (dY x 2).bind fun n=> .ok (n.1,(⟨fw filterL s.text,b,n.2⟩:jT))).bind fun f=> gN k f.1 (acc++ [f.2]))
  ((bv p.step 110 E0).bind fun n=> fy k n.1 (acc++ [⟨fw (filterL.drop 1) s.text+1,b,n.2⟩])):=by
 have h0:=h.rem0
 have hr:=rM (filterL.drop 1) s.text
 have hi:fw filterL s.text=fw (filterL.drop 1) s.text+1:=by rw[Bp,if_neg (h.nam h2),if_neg hD]
 rw[if_neg (by rw[hi];omega),hi]
 obtain⟨s',e1,e2,e3⟩:=h.next (by omega)
 have h1:=e2.rem0
 rw[A2 e1]
 simp only[Out.bind_ok,Out.bind_bind]
 refine cH e2 ⟨rfl,by decide,by decide⟩ (fun hs s3 hR hm=> ?_) (fun p' hd y=> xa hd (by omega))
 exact(ih s3 _ _ hR (by omega)).mono (by omega)
theorem tG: ∀ (k:Nat) (s:Rdr) (p:Pst) (acc:List jT),Rel d s p→rem s+2≤k→Sim d (rem s) (gN k s acc) (fy k p acc)
 | 0,s,p,acc,h,hk=> by have:=h.rem0;omega
 | k+1,s,p,acc,h,hk=> by
   have h0:=h.rem0
   rw[gN,fy,if_neg (show ¬ (p.e≠0) by simp[h.e])]
   unfold Q3
   simp only[oW]
   cases hb:cO s ⟨#[33]⟩ with
   | true=>
     have hb':s.kind=5∧s.text=⟨#[33]⟩:=by unfold cO at hb;simpa using hb
     obtain⟨s',e1,e2,e3⟩:=h.next (by omega)
     have h1:=e2.rem0
     rw[LV h hb,cb,cG,pF,hb,e1]
     simp only[Bool.true_or,if_true,Option.map_some,Out.of_some,Out.bind_ok,sB e2,cb]
     by_cases hc:s'.kind=2∧fw (filterL.drop 1) s'.text≠ -1
     ·have hr:=rM (filterL.drop 1) s'.text
      rw[if_pos hc,if_neg (show ¬ (fw (filterL.drop 1) s'.text+1= -1) by omega)]
      exact(At (tG k) e2 (by omega) hc.1 hc.2).mono (by omega)
     ·rw[if_neg hc,if_pos rfl]
      have:s'.kind≠2∨fw filterL s'.text < 1:=by
       by_cases h2:s'.kind=2
       ·right
        rw[Bp,if_neg (e2.nam h2),if_pos (by
         by_cases e:fw (filterL.drop 1) s'.text= -1
         ·exact e
         ·exact absurd ⟨h2,e⟩ hc)]
        omega
       ·exact .inl h2
      rw[if_pos this,j4,e2.now]
      exact⟨_,_,rfl,e2.dead 3 s'.pos (by decide)⟩
   | false=>
     rw[LV h hb,cb,ET hb]
     simp only[Bool.false_or,Bool.false_eq_true,if_false,Out.bind_ok,sB h,cb]
     by_cases hc:s.kind=2∧fw (filterL.drop 1) s.text≠ -1
     ·have hr:=rM (filterL.drop 1) s.text
      have hw:fU s filterL=true:=by
       rw[z7 _ hc.1,decide_eq_true_eq,Bp,if_neg (h.nam hc.1),if_neg hc.2]
       omega
      rw[hw,if_pos rfl,if_pos hc,if_neg (show ¬ (fw (filterL.drop 1) s.text+1= -1) by omega)]
      exact At (tG k) h (by omega) hc.1 hc.2
     ·have hw:fU s filterL=false:=by
       by_cases h2:s.kind=2
       ·rw[z7 _ h2,decide_eq_false_iff_not,Bp,if_neg (h.nam h2),if_pos (by
         by_cases e:fw (filterL.drop 1) s.text= -1
         ·exact e
         ·exact absurd ⟨h2,e⟩ hc)]
        simp
       ·unfold fU
        simp[h2]
      rw[hw,if_neg (by simp),if_neg hc,if_pos rfl]
      exact bI h (Int.le_refl _)
theorem R0 (h:Rel d s p):Sim d (rem s) (vG s) (rY p):=by
 unfold vG rY
 rw[Mk h,cb]
 show Sim d (rem s) (if fU s [pS] then _ else _) (if fU s [pS] then _ else _)
 cases hb:fU s [pS] with
 | true=>
   have hk:s.kind=2:=by unfold fU at hb;simp at hb;omega
   obtain⟨s',e1,e2,e3⟩:=h.next (by omega)
   simp only[if_true]
   rw[A2 e1,Out.bind_ok,sB e2,cb]
   by_cases hc:s'.kind=2∧fw dc s'.text≠ -1
   ·have hr:=rM dc s'.text
    rw[if_pos hc,if_neg (show ¬ (fw dc s'.text+0= -1) by omega),z7 _ hc.1,decide_eq_true hc.2,if_pos rfl]
    obtain⟨s2,f1,f2,f3⟩:=e2.next (by omega)
    rw[dY,if_pos hc.1,A2 f1]
    simp only[Out.map_ok,Int.add_zero]
    exact bI f2 (by first | omega | (simp only at*;omega))
   ·have hw:fU s' dc=false:=by
     by_cases h2:s'.kind=2
     ·rw[z7 _ h2,decide_eq_false_iff_not]
      exact fun e=> hc ⟨h2,e⟩
     ·unfold fU
      simp[h2]
    rw[if_neg hc,if_pos rfl,hw,if_neg (by simp),j4,e2.now]
    exact⟨_,_,rfl,e2.dead 3 s'.pos (by decide)⟩
 | false=>
   simp only[Bool.false_eq_true,if_false]
   exact bI h (Int.le_refl _)
theorem HM (h:Dd p):DD p (rY p):=by
 unfold rY
 exact qI h DD.some
theorem R1 {t:B} (ht:t.size≤400):match queryE 500 ⟨t,0,0,E0,0⟩ with
 | .ok r=> ∃p,queryG (uK t 0)=some (p,r.2)∧p.e=0
 | .err f=> ∃p q,queryG (uK t 0)=some (p,q)∧p.e=f.2∧p.fail=f.1∧f.2≠0
 | .no=> False:=by
 have hl:=ot (s:=t) (i:=0) (Nat.zero_le _)
 have hR:Rel 0 ⟨t,(cT t 0).2,(cT t 0).1.kind,(cT t 0).1.text,(cT t 0).1.pos⟩ ⟨uK t 0,0,0,0,0⟩:=⟨rfl,rfl,Int.le_refl _,by have:=Jj t.size t 0 (Nat.zero_le _) (by omega);simp only;omega,ht,⟨hl.1,hl.2.1⟩,⟨hl.2.2.1,hl.2.2.2.1⟩,Nm,Nl,by
  show List.drop 0 (uK t 0)=_
  rw[List.drop_zero,sJ (Nat.zero_le _)]
  rfl⟩
 have hn:fV ⟨t,0,0,E0,0⟩= .ok ⟨t,(cT t 0).2,(cT t 0).1.kind,(cT t 0).1.text,(cT t 0).1.pos⟩:=by
  refine A2 ?_
  rw[yy,if_pos ⟨⟨Int.le_refl _,by simp⟩,by simp only;omega⟩]
  rfl
 have hr:=hR.rem0
 have main:Sim 0 (rem ⟨t,(cT t 0).2,(cT t 0).1.kind,(cT t 0).1.text,(cT t 0).1.pos⟩) (queryE 500 ⟨t,0,0,E0,0⟩) (queryG (uK t 0)):=by
  unfold queryE queryG
  rw[hn,Out.bind_ok]
  refine Sim.bind (MO 500 0 _ _ false hR (by omega) (Int.le_refl _) (by omega) rfl) (fun s2 p2 y hR2 hm2=> ?_) (fun p' y hd=> ?_)
  ·have hr2:=hR2.rem0
   have tl: ∀ (g:Glob) (s3:Rdr) (p3:Pst),Rel 0 s3 p3→rem s3≤rem s2→Sim 0 (rem ⟨t,(cT t 0).2,(cT t 0).1.kind,(cT t 0).1.text,(cT t 0).1.pos⟩) ((gN 500 s3 []).bind fun f=> (vG f.1).bind fun z=> if z.1.kind=0 then .ok (z.1,(⟨y,g,f.2,z.2⟩:Qry)) else .err (z.1.pos,3))
    ((fy 500 p3 []).bind fun f=> (rY f.1).bind fun z=> (jV z.1 101).bind fun b=> if b∨z.1.e≠0 then some (z.1,(⟨y,g,f.2,z.2⟩:Qry)) else(j4 z.1).map fun w=> (w,⟨y,g,f.2,z.2⟩)):=by
    intro g s3 p3 hR3 hm3
    have hr3:=hR3.rem0
    refine Sim.bind (tG 500 s3 p3 [] hR3 (by omega)) (fun s4 p4 y4 hR4 hm4=> ?_) (fun p' y hd=> ?_)
    ·refine Sim.bind (R0 hR4) (fun s5 p5 y5 hR5 hm5=> ?_) (fun p' y hd=> ?_)
     ·simp only
      rw[ou hR5,cb]
      have hk:=ov hR5.kind
      by_cases hz:s5.kind=0
      ·rw[if_pos hz,if_pos (.inl (by rw[decide_eq_true_eq];exact hk.1.2 hz))]
       exact bI hR5 (by first | omega | (simp only at*;omega))
      ·rw[if_neg hz,if_neg (by
        rw[not_or]
        refine⟨?_,by simp[hR5.e]⟩
        rw[decide_eq_true_eq,hk.1]
        exact hz),j4,hR5.now]
       exact⟨_,_,rfl,hR5.dead 3 s5.pos (by decide)⟩
     ·simp only
      refine eK hd ?_
      rw[if_pos (.inr hd.e)]
      exact DD.some
    ·refine DD.bind (HM hd) fun y=> ?_
     simp only
     refine eK hd ?_
     rw[if_pos (.inr hd.e)]
     exact DD.some
   refine bm hR2 (fun hs s' hR hm=> ?_) (fun hs=> ?_)
   ·have hr3:=hR.rem0
    simp only[if_true]
    refine Sim.bind (UC s' _ hR (by omega)) (fun s3 p3 y3 hR3 hm3=> ?_) (fun p' y hd=> ?_)
    ·exact tl y3 s3 p3 hR3 (by simp only at*;omega)
    ·refine DD.bind (xa hd (by decide)) fun y=> DD.bind (HM hd) fun y=> ?_
     simp only
     refine eK hd ?_
     rw[if_pos (.inr hd.e)]
     exact DD.some
   ·simp only[Bool.false_eq_true,if_false,Out.bind_ok,cb]
    exact tl fP s2 p2 hR2 (Int.le_refl _)
  ·refine cr hd ?_
   simp only[Bool.false_eq_true,if_false,cb]
   refine DD.bind (xa hd (by decide)) fun y=> DD.bind (HM hd) fun y=> ?_
   simp only
   refine eK hd ?_
   rw[if_pos (.inr hd.e)]
   exact DD.some
 cases hE:queryE 500 ⟨t,0,0,E0,0⟩ with
 | ok r=>
   rw[hE] at main
   obtain⟨p,h1,h2,_⟩:=main
   exact⟨p,h1,h2.e⟩
 | err f=>
   rw[hE] at main
   obtain⟨p,y,h1,h2⟩:=main
   exact⟨p,y,h1,h2.e,h2.fail,h2.ne⟩
 | no=> rw[hE] at main;exact main.elim
def UZ (s:B):Option (Qry×Int×Int):=if 400 < s.size then some (vX,0,2) else match queryE 500 ⟨s,0,0,E0,0⟩ with
 | .ok r=> some (r.2,0,0)
 | .err f=> some (vX,f.1,f.2)
 | .no=> none
theorem zf (s:B): ∃r,sj s=some r∧UZ s=some r:=by
 unfold sj UZ
 by_cases h:400 < s.size
 ·rw[if_pos h,if_pos h]
  exact⟨_,rfl,rfl⟩
 ·rw[if_neg h,if_neg h,MS,cb]
  have:=R1 (t:=s) (by omega)
  cases hE:queryE 500 ⟨s,0,0,E0,0⟩ with
  | ok r=>
    rw[hE] at this
    obtain⟨p,h1,h2⟩:=this
    refine⟨(r.2,0,0),?_,rfl⟩
    rw[h1,Option.map_some,if_neg (by simp[h2])]
  | err f=>
    rw[hE] at this
    obtain⟨p,q,h1,h2,h3,h4⟩:=this
    refine⟨(vX,f.1,f.2),?_,rfl⟩
    rw[h1,Option.map_some,if_pos (by rw[h2];exact h4),h2,h3]
  | no=> rw[hE] at this;exact this.elim
end
end Go.Gv

namespace Go.Gv
open Cod (enc dec)
variable {S S0:Nat→Spc}
def YW (c:Int):Bool:=decide (48≤c∧c≤57)
abbrev Ca:Spc:=dG (a1 U8) (fun _=> True) (enc (X:=Bool)) fun x y=> y=YW x.val
theorem OI:Walk pm o7 S (a1 U8) (fun _=> True) (enc (X:=Bool)) fun x y=> y=tr x.val:=by
 rintro⟨c⟩ -
 simp[pm,o7,tr]
 repeat' first | apply And.intro | intro _
 all_goals first | omega | (rw[Bool.eq_iff_iff];simp;omega)
theorem RI:Walk qK qd S (a1 U8) (fun _=> True) (enc (X:=Bool)) fun x y=> y=YW x.val:=by
 rintro⟨c⟩ -
 simp[qK,qd,YW]
 repeat' first | apply And.intro | intro _
 all_goals first | omega | (rw[Bool.eq_iff_iff];simp;omega)
abbrev KI:Spc:=dG a0 (fun _=> True) (enc (X:=List B)) fun _ y=> y=signsL
theorem XJ:Walk uu tO S a0 (fun _=> True) (enc (X:=List B)) fun _ y=> y=signsL:=by
 rintro x -
 simp[uu,tO]
 exact fK signsL (.same _) rfl
theorem QU {s:B} {i:Nat} {c:UInt8} (h:s.data[i]?=some c):VD s i=decide (c.toNat=32∨c.toNat=10):=by rw[VD,h]
theorem QW {s:B} {i:Nat} {c:UInt8} (h:s.data[i]?=some c):PJ s i=decide (48≤c.toNat∧c.toNat≤57):=by rw[PJ,h]
theorem Y4 {s:B} {i:Nat} (h:i < s.size): ∃c,s.data[i]?=some c:=⟨s.data[i],Array.getElem?_eq_getElem h⟩
theorem MJ (s:B): ∀ (n i:Nat),s.size -i=n→i≤s.size→i≤bV s i∧bV s i≤s.size
 | 0,i,h,hi=> by rw[Jm (by omega)];omega
 | n+1,i,h,hi=> by
   rw[yP (by omega)]
   split
   ·have:=MJ s n (i+1) (by omega) (by omega);omega
   ·omega
end Go.Gv

namespace Go.Gv
open Cod (enc dec)
variable {S S0:Nat→Spc}
theorem E4 {s:B} {i:Nat} {c:UInt8} (h:s.data[i]?=some c):Lt s i=(tr c.toNat || YW c.toNat || decide ((c.toNat:Int)=45)):=by
 unfold Lt A6 tr YW
 rw[h,Bool.eq_iff_iff]
 simp
 omega
theorem Vj {s:B} {i:Nat} (h:s.size≤i):om s i=i:=by
 unfold om
 rw[show s.size -i=0 by omega,Py]
theorem Vx (c:UInt8):A6 c.toNat=tr (c.toNat:Int):=by unfold A6 tr;rw[Bool.eq_iff_iff];simp;omega
theorem Co: ∀ (a b:Nat) (s:B) (j:Nat) (v:B),s.size -j≤a→s.size -j≤b→kI a s j v=kI b s j v
 | 0,0,_,_,_,_,_=> rfl
 | 0,b+1,s,j,v,h,_=> by
   rw[kI,kI]
   have:s.data[j]?=none:=Array.getElem?_eq_none (by show s.size≤j;omega)
   rw[this]
 | a+1,0,s,j,v,_,h=> by
   rw[kI,kI]
   have:s.data[j]?=none:=Array.getElem?_eq_none (by show s.size≤j;omega)
   rw[this]
 | a+1,b+1,s,j,v,ha,hb=> by
   rw[kI,kI]
   split
   ·rfl
   ·split
    ·split
     ·split
      ·exact Co a b s _ _ (by omega) (by omega)
      ·rfl
     ·rfl
    ·exact Co a b s _ _ (by omega) (by omega)
theorem AJ {s:B} {j:Nat} {v:B} {c:UInt8} (h:s.data[j]?=some c):nA s j v=if c.toNat=34 then(match s.data[j+1]? with
 | some d=> if d.toNat=34 then nA s (j+2) (v++s.extract (j+1) (j+2)) else some (j,v)
 | none=> some (j,v)) else nA s (j+1) (v++s.extract j (j+1)):=by
 have hj:j < s.size:=(Array.getElem?_eq_some_iff.1 h).1
 unfold nA
 rw[show s.size -j=(s.size - (j+1)) +1 by omega,kI,h]
 simp only
 split
 ·cases hd:s.data[j+1]? with
  | none=> rfl
  | some d=>
    have hj2:j+1 < s.size:=(Array.getElem?_eq_some_iff.1 hd).1
    simp only
    split
    ·exact Co _ _ s _ _ (by omega) (by omega)
    ·rfl
 ·rfl
theorem Yj {s:B} {j:Nat} {v:B} (h:s.size≤j):nA s j v=none:=by
 unfold nA
 rw[show s.size -j=0 by omega,kI]
abbrev KT:Spc:=dG (a1 B) (fun s=> s.size≤100000) (enc (X:=List Dy)) fun s y=> FT s=some y
theorem TL (h1:S gO=oh) (h2:S gA=Ca) (h3:S oJ=KI):Walk xe vP S (a1 B) (fun s=> s.size≤100000) (enc (X:=List Dy)) fun s y=> FT s=some y:=by
 rintro s hsz
 have hsz:s.size≤100000:=hsz
 obtain⟨fin,hfin0⟩: ∃fin,FT s=some fin:=⟨_,MS s⟩
 have hfin:=hfin0
 unfold FT at hfin
 simp[xe,vP]
 refine cy (X:=Nat×Nat×Value×List Dy) [0] [] (fun z=> yQ z.1 s z.2.1 z.2.2.2=some fin∧z.2.1≤s.size∧z.2.2.2.length≤z.2.1) (fun z=> [(3, .own 200 z.2.2.1),(4,enc (z.2.1:Int))]) (fun z=> [(200, .row z.2.2.1 aC 3 (z.2.2.2.map enc))]) (fun z=> z.1) (s.size+1,0, .slice none 0 0, []) ⟨hfin,by simp,by simp⟩ (by simp) (by simp[isNilRow]) ?_
 clear hfin
 rintro⟨k,i,v,out⟩ ⟨hk,hi,hlen⟩
 simp only at hk hi hlen
 obtain _ | k:=k
 ·rw[yQ] at hk;cases hk
 rw[yQ] at hk
 simp
 refine fG (X:=Unit) [0,3] [200] (fun _=> True) (fun _=> [(4,enc ((bV s i:Nat):Int))]) (fun _=> []) ?_ ?_
 ·simp
  refine cy (X:=Nat) [0,3] [200] (fun j=> i≤j∧j≤s.size∧bV s j=bV s i) (fun j=> [(4,enc (j:Int))]) (fun _=> []) (fun j=> s.size -j) i ⟨Nat.le_refl _,hi,rfl⟩ (by simp) (by simp) ?_
  rintro j ⟨j0,j1,j2⟩
  simp
  refine fun _=> ⟨fun hj=> ⟨hj,fun c hc=> ⟨fun h32=> ⟨hj,fun c' hc'=> ?_⟩,fun h32=> ?_⟩⟩,fun hj=> ?_⟩
  ·rw[hc] at hc'
   cases hc'
   have hst:=yP hj
   rw[QU hc] at hst
   refine⟨fun h10=> ⟨by simp only[InR];omega,j+1,⟨by omega,by omega,?_⟩,by omega,by omega⟩,fun h10=> ?_⟩
   ·rw[←j2,hst,if_pos (by simp;omega)]
   ·rw[←j2,hst,if_neg (by simp;omega)]
  ·have hst:=yP hj
   rw[QU hc] at hst
   refine⟨by simp only[InR];omega,j+1,⟨by omega,by omega,?_⟩,by omega,by omega⟩
   rw[←j2,hst,if_pos (by simp;omega)]
  ·rw[←j2,Jm hj]
 rintro - -
 have hsk:=MJ s _ i rfl hi
 generalize hi':bV s i=i' at hk hsk
 simp
 refine fun _=> ⟨fun he=> ⟨by omega,by omega,fun v'=> ?_⟩,fun hne=> ?_⟩
 ·rw[if_pos (by omega)] at hk
  refine fK fin (th aC ?_) hfin0
  cases hk
  rw[show(i':Int)=(s.size:Int) by omega]
  simp[E0]
 rw[if_neg (by omega)] at hk
 have none_fin:RY s i'=none→fin=out++ [⟨120,E0,i'⟩]:=fun h=> by rw[h] at hk;exact(Option.some.inj hk).symm
 refine fG (X:=Nat×Dy×Value) [0] [] (fun z=> RY s i'=some (z.1,z.2.1)) (fun z=> [(5,enc (z.1:Int)),(3, .own 200 z.2.2)]) (fun z=> [(200, .row z.2.2 aC 3 ((out++ [z.2.1]).map enc))]) ?_ ?_
 ·obtain⟨c,hc⟩:=Y4 (s:=s) (i:=i') (by omega)
  unfold RY at none_fin ⊢
  simp only[hc,Vx] at none_fin ⊢
  simp[h1,h2,hc]
  clear hk
  refine⟨by omega,fun hL=> ?_,fun hL=> ?_⟩
  ·refine cy (X:=Nat) [0,3,4] [200] (fun j=> i'≤j∧j≤s.size∧om s j=om s i') (fun j=> [(5,enc (j:Int))]) (fun _=> []) (fun j=> s.size -j) i' ⟨Nat.le_refl _,by omega,rfl⟩ (by simp) (by simp) ?_
   rintro j ⟨j0,j1,j2⟩
   have go: ∀c:UInt8,s.data[j]?=some c→Lt s j=true→InR .i64 ((j:Int) +1)∧ ∃y,(i'≤y∧y≤s.size∧om s y=om s i')∧(j:Int) +1=y∧s.size -y < s.size -j:=fun c hc hn=> by
    have hj:j < s.size:=(Array.getElem?_eq_some_iff.1 hc).1
    refine⟨by simp only[InR];omega,j+1,⟨by omega,by omega,?_⟩,by omega,by omega⟩
    rw[←j2,xo hj,hn,if_pos rfl]
   have stop:om s j=j→om s i'=j:=fun h=> by rw[←j2,h]
   simp[h1,h2,hL]
   refine fun _=> ⟨fun hj=> ⟨hj,fun c hc=> ⟨fun b1=> ⟨hj,fun c2 hc2=> ⟨fun b2=> ⟨hj,fun c3 hc3=> ⟨fun b3=> ?_,fun b3=> ?_⟩⟩,fun b2=> ?_⟩⟩,fun b1=> ?_⟩⟩,fun hj=> ?_⟩
   ·rw[hc] at hc3
    cases hc3
    exact go c hc (by rw[E4 hc,decide_eq_true b3];simp)
   ·rw[hc] at hc3 hc2
    cases hc3
    cases hc2
    have e:=stop (by rw[xo hj,E4 hc,b1,b2,decide_eq_false b3];rfl)
    exact⟨j0,j1,by omega,by omega,fun v=> ⟨_,_,⟨rfl,rfl⟩,v,⟨by rw[e],rfl⟩, .inl ⟨rfl,rfl,by rw[e],rfl⟩⟩⟩
   ·rw[hc] at hc2
    cases hc2
    exact go c hc (by rw[E4 hc,b2];simp)
   ·exact go c hc (by rw[E4 hc,b1];simp)
   ·have e:=stop (Vj hj)
    exact⟨j0,j1,by omega,by omega,fun v=> ⟨_,_,⟨rfl,rfl⟩,v,⟨by rw[e],rfl⟩, .inl ⟨rfl,rfl,by rw[e],rfl⟩⟩⟩
  ·simp[hL] at none_fin ⊢
   refine⟨by omega,fun hD=> ?_,fun hD=> ?_⟩
   ·have hD':48≤c.toNat∧c.toNat≤57:=by unfold YW at hD;simp at hD;omega
    simp only[hD',if_true,and_self] at none_fin ⊢
    refine cy (X:=Nat) [0,3,4] [200] (fun j=> i'≤j∧j≤s.size∧oU s j=oU s i') (fun j=> [(5,enc (j:Int))]) (fun _=> []) (fun j=> s.size -j) i' ⟨Nat.le_refl _,by omega,rfl⟩ (by simp) (by simp) ?_
    rintro j ⟨j0,j1,j2⟩
    have stop:oU s j=j→oU s i'=j:=fun h=> by rw[←j2,h]
    simp[h1,h2,hL]
    refine fun _=> ⟨fun hj=> ⟨hj,fun c2 hc2=> ⟨fun b1=> ?_,fun b1=> ?_⟩⟩,fun hj=> ?_⟩
    ·refine⟨by simp only[InR];omega,j+1,⟨by omega,by omega,?_⟩,by omega,by omega⟩
     have hst:=Dr hj
     rw[QW hc2,decide_eq_true (by unfold YW at b1;simp at b1;omega),if_pos rfl] at hst
     rw[←j2,hst]
    ·have e:=stop (by
      have hst:=Dr hj
      rw[QW hc2,decide_eq_false (by unfold YW at b1;simp at b1;omega),if_neg (by simp)] at hst
      exact hst)
     exact⟨j0,j1,by omega,by omega,fun v=> ⟨_,_,⟨rfl,rfl⟩,v,⟨by rw[e],rfl⟩, .inl ⟨rfl,rfl,by rw[e],rfl⟩⟩⟩
    ·have e:=stop (Wv hj)
     exact⟨j0,j1,by omega,by omega,fun v=> ⟨_,_,⟨rfl,rfl⟩,v,⟨by rw[e],rfl⟩, .inl ⟨rfl,rfl,by rw[e],rfl⟩⟩⟩
   ·refine⟨by omega,fun hQ=> ⟨by simp only[InR];omega,?_⟩,fun hQ=> ?_⟩
    ·have hcq: ¬ (48≤c.toNat∧c.toNat≤57):=by omega
     have hq34:c.toNat=34:=by omega
     simp only[hcq,hq34,if_true,if_false] at none_fin ⊢
     refine cy (X:=Nat×B) [0,3,4] [200] (fun z=> nA s z.1 z.2=nA s (i'+1) ⟨#[]⟩∧z.1≤s.size∧i' < z.1∧z.2.size≤z.1) (fun z=> [(5,enc (z.1:Int)),(6,enc z.2),(7,enc false)]) (fun _=> []) (fun z=> s.size -z.1) (i'+1,⟨#[]⟩) ⟨rfl,by omega,by omega,Nat.zero_le _⟩ (by simp) (by simp) ?_
     rintro⟨j,u⟩ ⟨j0,j1,j2,j3⟩
     simp only at j0 j1 j2 j3
     simp
     clear h1 h2 h3
     refine fun _=> ⟨fun hj=> ⟨hj,fun d hd=> ⟨fun h34=> ⟨by simp only[InR];omega,fun _=> ⟨fun hj1=> ⟨by simp only[InR];omega,by omega,hj1,fun d' hd'=> ⟨fun hd34=> ?_,fun hd34=> ?_⟩⟩,fun hj1=> ?_⟩⟩,fun h34=> ?_⟩⟩,fun hj=> ?_⟩
     ·rw[AJ hd,if_pos (by omega),hd'] at j0
      simp only at j0
      rw[if_pos (by omega)] at j0
      have et: ((j:Int) +1+1).toNat=j+2:=by omega
      rw[et]
      refine⟨by simp only[InR];omega,by simp only[InR];omega,by omega,by omega,by omega,by omega,by simp only[InR];omega,j+2,_,⟨j0,by omega,by omega,?_⟩,⟨by omega,rfl⟩,by omega⟩
      rw[ByteArray.size_append,ByteArray.size_extract]
      omega
     ·have hq:nA s (i'+1) ⟨#[]⟩=some (j,u):=by
       rw[←j0,AJ hd,if_pos (by omega),hd']
       simp only
       rw[if_neg (by omega)]
      exact⟨by simp only[InR];omega,by omega,by omega,fun v=> ⟨_,_,⟨j,u,hq,rfl,rfl⟩,v,⟨by omega,rfl⟩, .inl ⟨rfl,rfl,rfl,rfl⟩⟩⟩
     ·have hn:s.data[j+1]?=none:=Array.getElem?_eq_none (by show s.size≤j+1;omega)
      have hq:nA s (i'+1) ⟨#[]⟩=some (j,u):=by
       rw[←j0,AJ hd,if_pos (by omega),hn]
      exact⟨by simp only[InR];omega,by omega,by omega,fun v=> ⟨_,_,⟨j,u,hq,rfl,rfl⟩,v,⟨by omega,rfl⟩, .inl ⟨rfl,rfl,rfl,rfl⟩⟩⟩
     ·rw[AJ hd,if_neg (by omega)] at j0
      refine⟨by simp only[InR];omega,by omega,by omega,by omega,by simp only[InR];omega,j+1,_,⟨j0,by omega,by omega,?_⟩,⟨by omega,rfl⟩,by omega⟩
      rw[ByteArray.size_append,ByteArray.size_extract]
      omega
     ·have hq:nA s (i'+1) ⟨#[]⟩=none:=by rw[←j0,Yj hj]
      have hf:=none_fin (by simp[hq])
      refine⟨by omega,by omega,fun v=> fK fin (th aC ?_) hfin0⟩
      rw[hf]
      simp[E0]
    ·have hcq: ¬ (48≤c.toNat∧c.toNat≤57):=by unfold YW at hD;simp at hD;omega
     have hq34: ¬c.toNat=34:=by omega
     simp only[hcq,hq34,if_false] at none_fin ⊢
     simp[h3]
     rintro -
     refine aO (X:=Unit) [0,3,4,5,38] [200] signsL.length (fun k _=> signsL.find? (iH s i')=(signsL.drop k).find? (iH s i')) (fun _=> []) (fun _=> []) () (by simp) (by simp) (by decide) (by simp) (by simp) (by simp) (by simp) (by simp) ?_ ?_
     ·rintro m -hm hP
      obtain⟨y,hy⟩:=cP hm
      obtain⟨_,hgy⟩:=List.getElem?_eq_some_iff.1 hy
      have hys:=FS y (cn hy)
      rw[dv hy,List.find?_cons] at hP
      have hpre:iH s i' y=decide (i'+y.size≤s.size∧s.extract i' (i'+y.size)=y):=rfl
      have e1: ((i':Int) + (y.size:Int)).toNat=i'+y.size:=by omega
      simp[hm,hy,hgy,e1]
      clear h1 h2 h3
      refine fun _=> ⟨by simp only[InR];omega,fun _=> ⟨fun hle _=> ⟨by simp only[InR];omega,by omega,by omega,fun hex _=> ⟨by simp only[InR];omega,fun hz=> by omega,fun _=> ?_⟩,fun hex=> ?_⟩,fun hlt=> ?_⟩⟩
      ·rw[hpre,decide_eq_true ⟨by omega,hex⟩] at hP
       exact⟨by omega,by omega,by omega,by omega,fun v=> ⟨_,_,⟨y,hP,rfl,rfl⟩,v,⟨by omega,rfl⟩, .inl ⟨rfl,rfl,rfl,rfl⟩⟩⟩
      ·rw[hpre,decide_eq_false (fun h=> hex h.2)] at hP
       exact hP
      ·rw[hpre,decide_eq_false (fun h=> by have:=h.1;omega)] at hP
       exact hP
     ·rintro -hP
      rw[List.drop_length] at hP
      have hf:=none_fin (by rw[hP];rfl)
      simp
      refine⟨by omega,by omega,fun v=> fK fin (th aC ?_) hfin0⟩
      rw[hf]
      simp[E0]
 ·rintro⟨j,t,v'⟩ ht
  simp only at ht
  rw[ht] at hk
  simp only at hk
  split at hk
  ·rename_i hj
   simp
   exact⟨k,j,v',out++ [t],⟨hk,hj.1,by simp;omega⟩,⟨⟨rfl,rfl⟩, .inl ⟨rfl,by simp⟩⟩,by omega⟩
  ·cases hk
end Go.Gv

namespace Go.Gv
open Go.Proofs
-- r23_Parse while id=0: live [2:, 5:p, 6:q] changed [] res [0, 2, 6, 16, 55]
def n9:CC:=oX [oB 2 (.alloc gJ [oi,oi,oe,oe,oe,oe,ob,on,oe,oe,oi,oi,on,oi,oe,oe,oe,oe,oe,ob,oi,oi,on,on,on,oi]),oB 3 (.mv (oN 0)),oB 4 (.mv (oN 0))] [0,2] [0,2,16,55] (.seq (oX [oA 9 0,oB 10 (.slen (oT 9)),oB 11 (.cmp .gtr (oT 10) (oN 400))] [0,2,11] [0,2,16,55] (.ite (oT 11) (oX [
 oB 12 (.build [oi,oi,oe,oe,oe,oe,ob,on,oe,oe,oi,oi,on,oi,oe,oe,oe,oe,oe,ob,oi,oi,on,on,on,oi] []),.op none none (.store (some 2) 26 (oT 2) (oT 12)),oB 3 (.mv (oN 0)),oB 4 (.mv (oN 2))] [2,3,4] [0,2,16,55] (.ret)) (.skip))) (.keep [0,2] [0,2,16,55] (oX [oA 13 0,oZ 14 qD [oT 13],oB 15 (.build [on,oi,oi,oi,oi] [(0,1,oT 14)]),oB 16 (.box tD false (oT 15)),
 oA 5 16] [2,5] [0,2,16,55] (oX [oA 17 5,oZ 18 dA [oT 17],oB 19 (.build [oi,oi,oe,oe,oe,oe,ob,on,oe,oe,oi,oi,on,oi,oe,oe,oe,oe,oe,ob,oi,oi,on,on,on,oi] [(0,13,oT 18)]),oB 6 (.alloc gJ [oi,oi,oe,oe,oe,oe,ob,on,oe,oe,oi,oi,on,oi,oe,oe,oe,oe,oe,ob,oi,oi,on,on,on,oi]),oF 26 6 19] [2,5,6] [0,2,6,16,55] (iB 6 (oX [oA 20 5,
 oZ 21 ah [oT 20,oS ⟨#[58,58]⟩]] [2,5,6,21] [0,2,6,16,55] (.ite (oT 21) (.reg [oA 22 5,oZ 23 dz [oT 22],oE 24 13 6,oF 11 24 23]) (.skip))) (.keep [2,5,6] [0,2,6,16,55] (iB 8 (.block 0 (.loop 1 (.seq (oX [oA 25 5,oG 26 25,oE 27 3 26,oC 28 1 27,oB 29 (.eql false false [.int] (oT 28) (oN 0))] [2,5,6,29] [0,2,6,16,55] (.ite (oT 29) (.skip) (.exit 0)))
 (.keep [2,5,6] [0,2,6,16,55] (.block 1 (oX [oA 30 5,oZ 31 ah [oT 30,oS ⟨#[33]⟩],oA 7 31] [2,5,6,7] [0,2,6,16,55] (oX [oA 32 5,oZ 33 fl [],oZ 34 eH [oT 32,oT 33,oN 1],oA 8 34] [2,5,6,7,8] [0,2,6,16,55] (.seq (oX [oA 35 8,oB 36 (.eql false false [.int] (oT 35) (oN (-1)))] [2,5,6,7,8,36] [0,2,6,16,55] (.ite (oT 36) (.seq (oX [
 oA 37 7] [2,5,6,37] [0,2,6,16,55] (.ite (oT 37) (.reg [oA 38 5,oZ 39 bR [oT 38]]) (.skip))) (.keep [2,5,6] [0,2,6,16,55] (.exit 0))) (.skip))) (.keep [2,5,6,7,8] [0,2,6,16,55] (oX [oA 40 5,oG 41 40,oE 42 1 41,oC 43 1 42,oB 44 (.arith .add (oT 43) (oN 1)),oG 45 40,oE 46 1 45,oF 1 46 44] [2,5,6,7,8] [0,2,6,16,55] (.regd [oE 47 24 6,oC 48 1 47,oA 49 8,oA 50 7,oA 51 5,
 oB 52 (.callb 16 af [oT 51,.const (.int .u8 110),oS ⟨#[]⟩]),oB 53 (.build [oi,ob,oe] [(0,1,oT 49),(1,1,oT 50),(2,1,oT 52)]),oB 54 (.bslice db 3 [oT 53])] [oB 55 (.append (some 55) db 3 32 (oT 48) (oT 54)),oE 56 24 6,.op none none (.store (some 6) 1 (oT 56) (oT 55))]))))))))))) (.keep [2,5,6] [0,2,6,16,55] (iB 18 (oX [oA 57 5,
 oZ 58 bF [oT 57,.const (.int .u8 110),oS ⟨#[115,116,114,97,116,101,103,121]⟩]] [2,5,6,58] [0,2,6,16,55] (.ite (oT 58) (oX [oA 59 5,oG 60 59,oE 61 1 60,oC 62 1 61,oB 63 (.arith .add (oT 62) (oN 1)),oG 64 59,oE 65 1 64,oF 1 65 63] [2,5,6] [0,2,6,16,55] (oX [oA 66 5,oZ 67 dy [],oZ 68 eH [oT 66,oT 67,oN 0],oE 69 25 6,
 oF 1 69 68] [2,5,6] [0,2,6,16,55] (oX [oE 70 25 6,oC 71 1 70,oB 72 (.eql false false [.int] (oT 71) (oN (-1)))] [2,5,6,72] [0,2,6,16,55] (.ite (oT 72) (.reg [oA 73 5,oZ 74 bR [oT 73]]) (.reg [oA 75 5,oG 76 75,oE 77 1 76,oC 78 1 77,oB 79 (.arith .add (oT 78) (oN 1)),oG 80 75,oE 81 1 80,oF 1 81 79]))))) (.skip))) (.keep [2,5,6] [0,2,6,16,55] (iB 23 (oX [oA 82 5,
 oG 83 82,oE 84 3 83,oC 85 1 84,oB 86 (.eql false false [.int] (oT 85) (oN 0)),oA 87 86,oH 88 87 (.mv (oT 5)),oH 89 87 (.call am [oT 88]),oH 90 87 (.fld false 1 0 (oT 89)),oH 91 87 (.eql true false [.int] (oT 90) (.const (.int .u8 101))),oB 92 (.pick (oT 87) (oT 91) (.const ob))] [2,5,6,92] [0,2,6,16,55] (.ite (oT 92) (.reg [oA 93 5,oZ 94 bR [oT 93]])
 (.skip))) (.keep [2,5,6] [0,2,6,16,55] (.seq (oX [oA 95 5,oG 96 95,oE 97 3 96,oC 98 1 97,oB 99 (.eql true false [.int] (oT 98) (oN 0))] [2,5,6,99] [0,2,6,16,55] (.ite (oT 99) (.seq (.regd [oB 100 (.build [oi,oi,oe,oe,oe,oe,ob,on,oe,oe,oi,oi,on,oi,oe,oe,oe,oe,oe,ob,oi,oi,on,on,on,oi] []),oA 101 5,oG 102 101,oE 103 4 102,oC 104 1 103,oA 105 5,oG 106 105,oE 107 3 106,oC 108 1 107,
 .op none none (.store (some 2) 26 (oT 2) (oT 100)),oA 3 104] [oA 4 108]) (.keep [2,3,4] [0,2,16,55] (.ret))) (.skip))) (.keep [2,6] [0,2,6,16,55] (oX [oD 109 26 6,.op none none (.store (some 2) 26 (oT 2) (oT 109)),oB 3 (.mv (oN 0)),oB 4 (.mv (oN 0))] [2,3,4] [0,2,16,55] (.ret))))))))))))))))
def nV:List aI:= [.cell 2 true 26, .tmp 3, .tmp 4]
def IZ:List Nat:= [3052016,1055055,2056006,2002002]
theorem IN:aR Tryz.prog oM IZ n9 nV 110:=aA ay (by kernel_rfl)
end Go.Gv

namespace Go.Gv
open Cod (enc dec)
variable {S S0:Nat→Spc}
@[simp] abbrev Md (s:Pst) (z:List B×Int):Option (Pst×Int):=if 0≤z.2 then(sC s (z.1.drop z.2.toNat) z.2).map fun k=> (s,k) else none
abbrev KS:Spc:=z3 (a2 (List B) Int) (enc (X:=Int)) Md
theorem TI (h1:S bF=KR):gR lw kZ S (a2 (List B) Int) (enc (X:=Int)) Md:=by
 rintro b s ⟨l,i⟩ ⟨r,hr⟩
 simp only[Md] at hr
 split at hr
 ·rename_i hi0
  have hi0:0≤i:=hi0
  obtain⟨v,hv,rfl⟩:=Option.map_eq_some_iff.1 hr
  simp[lw,kZ]
  refine cy (X:=Int) [0,1] [0] (fun j=> 0≤j∧sC s (l.drop j.toNat) j=some v) (fun j=> [(7,enc j)]) (fun _=> []) (fun j=> (l.length -j).toNat) i ⟨hi0,hv⟩ (by simp) (by simp) ?_
  rintro j ⟨hj,hw⟩
  have fn: ∀ (k:Int) (H:ab),k=v→H 0=some (.box b (dF s))→rT enc b (fun s' y=> 0≤i∧sC s (List.drop i.toNat l) i=some y∧s=s') (.v (.int .i64 k)) H:=fun k H e h=> qaR s h ⟨hi0,by rw[hv,e],rfl⟩
  by_cases hl:j.toNat < l.length
  ·obtain⟨a,ha⟩:=cP hl
   obtain⟨_,hga⟩:=List.getElem?_eq_some_iff.1 ha
   rw[dv ha,sC] at hw
   obtain⟨w,hb,hw⟩:=Option.bind_eq_some_iff.1 hw
   cases w with
   | true=>
     have hjv:j=v:=Option.some.inj hw
     simp[h1,ha,hga,hb]
     refine fun _=> ⟨fun _=> ⟨hj,by omega,fn j _ hjv (by simp)⟩,fun h=> by omega⟩
   | false=>
     simp only[Bool.false_eq_true,if_false] at hw
     simp[h1,ha,hga,hb]
     refine fun _=> ⟨fun _=> ⟨hj,by omega,by simp only[InR];omega,j+1,⟨by omega,?_⟩,rfl,by omega⟩,fun h=> by omega⟩
     rw[show(j+1).toNat=j.toNat+1 by omega]
     exact hw
  ·rw[List.drop_of_length_le (by omega),sC] at hw
   have hjv: -1=v:=Option.some.inj hw
   simp[h1]
   exact fun _=> ⟨fun h=> by omega,fun _=> fn _ _ hjv (by simp)⟩
 ·cases hr
theorem Mz:Walk qL qe S a0 (fun _=> True) (enc (X:=List B)) fun _ y=> y=filterL:=by
 rintro x -
 simp[qL,qe]
 exact fK (Y:=List B) filterL (.same _) rfl
theorem Fu:Walk mP mh S a0 (fun _=> True) (enc (X:=List B)) fun _ y=> y=dc:=by
 rintro x -
 simp[mP,mh]
 exact fK (Y:=List B) dc (.same _) rfl
theorem qj5 {α β:Type} {F0:Option β} {K:α→Prop} {o:Option α} {k:α→Option β} (hf: ∃r,F0=some r) (e:F0=o.bind k) (h: ∀x,o=some x→F0=k x→K x):gE o K:=by
 cases o with
 | some x=> exact h x rfl e
 | none=> exact QL hf e
theorem BK {s:Pst} : ∀ {l:List B} {i k:Int},sC s l i=some k→k≠ -1→InR .i64 (s.pos+1)
 | [],i,k,h,hk=> by cases h;exact absurd rfl hk
 | w::l,i,k,h,hk=> by
   rw[sC] at h
   obtain⟨b,hb,h⟩:=Option.bind_eq_some_iff.1 h
   cases b with
   | true=> exact QV hb
   | false=> exact BK (by simpa using h) hk
abbrev F3:Spc:=dG (a1 B) (fun _=> True) (Wm (Y:=Qry) (Z:=Int) (W:=Int)) fun s y=> sj s=some y
theorem RL (h1:S qD=KT) (h2:S dA=F2 (BD 500)) (h3:S ah=gK) (h4:S dz=MT (td 500)) (h5:S fl=od) (h6:S eH=KS) (h7:S bF=KR)
 (h8:S am=ik) (h9:S af=gW) (h10:S bR=sO) (h11:S dy=s_qstrats):
 Walk n9 nV S (a1 B) (fun _=> True) (Wm (Y:=Qry) (Z:=Int) (W:=Int)) fun s y=> sj s=some y:=by
 rintro s -
 obtain⟨y0,hy0,_⟩:=zf s
 have hp:=hy0
 unfold sj at hp
 by_cases hsz:400 < s.size
 ·rw[if_pos hsz] at hp
  cases hp
  have hsz': (400:Int) < s.size:=by omega
  simp[n9,nV,hsz']
  intro b2 _
  exact⟨vX,ox (by simp[vX,Cond0,E0]),hy0⟩
 rw[if_neg hsz] at hp
 obtain⟨l,hl,hp⟩:=Option.bind_eq_some_iff.1 hp
 obtain⟨⟨sF,qF⟩,hq,hp⟩:=Option.map_eq_some_iff.1 hp
 have hf: ∃r,queryG l=some r:=⟨_,hq⟩
 have e:=queryG.eq_1 l
 have hsz': ¬ (400:Int) < s.size:=by omega
 have hs5:s.size≤100000:=by omega
 simp[n9,nV,h1,h2,hsz',hs5,hl, -Bool.forall_bool, -Bool.exists_bool]
 intro b2 _ b16
 refine pB hf e fun p e=> ?_
 intro b6
 have last: ∀ (z:Pst) (q:Qry),queryG l=some (z,q)→sj s=some (if z.e≠0 then(vX,z.fail,z.e) else(q,0,0)):=fun z q h=> by
  unfold sj
  rw[if_neg hsz,hl]
  show(queryG l).map _=_
  rw[h]
  rfl
 refine rF (X:=Pst×Glob) [2,5] [2] [] [] (fun z=> queryG l=(fy 500 z.1 []).bind fun f=> (rY f.1).bind fun y=> (jV y.1 101).bind fun b=> if b∨y.1.e≠0 then some (y.1,(⟨p.2,z.2,f.2,y.2⟩:Qry)) else(j4 y.1).map fun w=> (w,⟨p.2,z.2,f.2,y.2⟩)) (fun _=> [(6, .bptr 6 b6 0)]) (fun z=> [(16, .box b16 (dF z.1)),(6, .box b6 [.v (.int .i64 p.2.op), .v (.int .i64 p.2.cond.op), .v (.string p.2.cond.name), .v (.string p.2.cond.arg), .v (.string p.2.cond.val), .v (.string p.2.cond.lab), .v (.bool p.2.cond.fold),enc p.2.cond.kids, .v (.string p.2.lab), .v (.string p.2.reg), .v (.int .i64 p.2.mn), .v (.int .i64 p.2.mx),enc p.2.kids, .v (.int .i64 z.2.op), .v (.string z.2.a), .v (.string z.2.b), .v (.string z.2.name), .v (.string z.2.arg), .v (.string z.2.val), .v (.bool z.2.fold), .v (.int .i64 z.2.mn), .v (.int .i64 z.2.mx),enc z.2.args,enc z.2.kids, .v (.slice none 0 0), .v (.int .i64 0)])]) [16,6] (fun _=> rfl) (by decide) ?_ ?_
 ·simp[h3,h4, -Bool.forall_bool, -Bool.exists_bool]
  refine pB hf e fun w e=> ⟨fun hc=> ?_,fun hc=> ?_⟩
  ·rw[if_pos hc] at e
   refine pB hf e fun g e=> ?_
   refine⟨_,_,e,?_⟩
   simp
  ·rw[if_neg (by simp[hc]),Option.bind_some] at e
   refine⟨_,_,e,?_⟩
   simp[E0]
 clear e
 rintro⟨s1,g⟩ e
 simp only at e
 refine rF (X:=Pst×List jT) [2,5] [2] [55] [] (fun z=> queryG l=(rY z.1).bind fun y=> (jV y.1 101).bind fun b=> if b∨y.1.e≠0 then some (y.1,(⟨p.2,g,z.2,y.2⟩:Qry)) else(j4 y.1).map fun w=> (w,⟨p.2,g,z.2,y.2⟩)) (fun _=> [(6, .bptr 6 b6 0)]) (fun z=> [(16, .box b16 (dF z.1)),(6, .box b6 [.v (.int .i64 p.2.op), .v (.int .i64 p.2.cond.op), .v (.string p.2.cond.name), .v (.string p.2.cond.arg), .v (.string p.2.cond.val), .v (.string p.2.cond.lab), .v (.bool p.2.cond.fold),enc p.2.cond.kids, .v (.string p.2.lab), .v (.string p.2.reg), .v (.int .i64 p.2.mn), .v (.int .i64 p.2.mx),enc p.2.kids, .v (.int .i64 g.op), .v (.string g.a), .v (.string g.b), .v (.string g.name), .v (.string g.arg), .v (.string g.val), .v (.bool g.fold), .v (.int .i64 g.mn), .v (.int .i64 g.mx),enc g.args,enc g.kids,enc z.2, .v (.int .i64 0)])]) [16,6] (fun _=> rfl) (by decide) ?_ ?_
 ·simp
  refine lL (X:=Nat×Pst×Value×List jT) [2,5,6] [2] [] [] [] [] (fun z=> (queryG l=(fy z.1 z.2.1 z.2.2.2).bind fun f=> (rY f.1).bind fun y=> (jV y.1 101).bind fun b=> if b∨y.1.e≠0 then some (y.1,(⟨p.2,g,f.2,y.2⟩:Qry)) else(j4 y.1).map fun w=> (w,⟨p.2,g,f.2,y.2⟩))∧z.2.2.2.length+z.1≤500) (fun _=> []) (fun z=> [(16, .box b16 (dF z.2.1)),(6, .box b6 [.v (.int .i64 p.2.op), .v (.int .i64 p.2.cond.op), .v (.string p.2.cond.name), .v (.string p.2.cond.arg), .v (.string p.2.cond.val), .v (.string p.2.cond.lab), .v (.bool p.2.cond.fold),enc p.2.cond.kids, .v (.string p.2.lab), .v (.string p.2.reg), .v (.int .i64 p.2.mn), .v (.int .i64 p.2.mx),enc p.2.kids, .v (.int .i64 g.op), .v (.string g.a), .v (.string g.b), .v (.string g.name), .v (.string g.arg), .v (.string g.val), .v (.bool g.fold), .v (.int .i64 g.mn), .v (.int .i64 g.mx),enc g.args,enc g.kids, .own 55 z.2.2.1, .v (.int .i64 0)]),(55, .row z.2.2.1 db 3 (z.2.2.2.map enc))]) (fun z=> z.1) (500,s1, .slice none 0 0, []) [16,6,55] (fun _=> rfl) (by decide) (by decide) ⟨e,by simp⟩ ?_ ?_ ?_
  ·simp
  ·simp[isNilRow]
   exact .nilown 55
  clear e
  rintro⟨k,s2,v,fs⟩ ⟨e,hlen⟩
  simp only at e hlen
  obtain _ | k:=k
  ·exact QL hf (by rw[e,fy];rfl)
  rw[fy] at e
  simp[h3,h5,h6,h9,h10, -Bool.forall_bool, -Bool.exists_bool]
  refine⟨fun he=> ?_,fun he=> ?_⟩
  ·rw[if_neg (by simp[he]),aS] at e
   refine pB hf e fun w e=> ?_
   rw[aS] at e
   refine qj5 hf e fun op hop e=> ⟨fun ho=> ?_,fun ho=> ?_⟩
   ·rw[if_pos ho] at e
    refine⟨fun hw=> ?_,fun hw=> ?_⟩
    ·rw[if_pos hw,a6] at e
     exact pB hf e fun z e=> ⟨z,fs,e, .inl (.inl ⟨rfl,rfl,rfl,rfl,rfl⟩), .inl (th db (by simp[Ny]))⟩
    ·rw[if_neg (by simp[hw]),Option.bind_some] at e
     exact⟨w.1,fs,e, .inl (.inl ⟨rfl,rfl,rfl,rfl,rfl⟩), .inl (th db (by simp[Ny]))⟩
   ·rw[if_neg ho,aS] at e
    refine⟨BK hop ho,?_⟩
    refine pB hf e fun r e=> ?_
    exact⟨by omega,by omega,fun v'=> ⟨k,r.1,v',fs++ [⟨op,w.2,r.2⟩],⟨e,by simp;omega⟩,⟨.inl (.inl ⟨rfl,rfl,rfl,rfl,rfl⟩), .inl (.inl rfl), .inl (.inl (by simp))⟩,by omega⟩⟩
  ·rw[if_pos he,Option.bind_some] at e
   exact⟨s2,fs,e, .inl (.inl ⟨rfl,rfl,rfl,rfl,rfl⟩), .inl (th db (by simp[Ny]))⟩
 clear e
 rintro⟨s2,fs⟩ e
 simp only at e
 refine fG (X:=Pst×Int) [2,5,6] [2] (fun z=> queryG l=(jV z.1 101).bind fun b=> if b∨z.1.e≠0 then some (z.1,(⟨p.2,g,fs,z.2⟩:Qry)) else(j4 z.1).map fun w=> (w,⟨p.2,g,fs,z.2⟩)) (fun _=> []) (fun z=> [(16, .box b16 (dF z.1)),(6, .box b6 [.v (.int .i64 p.2.op), .v (.int .i64 p.2.cond.op), .v (.string p.2.cond.name), .v (.string p.2.cond.arg), .v (.string p.2.cond.val), .v (.string p.2.cond.lab), .v (.bool p.2.cond.fold),enc p.2.cond.kids, .v (.string p.2.lab), .v (.string p.2.reg), .v (.int .i64 p.2.mn), .v (.int .i64 p.2.mx),enc p.2.kids, .v (.int .i64 g.op), .v (.string g.a), .v (.string g.b), .v (.string g.name), .v (.string g.arg), .v (.string g.val), .v (.bool g.fold), .v (.int .i64 g.mn), .v (.int .i64 g.mx),enc g.args,enc g.kids,enc fs, .v (.int .i64 z.2)])]) ?_ ?_
 ·simp only[rY,aS] at e
  simp[h6,h7,h10,h11, -Bool.forall_bool, -Bool.exists_bool]
  refine XB hf e (fun hr e=> ?_) (fun e=> ?_)
  ·rw[if_pos rfl,aS] at e
   refine⟨fun _=> ⟨hr,?_⟩,fun h=> by cases h⟩
   refine qj5 hf e fun k hk e=> ⟨fun hk1=> ?_,fun hk1=> ?_⟩
   ·rw[if_pos hk1,a6] at e
    subst hk1
    refine pB hf e fun z e=> ⟨z, -1,e,?_⟩
    simp
   ·rw[if_neg hk1,Option.bind_some] at e
    refine⟨BK hk hk1,_,_,e,?_⟩
    simp[Pst.step]
  ·rw[if_neg (by simp),Option.bind_some] at e
   refine⟨fun h=> (by cases h),fun _=> ⟨s2,0,e,?_⟩⟩
   simp
 clear e
 rintro⟨s3,st⟩ e
 simp only at e
 refine fG (X:=Pst) [2,5,6] [2,6] (fun z=> queryG l=some (z,(⟨p.2,g,fs,st⟩:Qry))) (fun _=> []) (fun z=> [(16, .box b16 (dF z))]) ?_ ?_
 ·simp only[jV] at e
  simp[h8,h10, -Bool.forall_bool, -Bool.exists_bool]
  refine⟨fun he=> ?_,fun he=> ?_⟩
  ·rw[if_neg (by simp[he]),a6] at e
   refine pB hf e fun x e=> ⟨fun hk=> ?_,fun hk=> ?_⟩
   ·rw[if_neg (by simp[hk,he])] at e
    refine pM hf e fun z e=> ⟨z,e,?_⟩
    simp
   ·rw[if_pos (by simp[hk])] at e
    refine⟨s3,e,?_⟩
    simp
  ·rw[if_pos he,Option.bind_some,if_pos (.inr he)] at e
   refine⟨s3,e,?_⟩
   simp
 clear e
 rintro s4 e
 have hz:=last _ _ e
 simp
 refine⟨fun he=> ⟨vX,ox (by simp[vX,Cond0,E0]),?_⟩,fun he=> ⟨⟨p.2,g,fs,st⟩,ox (by simp),?_⟩⟩
 ·rw[hz,if_pos he]
 ·rw[hz,if_neg (by simp[he])]
end Go.Gv

namespace Go.Gv
open Cod (enc dec)
variable {S S0:Nat→Spc}
mutual
def lr:Glob→Nat | .mk _ _ _ _ _ _ _ _ _ _ ks=> lQ ks+1
def lQ:List Glob→Nat | []=> 0 | k::ks=> max (lr k) (lQ ks)
end
theorem Dg: ∀ {ks:List Glob} {k:Glob},k∈ks→lr k≤lQ ks
 | x::ks,k,h=> by
   rw[lQ]
   rcases List.mem_cons.1 h with rfl | h
   ·omega
   ·have:=Dg h;omega
theorem NF {p k:Glob} (h:k∈p.kids):lr k < lr p:=by
 have:=Dg h
 cases p
 rw[lr]
 simp only at this
 omega
abbrev KL (n:Nat):Spc:=dG (a2 Glob Glob) (fun x=> lr x.1≤n∧x.1=x.2) (enc (X:=Bool)) fun _ y=> y=true
abbrev s_sameGA:Spc:=dG (a2 Glob Glob) (fun x=> x.1=x.2) (enc (X:=Bool)) fun _ y=> y=true
theorem Fk (n:Nat) (h0:S oO=KG) (h1:S dO=KL n):Walk pk o6 S (a2 Glob Glob) (fun x=> lr x.1≤n+1∧x.1=x.2) (enc (X:=Bool)) fun _ y=> y=true:=by
 rintro⟨a,b⟩ ⟨hn,e⟩
 have e:a=b:=e
 subst e
 have hn:lr a≤n+1:=hn
 have hpre: ∀k∈a.kids,lr k≤n:=fun k hk=> by have:=NF hk;omega
 simp[pk,o6,h0, -Bool.forall_bool]
 intro hlen
 refine aO (X:=Unit) [2,3] [] a.kids.length (fun k _=> True) (fun _=> []) (fun _=> []) () (by simp) (by simp) (by omega) (by simp) (by simp) (by simp) (by simp) (by simp) ?_ ?_
 ·rintro k -hk -
  obtain⟨x,hx⟩:=cP hk
  have hx1:=cn hx
  obtain⟨_,hgx⟩:=List.getElem?_eq_some_iff.1 hx
  simp[h1,hk,hx,hgx,hpre x hx1, -Bool.forall_bool]
 ·rintro - -
  simp
abbrev KJ:Spc:=dG (a2 Qry Qry) (fun x=> x.1=x.2) (enc (X:=Bool)) fun _ y=> y=true
theorem OC (h0:S cz=FY) (h1:S dO=s_sameGA):Walk xf vQ S (a2 Qry Qry) (fun x=> x.1=x.2) (enc (X:=Bool)) fun _ y=> y=true:=by
 rintro⟨a,b⟩ e
 have e:a=b:=e
 subst e
 simp[xf,vQ,h0,h1, -Bool.forall_bool]
 intro hlen
 refine aO (X:=Unit) [2,3] [] a.filts.length (fun k _=> True) (fun _=> []) (fun _=> []) () (by simp) (by simp) (by omega) (by simp) (by simp) (by simp) (by simp) (by simp) ?_ ?_
 ·rintro k -hk -
  obtain⟨x,hx⟩:=cP hk
  obtain⟨_,hgx⟩:=List.getElem?_eq_some_iff.1 hx
  simp[hk,hx,hgx, -Bool.forall_bool]
 ·rintro - -
  simp
theorem Se (s:B):tZ s=sj s:=by
 obtain⟨r,h1,h2⟩:=zf s
 rw[h1]
 exact h2
end Go.Gv

namespace Go.Gv
open Cod (enc dec)
variable {S S0:Nat→Spc}
theorem Nr:tZ Ls=some (VB,0,0):=by kernel_rfl
theorem Ft (h1:S ep=s_eParse) (h2:S mL=yS) (h3:S jk=Gd 10):Walk rc qv S a0 (fun _=> True) (enc (X:=Bool)) fun _ y=> y=true:=by
 rintro⟨⟩ -
 have e1: (⟨#[60,115,62,32,91,119,111,114,100,61,34,84,104,101,34,37,99,93]⟩:B)=Ls:=rfl
 simp[rc,qv,h1,h2,h3, -Bool.forall_bool, -Bool.exists_bool]
 rw[e1,Nr]
 refine⟨⟨_,_,_,rfl⟩,fun a a1 b hq=> ?_⟩
 simp only[Option.some.injEq,Prod.mk.injEq] at hq
 obtain⟨rfl,rfl,rfl⟩:=hq
 refine⟨fun _=> ⟨fun _=> ⟨fun _ _=> ⟨fun _=> ⟨by decide,fun p hp=> ?_⟩,rfl⟩,rfl⟩,rfl⟩,rfl⟩
 have hp:some (⟨1,⟨2,⟨#[119,111,114,100]⟩,E0,⟨#[84,104,101]⟩,E0,true, []⟩,E0,E0,0,0, []⟩:Pat)=some p:=hp
 cases hp
 refine⟨fun _=> ⟨fun _=> ⟨SB,fun y hy=> ?_⟩,?_⟩,rfl⟩
 ·have hy:vY 10 pi=some y:=hy
  rw[G1] at hy
  cases hy
  rfl
 ·show(if sU eL pi=true then l9 pi else 0)=2
  rw[if_pos JH,PG]
end Go.Gv
