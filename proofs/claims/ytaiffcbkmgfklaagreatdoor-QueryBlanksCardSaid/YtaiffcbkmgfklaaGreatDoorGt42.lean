/- A part of the framework and of the walks: V25 W54 W98 C13 W99 W100 W101. -/
import Derived.Test.YtaiffcbkmgfklaaGreatDoorGt41
import Derived.Test.YtaiffcbkmgfklaaGreatDoorGt22
import Derived.Test.YtaiffcbkmgfklaaGreatDoorGt38
import Derived.Test.YtaiffcbkmgfklaaGreatDoorGt23
import Derived.Test.YtaiffcbkmgfklaaGreatDoorGt17
import Derived.Test.YtaiffcbkmgfklaaGreatDoorGt40
import Derived.Test.YtaiffcbkmgfklaaGreatDoorGt37
import Derived.Test.YtaiffcbkmgfklaaGreatDoorGt29
import Derived.Test.YtaiffcbkmgfklaaGreatDoorGt34
import Derived.Test.YtaiffcbkmgfklaaGreatDoorGt33
set_option linter.unusedSimpArgs false
set_option linter.unusedVariables false
set_option maxRecDepth 100000

namespace Go.Gv
section
variable {Y Z:Type} {d m:Int} {s:Rdr} {p:Pst}
theorem K2 {O:Pst→Option (Pst×Cond)} {n:B} (hO: ∀p,Dd p→DD p (O p)) (h:Dd p):DD p (zc O p n):=by
 unfold zc
 refine em h ?_
 simp only[Bool.false_eq_true,if_false,iC]
 refine DD.bind (aM h) fun y=> ?_
 refine b5 h ?_
 simp only[Bool.false_eq_true,if_false]
 exact DD.bind (hO p h) fun y=> DD.bind (aM h) fun y=> DD.some
theorem Gr {r:Int} {O:Rdr→Out (Rdr×Cond)} {O':Pst→Option (Pst×Cond)} {n:B} (hO: ∀s p,Rel d s p→rem s≤r→Sim d (rem s) (O s) (O' p)) (hD: ∀p,Dd p→DD p (O' p)) (h:Rel d s p) (hr:rem s≤r):Sim d (rem s -1) (tokenE O s n) (zc O' p n):=by
 have hk:=mB h.kind
 unfold tokenE zc
 simp only[iC,mJ]
 by_cases hb:bX s ⟨#[91]⟩=true
 ·have hb':s.kind=5∧s.text=⟨#[91]⟩:=by unfold bX at hb;simpa using hb
  obtain⟨s',e1,e2,e3⟩:=h.next (by omega)
  rw[mA h,decide_eq_false (by rw[hk.2.2.2.2.1];omega),bP,Ce h (by rw[not_or];exact⟨fun h=> h (hk.2.2.2.2.2.2 hb'.1),fun h=> h.2 hb'.2⟩),bP]
  simp only[cf,ms,hb,if_true,e1,Option.map_some,Out.of_some,Out.bind_ok,Bool.false_eq_true,if_false]
  by_cases hc:bX s' ⟨#[93]⟩=true
  ·have hk2:=mB e2.kind
   have hc':s'.kind=5∧s'.text=⟨#[93]⟩:=by unfold bX at hc;simpa using hc
   obtain⟨s2,f1,f2,f3⟩:=e2.next (by omega)
   unfold gc
   rw[if_pos hc,tC e2,hc]
   simp only[Option.map_some,bP,if_true,de,hc,ej,f1,Out.of_some,Out.bind_ok]
   exact bz f2 (by first | omega | (simp only at*;omega))
  ·have hc:bX s' ⟨#[93]⟩=false:=by simpa using hc
   rw[if_neg (by simp[hc]),gc,tC e2,hc]
   simp only[Option.map_some,bP,Bool.false_eq_true,if_false]
   refine Sim.bind (m1:=rem s') (hO s' _ e2 (by omega)) (fun s2 p2 y hR2 hm2=> ?_) (fun p' y hd=> ?_)
   ·exact bj hR2 (fun s3 y hR3 hm3=> bz hR3 (by first | omega | (simp only at*;omega))) (fun p' hd y=> DD.some)
   ·exact DD.bind (aM hd) fun y=> DD.some
 ·have hb:bX s ⟨#[91]⟩=false:=by simpa using hb
  simp only[cf,ms,hb,Out.of_some,Out.bind_ok,Bool.false_eq_true,if_false]
  by_cases hs:s.kind=4
  ·rw[mA h,decide_eq_true (hk.2.2.2.2.1.2 hs),bP,if_pos rfl]
   exact ze h (fun s2 p2 y hR2 hm2=> bz hR2 (by first | omega | (simp only at*;omega))) (fun p' hd y=> DD.some)
  ·rw[mA h,decide_eq_false (by rw[hk.2.2.2.2.1];exact hs),bP,if_neg (by simp)]
   have hd:=h.dead 3 s.pos (by decide)
   rw[BM h (by
    by_cases e:s.kind=5
    ·refine .inr ⟨rfl,fun e2=> ?_⟩
     unfold bX at hb
     simp[e,e2] at hb
    ·exact .inl (by rw[Ne,hk.2.2.2.2.2];exact e)),bP]
   unfold nG dg
   rw[if_neg hs]
   refine mu hd ?_
   refine b5 hd.dd ?_
   simp only[Bool.false_eq_true,if_false]
   exact DD.bind (hD _ hd.dd) fun y=> DD.bind (aM hd.dd) fun y=> DD.some
theorem CN {op:Int} (h:Rel d s p):Sim d (rem s) (pF s op) (B3 p op):=by
 unfold pF B3
 simp only[iC,mJ]
 refine cv h ⟨rfl,by decide,by decide⟩ (fun hs s' hR hm=> ?_) (fun p' hd y=> ?_)
 ·exact bj hR (fun s3 y hR3 hm3=> bz hR3 (by first | omega | (simp only at*;omega))) (fun p' hd y=> DD.some)
 ·exact DD.bind (aM hd) fun y=> DD.some
theorem Rel.deeper (h:Rel d s p) (d':Int):Rel d' s { p with deep:=d' } :=⟨h.e,rfl,h.pos,h.len,h.size,h.kind,h.fin,h.dig,h.nam,h.at_⟩
def I6 (r:Int) (A:Rdr→Bool→Out (Rdr×Pat)) (A':Pst→Option (Pst×Pat)):Prop:= ∀d s p i,Rel d s p→rem s≤r→0≤d→d+rem s≤500→i=decide (0 < d)→Sim d (rem s) (A s i) (A' p)
def P7 (r:Int) (O:Rdr→Out (Rdr×Cond)) (O':Pst→Option (Pst×Cond)):Prop:= ∀d s p,Rel d s p→rem s≤r→Sim d (rem s) (O s) (O' p)
def Yw (O':Pst→Option (Pst×Cond)):Prop:= ∀p,Dd p→DD p (O' p)
theorem IU (h:Rel d s p) {t:B} {b:Bool} (hb:bX s t=b):gc p t=some (if b then p.step else p,b):=by
 rw[gc,tC h,hb]
 cases b <;> rfl
theorem BN {t:B} (hb:bX s t=false):cf s t= .ok (s,false):=by
 rw[cf,ms,hb]
 rfl
theorem Np {t u:B} (h:bX s t=true) (hn:t≠u):bX s u=false:=by
 unfold bX at h ⊢
 simp at h ⊢
 intro _ e
 exact hn (h.2.symm.trans e)
theorem QX {r:Int} {A:Rdr→Bool→Out (Rdr×Pat)} {A':Pst→Option (Pst×Pat)} {O:Rdr→Out (Rdr×Cond)} {O':Pst→Option (Pst×Cond)} (hA:I6 (r -1) A A') (hO:P7 r O O') (hD:Yw O') (h:Rel d s p) (hr:rem s≤r) (h0:0≤d) (h5:d+rem s≤500):
 Sim d (rem s -1) (itemE A O s) (RW A' O' p):=by
 have hr0:=h.rem0
 have hk:=mB h.kind
 unfold itemE RW
 simp only[iC,mJ]
 by_cases hb:bX s ⟨#[40]⟩=true
 ·have hb':s.kind=5∧s.text=⟨#[40]⟩:=by unfold bX at hb;simpa using hb
  obtain⟨s',e1,e2,e3⟩:=h.next (by omega)
  have e20:=e2.rem0
  rw[BN (Np hb (by decide)),Out.bind_ok,if_neg (by simp),BN (Np hb (by decide)),Out.bind_ok,if_neg (by simp),IU h hb,bP]
  simp only[cf,ms,hb,if_true,e1,Option.map_some,Out.of_some,Out.bind_ok,show p.step.deep=d from h.deep]
  rw[if_pos (by omega)]
  have hA1:=hA (d+1) s' { p.step with deep:=d+1 } true (e2.deeper (d+1)) (by omega) (by omega) (by omega) (by symm;rw[decide_eq_true_eq];omega)
  cases hE:A s' true with
  | ok q=>
    rw[hE] at hA1
    obtain⟨p2,f1,f2,f3⟩:=hA1
    rw[f1,bP,Out.bind_ok]
    simp only[f2.deep]
    rw[if_pos (by omega)]
    have f4:=f2.deeper d
    rw[show d+1 -1=d by omega]
    exact bj f4 (fun s3 y hR3 hm3=> bz hR3 (by first | omega | (simp only at*;omega))) (fun p' hd y=> DD.some)
  | err f=>
    rw[hE] at hA1
    obtain⟨p2,y,f1,f2⟩:=hA1
    rw[f1,bP,Out.bind_err]
    simp only[f2.deep]
    rw[if_pos (by omega)]
    have f3:Dead f d { p2 with deep:=d+1 -1 } :=⟨f2.e,f2.fail,f2.ne,by show d+1 -1=d;omega,f2.now⟩
    exact mu f3 (DD.bind (aM f3.dd) fun y=> DD.some)
  | no=> rw[hE] at hA1;exact hA1.elim
 ·have hb:bX s ⟨#[40]⟩=false:=by simpa using hb
  rw[IU h hb,bP]
  simp only[Bool.false_eq_true,if_false]
  refine be h (fun hs s' hR hm=> ?_) (fun hs=> ?_)
  ·simp only[if_true]
   exact(CN hR).mono (by omega)
  ·simp only[Bool.false_eq_true,if_false]
   refine be h (fun hs s' hR hm=> ?_) (fun hs=> ?_)
   ·simp only[if_true]
    exact(CN hR).mono (by omega)
   ·rw[BN hb,Out.bind_ok]
    simp only[Bool.false_eq_true,if_false]
    refine CM h (fun e=> ?_) (fun e=> ?_)
    ·have e':s.kind=2:=hk.2.2.1.1 e
     rw[if_pos e',if_pos rfl]
     refine cv h ⟨rfl,by decide,by decide⟩ (fun hs s' hR hm=> ?_) (fun p' hd y=> ?_)
     ·refine bj hR (fun s3 y hR3 hm3=> ?_) (fun p' hd y=> K2 hD hd)
      exact(Gr (hO d) hD hR3 (by simp only at*;omega)).mono (by simp only at*;omega)
     ·exact DD.bind (aM hd) fun y=> K2 hD hd
    ·have e': ¬s.kind=2:=fun h=> e (hk.2.2.1.2 h)
     rw[if_neg e',if_neg (by simp)]
     exact Gr (hO d) hD h hr
theorem Ui (h:Rel d s p) {k:Rdr×Option (Int×Int)→Out (Rdr×Y)} {g:Pst×Option (Int×Int)→Option (Pst×Y)} (h1: ∀s' p' x,Rel d s' p'→rem s' < rem s→Sim d m (k (s',some x)) (g (p',some x))) (h3:Sim d m (k (s,none)) (g (p,none)))
 (h2:0 < rem s→ ∀p',Dd p'→ ∀y,DD p' (g (p',y))):Sim d m ((LT s).bind k) ((Wo p s.pos).bind g):=by
 have hr0:=h.rem0
 unfold LT Wo
 rw[ph,Out.bind_bind]
 refine be h (fun hs s' hR hm=> ?_) (fun hs=> ?_)
 ·simp only[if_true,bP,Out.bind_ok]
  exact h1 _ _ _ hR hm
 simp only[Bool.false_eq_true,if_false]
 rw[ph,Out.bind_bind]
 refine be h (fun hs s' hR hm=> ?_) (fun hs=> ?_)
 ·simp only[if_true,bP,Out.bind_ok]
  exact h1 _ _ _ hR hm
 simp only[Bool.false_eq_true,if_false]
 rw[ph,Out.bind_bind]
 refine be h (fun hs s' hR hm=> ?_) (fun hs=> ?_)
 ·simp only[if_true,bP,Out.bind_ok]
  exact h1 _ _ _ hR hm
 simp only[Bool.false_eq_true,if_false]
 rw[ph,Out.bind_bind]
 refine be h (fun hs s' hR hm=> ?_) (fun hs=> ?_)
 ·simp only[if_true,iC,mJ]
  have hR0:=hR.rem0
  have h2':=h2 (by omega)
  unfold Ax
  simp only[iC,mJ,ph,Out.bind_bind]
  refine cw hR (by decide) (fun s2 lo hR2 hm2=> ?_) (fun p' hd y=> ?_)
  ·refine be hR2 (fun hs s3 hR3 hm3=> ?_) (fun hs=> ?_)
   ·simp only[if_true]
    have hk3:=mB hR3.kind
    by_cases hc:bX s3 ⟨#[125]⟩=true
    ·have hc':s3.kind=5∧s3.text=⟨#[125]⟩:=by unfold bX at hc;simpa using hc
     rw[if_pos hc,mA hR3,decide_eq_false (by rw[hk3.2.2.2.1];omega),bP,if_neg (by simp)]
     simp only[ph,Out.bind_bind,bP,Out.bind_ok]
     refine bj hR3 (fun s4 y hR4 hm4=> h1 _ _ _ hR4 (by simp only at*;omega)) (fun p' hd y=> h2' p' hd _)
    ·have hc:bX s3 ⟨#[125]⟩=false:=by simpa using hc
     rw[if_neg (by simp[hc])]
     by_cases hk:s3.kind=3
     ·rw[mA hR3,decide_eq_true (hk3.2.2.2.1.2 hk),bP,if_pos rfl]
      simp only[ph,Out.bind_bind]
      refine cw hR3 (by decide) (fun s4 hi hR4 hm4=> ?_) (fun p' hd y=> ?_)
      ·by_cases hl:hi < lo
       ·rw[if_pos hl,if_pos hl]
        have hd:=hR4.dead 8 s.pos (by decide)
        rw[Out.bind_err]
        exact mu hd (DD.bind (aM hd.dd) fun y=> h2' _ hd.dd _)
       ·rw[if_neg hl,if_neg hl]
        simp only[ph,Out.bind_bind,bP,Out.bind_ok]
        refine bj hR4 (fun s4 y hR4 hm4=> h1 _ _ _ hR4 (by simp only at*;omega)) (fun p' hd y=> h2' p' hd _)
      ·have e: (if y < lo then EE p' 8 s.pos else p')=p':=by
        split
        ·rw[EE,if_neg hd.e]
        ·rfl
       rw[e]
       exact DD.bind (aM hd) fun y=> h2' p' hd _
     ·rw[mA hR3,decide_eq_false (by rw[hk3.2.2.2.1];exact hk),bP,if_neg (by simp)]
      have hd:=hR3.dead 3 s3.pos (by decide)
      rw[BM hR3 (by
       by_cases e:s3.kind=5
       ·refine .inr ⟨rfl,fun e2=> ?_⟩
        unfold bX at hc
        simp[e,e2] at hc
       ·exact .inl (by rw[Ne,hk3.2.2.2.2.2];exact e))]
      unfold numberE dg
      rw[if_neg hk]
      simp only[Out.bind_err,bP]
      exact mu hd (h2' _ hd.dd _)
   ·simp only[Bool.false_eq_true,if_false,ph,Out.bind_bind,bP,Out.bind_ok]
    refine bj hR2 (fun s4 y hR4 hm4=> h1 _ _ _ hR4 (by simp only at*;omega)) (fun p' hd y=> h2' p' hd _)
  ·simp only
   refine b5 hd ?_
   simp only[Bool.false_eq_true,if_false,ph,bP]
   exact DD.bind (aM hd) fun y=> h2' p' hd _
 ·simp only[Bool.false_eq_true,if_false,bP,Out.bind_ok]
  exact h3
theorem EP {k:Nat} {x:Pat} (h:Dd p) (hk:1≤k):DD p (qB k p x):=by
 obtain _ | k:=k
 ·omega
 rw[qB,if_pos h.e]
 exact DD.some
theorem AI: ∀ (k:Nat) (s:Rdr) (p:Pst) (x:Pat),Rel d s p→rem s+2≤k→Sim d (rem s) (iB k s x) (qB k p x)
 | 0,s,p,x,h,hk=> by have:=h.rem0;omega
 | k+1,s,p,x,h,hk=> by
   have h0:=h.rem0
   rw[iB,qB,if_neg (by simp[h.e]),h.now,bP]
   refine Ui h (fun s' p' x hR hm=> ?_) ?_ (fun hr p' hd y=> ?_)
   ·have:=hR.rem0
    exact(AI k s' p' _ hR (by omega)).mono (by omega)
   ·exact bz h (Int.le_refl _)
   ·rcases y with _ | y
    ·exact DD.some
    ·exact EP hd (by omega)
theorem Nk {r:Int} {A:Rdr→Bool→Out (Rdr×Pat)} {A':Pst→Option (Pst×Pat)} {O:Rdr→Out (Rdr×Cond)} {O':Pst→Option (Pst×Cond)} (hA:I6 (r -1) A A') (hO:P7 r O O') (hD:Yw O') (h:Rel d s p) (hr:rem s≤r) (h0:0≤d) (h5:d+rem s≤500):
 Sim d (rem s -1) (repE A O s) (Uq A' O' p):=by
 unfold repE Uq
 refine Sim.bind (QX hA hO hD h hr h0 h5) (fun s2 p2 y hR2 hm2=> ?_) (fun p' y hd=> EP hd (by decide))
 have:=hR2.rem0
 exact(AI 500 s2 p2 y hR2 (by omega)).mono hm2
theorem P0 (h:Rel d s p) (h0:0≤d) {i:Bool} (hi:i=decide (0 < d)): ∃b,mq s i=some b∧yJ p=some b:=by
 have hk:=mB h.kind
 have hf:=h.fin
 have hz:=h.size
 unfold mq yJ
 rw[h.now,bP,if_neg (show ¬ (p.e≠0) by simp[h.e])]
 by_cases h4:s.kind=4
 ·rw[if_pos h4]
  refine⟨true,rfl,?_⟩
  have: ¬kR s.kind=110:=by rw[hk.2.2.1];omega
  simp only
  rw[if_neg this,decide_eq_true (.inl (hk.2.2.2.2.1.2 h4))]
 rw[if_neg h4]
 by_cases h2:s.kind=2
 ·rw[if_pos h2]
  simp only
  rw[if_pos (hk.2.2.1.2 h2)]
  have hp:Ds s=some (bV s.txt s.fin.toNat).1:=by rw[Ds,if_pos ⟨hf,by omega⟩]
  have hn:RD p=some (QJ (bV s.txt s.fin.toNat).1):=by
   have h1:=h.at_
   rw[if_neg (by omega),qp (by omega)] at h1
   have hl:p.pos.toNat+2≤p.l.length:=by
    have:=congrArg List.length h1
    simp at this
    omega
   have hpos:=h.pos
   have hlen:=h.len
   rw[RD,if_pos ⟨h.pos,by omega,h.len⟩,show(min (p.pos+1) ((p.l.length:Int) -1)).toNat=p.pos.toNat+1 by omega]
   have:=congrArg (fun l=> l[1]?) h1
   simpa [List.getElem?_drop] using this
  rw[hp,hn]
  refine⟨_,rfl,?_⟩
  simp only[Option.map_some]
  congr 1
  have hr:=jO (s:=s.txt) (i:=s.fin.toNat) (by omega)
  have hk2:=mB ⟨hr.1,hr.2.1⟩
  have ht:d6 s Gp=QM s.text:=by
   unfold d6 QM Gp
   rw[Bool.eq_iff_iff]
   simp only[Bool.and_eq_true,decide_eq_true_eq,List.any_cons,List.any_nil,Bool.or_false,Bool.or_eq_true,h2,true_and]
   constructor
   ·rintro(e | e | e | e)
    ·exact .inr (.inl e)
    ·exact .inr (.inr (.inl e))
    ·exact .inr (.inr (.inr e))
    ·exact .inl e
   ·rintro(e | e | e | e)
    ·exact .inr (.inr (.inr e))
    ·exact .inl e
    ·exact .inr (.inl e)
    ·exact .inr (.inr (.inl e))
  rw[ht,hi,h.deep,Bool.or_comm]
  congr 1
  unfold QJ
  rw[Bool.eq_iff_iff]
  simp[hk2.2.2.2.2.2]
 ·rw[if_neg h2]
  simp only
  rw[if_neg (by rw[hk.2.2.1];exact h2)]
  refine⟨_,rfl,?_⟩
  congr 1
  unfold bX
  rw[Bool.eq_iff_iff]
  simp only[hk.2.2.2.2.1,hk.2.2.2.2.2,h4,false_or,decide_eq_true_eq,Bool.or_eq_true,Bool.and_eq_true]
  constructor
  ·rintro⟨a,b | b | b | b⟩ <;> simp[a,b]
  ·rintro(((⟨a,b⟩ | ⟨a,b⟩) | ⟨a,b⟩) | ⟨a,b⟩) <;> simp[a,b]
theorem PN {g:Bool→Option (Pst×Y)} (h:Dd p) (h1:DD p (g false)):DD p ((yJ p).bind g):=by
 obtain⟨t,ht⟩:=h.now
 rw[yJ,ht,bP,if_pos h.e]
 exact h1
section
variable {r:Int} {A:Rdr→Bool→Out (Rdr×Pat)} {A':Pst→Option (Pst×Pat)} {O:Rdr→Out (Rdr×Cond)} {O':Pst→Option (Pst×Cond)}
theorem EO {k:Nat} {acc:List Pat} (h:Dd p) (hk:1≤k):DD p (qt A' O' k p acc):=by
 obtain _ | k:=k
 ·omega
 rw[qt]
 refine PN h ?_
 exact DD.some
theorem MU (h:Rel d s p) {i:Bool} (hb:mq s i=some true):0 < rem s:=by
 have hf:=h.fin
 unfold rem
 split
 ·rename_i hk
  have hk':=h.kind
  unfold mq at hb
  rw[if_neg (by omega),if_neg (by omega)] at hb
  unfold bX at hb
  rw[decide_eq_false (by omega)] at hb
  simp at hb
 ·omega
end
section
variable {r:Int} {A:Rdr→Bool→Out (Rdr×Pat)} {A':Pst→Option (Pst×Pat)} {O:Rdr→Out (Rdr×Cond)} {O':Pst→Option (Pst×Cond)}
theorem AH (hA:I6 (r -1) A A') (hO:P7 r O O') (hD:Yw O') (h0:0≤d) {i:Bool} (hi:i=decide (0 < d)): ∀ (k:Nat) (s:Rdr) (p:Pst) (acc:List Pat),Rel d s p→rem s≤r→d+rem s≤500→rem s+2≤k→Sim d (rem s) (hZ A O i k s acc) (qt A' O' k p acc)
 | 0,s,p,acc,h,hr,h5,hk=> by have:=h.rem0;omega
 | k+1,s,p,acc,h,hr,h5,hk=> by
   rw[hZ,qt]
   obtain⟨b,b1,b2⟩:=P0 h h0 hi
   rw[b1,b2]
   simp only[Out.of_some,Out.bind_ok,bP]
   cases b with
   | true=>
     have h1:=MU h b1
     simp only[if_true]
     refine Sim.bind (Nk hA hO hD h hr h0 h5) (fun s2 p2 y hR2 hm2=> ?_) (fun p' y hd=> EO hd (by omega))
     exact(AH hA hO hD h0 hi k s2 p2 _ hR2 (by omega) (by omega) (by omega)).mono (by omega)
   | false=>
     simp only[Bool.false_eq_true,if_false]
     exact bz h (Int.le_refl _)
theorem Nj (hA:I6 (r -1) A A') (hO:P7 r O O') (hD:Yw O') (h:Rel d s p) (hr:rem s≤r) (h0:0≤d) (h5:d+rem s≤500) {i:Bool} (hi:i=decide (0 < d)):Sim d (rem s -1) (seqE A O s i) (Um A' O' p):=by
 unfold seqE Um
 simp only[iC,mJ]
 refine Sim.bind (Nk hA hO hD h hr h0 h5) (fun s2 p2 y hR2 hm2=> ?_) (fun p' y hd=> DD.bind (EO hd (by decide)) fun y=> DD.some)
 have:=hR2.rem0
 exact Sim.bind (AH hA hO hD h0 hi 500 s2 p2 _ hR2 (by omega) (by omega) (by omega)) (fun s3 p3 y hR3 hm3=> bz hR3 (by first | omega | (simp only at*;omega))) (fun p' y hd=> DD.some)
theorem ER {k:Nat} {acc:List Pat} (h:Dd p) (hk:1≤k):DD p (qU A' O' k p acc):=by
 obtain _ | k:=k
 ·omega
 rw[qU]
 refine b5 h ?_
 exact DD.some
theorem AL (hA:I6 (r -1) A A') (hO:P7 r O O') (hD:Yw O') (h0:0≤d) {i:Bool} (hi:i=decide (0 < d)): ∀ (k:Nat) (s:Rdr) (p:Pst) (acc:List Pat),Rel d s p→rem s≤r→d+rem s≤500→rem s+2≤k→Sim d (rem s) (jd A O i k s acc) (qU A' O' k p acc)
 | 0,s,p,acc,h,hr,h5,hk=> by have:=h.rem0;omega
 | k+1,s,p,acc,h,hr,h5,hk=> by
   rw[jd,qU]
   refine be h (fun hs s' hR hm=> ?_) (fun hs=> ?_)
   ·have h1:=hR.rem0
    simp only[if_true]
    refine Sim.bind (Nj hA hO hD hR (by omega) h0 (by omega) hi) (fun s2 p2 y hR2 hm2=> ?_) (fun p' y hd=> ER hd (by omega))
    exact(AL hA hO hD h0 hi k s2 p2 _ hR2 (by omega) (by omega) (by omega)).mono (by omega)
   ·simp only[Bool.false_eq_true,if_false]
    exact bz h (Int.le_refl _)
theorem Uj (hA:I6 (r -1) A A') (hO:P7 r O O') (hD:Yw O'):I6 r (altE A O) (Vo A' O'):=by
 intro d s p i h hr h0 h5 hi
 unfold altE Vo
 simp only[iC,mJ]
 refine Sim.bind (Nj hA hO hD h hr h0 h5 hi) (fun s2 p2 y hR2 hm2=> ?_) (fun p' y hd=> DD.bind (ER hd (by decide)) fun y=> DD.some)
 have:=hR2.rem0
 exact Sim.bind (AL hA hO hD h0 hi 500 s2 p2 _ hR2 (by omega) (by omega) (by omega)) (fun s3 p3 y hR3 hm3=> bz hR3 (by first | omega | (simp only at*;omega))) (fun p' y hd=> DD.some)
end
theorem JL: ∀n:Nat,I6 ((n:Int) -1) (nl n) (Vn n)
 | 0=> fun d s p i h hr h0 h5 hi=> by have:=h.rem0;omega
 | n+1=> by
   show I6 _ (altE (nl n) (orE (iD (n+1)))) (Vo (Vn n) (Uy (DU (n+1))))
   rw[show((n+1:Nat):Int) -1=(n:Int) by omega]
   exact Uj (JL n) (fun d s p h hr=> QZ s p h (by omega)) (fun p h=> U4 h)
theorem Jg (h:Rel d s p) (w:B):NF p 110 w=some (d6 s [w]):=by
 rw[NF,if_neg (by simp[h.e]),h.now,Option.map_some,d6]
 congr 1
 rw[Bool.eq_iff_iff]
 have:=(mB h.kind).2.2.1
 simp[this]
theorem Kq (w x:B) (l:List B):eW (x::l) w=if w=x then 0 else if eW l w < 0 then -1 else eW l w+1:=by
 show(if decide (w=x)=true then(0:Int) else if eW l w < 0 then -1 else eW l w+1)=_
 by_cases e:w=x <;> simp[e]
theorem pB: ∀ (l:List B) (w:B),eW l w= -1∨0≤eW l w
 | [],w=> .inl rfl
 | x::l,w=> by
   have:=pB l w
   rw[Kq]
   split
   ·exact .inr (by omega)
   ·split
    ·exact .inl rfl
    ·exact .inr (by omega)
theorem Eq (w x:B) (l:List B):eW (x::l) w=if w=x then 0 else if eW l w= -1 then -1 else eW l w+1:=by
 have:=pB l w
 rw[Kq]
 split
 ·rfl
 ·by_cases h:eW l w < 0
  ·rw[if_pos h,if_pos (by omega)]
  ·rw[if_neg h,if_neg (by omega)]
theorem qj (h:Rel d s p): ∀ (l:List B) (i:Int),Gh p l i=some (if s.kind=2∧eW l s.text≠ -1 then eW l s.text+i else -1)
 | [],i=> by
   have:eW [] s.text= -1:=rfl
   rw[Gh,this,if_neg (by simp)]
 | w::l,i=> by
   rw[Gh,Jg h,bP,Eq]
   have hr:=pB l s.text
   unfold d6
   by_cases hk:s.kind=2
   ·by_cases e:s.text=w
    ·simp[hk,e]
    ·simp only[hk,e,decide_true,Bool.true_and,List.any_cons,decide_false,List.any_nil,Bool.or_self,Bool.false_eq_true,if_false,qj h l (i+1),true_and]
     rcases hr with hr | hr
     ·simp[hr]
     ·have h1:eW l s.text≠ -1:=by omega
      have h2:eW l s.text+1≠ -1:=by omega
      simp only[h1,h2,ne_eq,not_false_eq_true,if_true,if_false]
      congr 1
      omega
   ·simp only[hk,decide_false,Bool.false_and,Bool.false_eq_true,if_false,qj h l (i+1),false_and]
theorem xi (l:List B) (hk:s.kind=2):d6 s l=decide (eW l s.text≠ -1):=by
 unfold d6
 rw[decide_eq_true hk,Bool.true_and]
 induction l with
 | nil=> rfl
 | cons x l ih=>
   have hr:=pB l s.text
   rw[List.any_cons,ih,Eq]
   by_cases e:s.text=x
   ·simp[e]
   ·by_cases e2:eW l s.text= -1
    ·simp[e,e2]
    ·have:eW l s.text+1≠ -1:=by omega
     simp[e,e2,this]
theorem uV {k:Nat} {acc:List jK} (h:Dd p) (hk:1≤k):DD p (ji k p acc):=by
 obtain _ | k:=k
 ·omega
 rw[ji,if_pos h.e]
 exact DD.some
theorem yx (w:B):eW filterL w=if w=E0 then 0 else if eW (filterL.drop 1) w= -1 then -1 else eW (filterL.drop 1) w+1:=Eq w E0 _
theorem yh {s':Rdr} (h:pA s=some s'):ej s= .ok s':=by rw[ej,h];rfl
theorem xJ {k:Nat} {acc:List jK} {b:Bool} (ih: ∀ (s:Rdr) (p:Pst) (acc:List jK),Rel d s p→rem s+2≤k→Sim d (rem s) (dS k s acc) (ji k p acc)) (h:Rel d s p) (hk:rem s+1≤k) (h2:s.kind=2) (hD:eW (filterL.drop 1) s.text≠ -1):
 Sim d (rem s) ((if s.kind≠2∨eW filterL s.text < 1 then Out.err (s.pos,3) else(ej s).bind fun x=> (dg x 2).bind fun n=> .ok (n.1,(⟨eW filterL s.text,b,n.2⟩:jK))).bind fun f=> dS k f.1 (acc++ [f.2]))
  ((bE p.step 110 E0).bind fun n=> ji k n.1 (acc++ [⟨eW (filterL.drop 1) s.text+1,b,n.2⟩])):=by
 have h0:=h.rem0
 have hr:=pB (filterL.drop 1) s.text
 have hi:eW filterL s.text=eW (filterL.drop 1) s.text+1:=by rw[yx,if_neg (h.nam h2),if_neg hD]
 rw[if_neg (by rw[hi];omega),hi]
 obtain⟨s',e1,e2,e3⟩:=h.next (by omega)
 have h1:=e2.rem0
 rw[yh e1]
 simp only[Out.bind_ok,Out.bind_bind]
 refine cv e2 ⟨rfl,by decide,by decide⟩ (fun hs s3 hR hm=> ?_) (fun p' hd y=> uV hd (by omega))
 exact(ih s3 _ _ hR (by omega)).mono (by omega)
theorem rf: ∀ (k:Nat) (s:Rdr) (p:Pst) (acc:List jK),Rel d s p→rem s+2≤k→Sim d (rem s) (dS k s acc) (ji k p acc)
 | 0,s,p,acc,h,hk=> by have:=h.rem0;omega
 | k+1,s,p,acc,h,hk=> by
   have h0:=h.rem0
   rw[dS,ji,if_neg (show ¬ (p.e≠0) by simp[h.e])]
   unfold Ez
   simp only[mJ]
   cases hb:bX s ⟨#[33]⟩ with
   | true=>
     have hb':s.kind=5∧s.text=⟨#[33]⟩:=by unfold bX at hb;simpa using hb
     obtain⟨s',e1,e2,e3⟩:=h.next (by omega)
     have h1:=e2.rem0
     rw[IU h hb,bP,cf,ms,hb,e1]
     simp only[Bool.true_or,if_true,Option.map_some,Out.of_some,Out.bind_ok,qj e2,bP]
     by_cases hc:s'.kind=2∧eW (filterL.drop 1) s'.text≠ -1
     ·have hr:=pB (filterL.drop 1) s'.text
      rw[if_pos hc,if_neg (show ¬ (eW (filterL.drop 1) s'.text+1= -1) by omega)]
      exact(xJ (rf k) e2 (by omega) hc.1 hc.2).mono (by omega)
     ·rw[if_neg hc,if_pos rfl]
      have:s'.kind≠2∨eW filterL s'.text < 1:=by
       by_cases h2:s'.kind=2
       ·right
        rw[yx,if_neg (e2.nam h2),if_pos (by
         by_cases e:eW (filterL.drop 1) s'.text= -1
         ·exact e
         ·exact absurd ⟨h2,e⟩ hc)]
        omega
       ·exact .inl h2
      rw[if_pos this,wm,e2.now]
      exact⟨_,_,rfl,e2.dead 3 s'.pos (by decide)⟩
   | false=>
     rw[IU h hb,bP,BN hb]
     simp only[Bool.false_or,Bool.false_eq_true,if_false,Out.bind_ok,qj h,bP]
     by_cases hc:s.kind=2∧eW (filterL.drop 1) s.text≠ -1
     ·have hr:=pB (filterL.drop 1) s.text
      have hw:d6 s filterL=true:=by
       rw[xi _ hc.1,decide_eq_true_eq,yx,if_neg (h.nam hc.1),if_neg hc.2]
       omega
      rw[hw,if_pos rfl,if_pos hc,if_neg (show ¬ (eW (filterL.drop 1) s.text+1= -1) by omega)]
      exact xJ (rf k) h (by omega) hc.1 hc.2
     ·have hw:d6 s filterL=false:=by
       by_cases h2:s.kind=2
       ·rw[xi _ h2,decide_eq_false_iff_not,yx,if_neg (h.nam h2),if_pos (by
         by_cases e:eW (filterL.drop 1) s.text= -1
         ·exact e
         ·exact absurd ⟨h2,e⟩ hc)]
        simp
       ·unfold d6
        simp[h2]
      rw[hw,if_neg (by simp),if_neg hc,if_pos rfl]
      exact bz h (Int.le_refl _)
theorem OK (h:Rel d s p):Sim d (rem s) (nH s) (zd p):=by
 unfold nH zd
 rw[Jg h,bP]
 show Sim d (rem s) (if d6 s [nz] then _ else _) (if d6 s [nz] then _ else _)
 cases hb:d6 s [nz] with
 | true=>
   have hk:s.kind=2:=by unfold d6 at hb;simp at hb;omega
   obtain⟨s',e1,e2,e3⟩:=h.next (by omega)
   simp only[if_true]
   rw[yh e1,Out.bind_ok,qj e2,bP]
   by_cases hc:s'.kind=2∧eW cM s'.text≠ -1
   ·have hr:=pB cM s'.text
    rw[if_pos hc,if_neg (show ¬ (eW cM s'.text+0= -1) by omega),xi _ hc.1,decide_eq_true hc.2,if_pos rfl]
    obtain⟨s2,f1,f2,f3⟩:=e2.next (by omega)
    rw[dg,if_pos hc.1,yh f1]
    simp only[Out.map_ok,Int.add_zero]
    exact bz f2 (by first | omega | (simp only at*;omega))
   ·have hw:d6 s' cM=false:=by
     by_cases h2:s'.kind=2
     ·rw[xi _ h2,decide_eq_false_iff_not]
      exact fun e=> hc ⟨h2,e⟩
     ·unfold d6
      simp[h2]
    rw[if_neg hc,if_pos rfl,hw,if_neg (by simp),wm,e2.now]
    exact⟨_,_,rfl,e2.dead 3 s'.pos (by decide)⟩
 | false=>
   simp only[Bool.false_eq_true,if_false]
   exact bz h (Int.le_refl _)
theorem EN (h:Dd p):DD p (zd p):=by
 unfold zd
 exact oo h DD.some
theorem OL {t:B} (ht:t.size≤400):match queryE 500 ⟨t,0,0,E0,0⟩ with
 | .ok r=> ∃p,Dr (sv t 0)=some (p,r.2)∧p.e=0
 | .err f=> ∃p q,Dr (sv t 0)=some (p,q)∧p.e=f.2∧p.fail=f.1∧f.2≠0
 | .no=> False:=by
 have hl:=jO (s:=t) (i:=0) (Nat.zero_le _)
 have hR:Rel 0 ⟨t,(bV t 0).2,(bV t 0).1.kind,(bV t 0).1.text,(bV t 0).1.pos⟩ ⟨sv t 0,0,0,0,0⟩:=⟨rfl,rfl,Int.le_refl _,by have:=Gn t.size t 0 (Nat.zero_le _) (by omega);simp only;omega,ht,⟨hl.1,hl.2.1⟩,⟨hl.2.2.1,hl.2.2.2.1⟩,Ki,Kh,by
  show List.drop 0 (sv t 0)=_
  rw[List.drop_zero,qp (Nat.zero_le _)]
  rfl⟩
 have hn:ej ⟨t,0,0,E0,0⟩= .ok ⟨t,(bV t 0).2,(bV t 0).1.kind,(bV t 0).1.text,(bV t 0).1.pos⟩:=by
  refine yh ?_
  rw[pA,if_pos ⟨⟨Int.le_refl _,by simp⟩,by simp only;omega⟩]
  rfl
 have hr:=hR.rem0
 have main:Sim 0 (rem ⟨t,(bV t 0).2,(bV t 0).1.kind,(bV t 0).1.text,(bV t 0).1.pos⟩) (queryE 500 ⟨t,0,0,E0,0⟩) (Dr (sv t 0)):=by
  unfold queryE Dr
  rw[hn,Out.bind_ok]
  refine Sim.bind (JL 500 0 _ _ false hR (by omega) (Int.le_refl _) (by omega) rfl) (fun s2 p2 y hR2 hm2=> ?_) (fun p' y hd=> ?_)
  ·have hr2:=hR2.rem0
   have tl: ∀ (g:Glob) (s3:Rdr) (p3:Pst),Rel 0 s3 p3→rem s3≤rem s2→Sim 0 (rem ⟨t,(bV t 0).2,(bV t 0).1.kind,(bV t 0).1.text,(bV t 0).1.pos⟩) ((dS 500 s3 []).bind fun f=> (nH f.1).bind fun z=> if z.1.kind=0 then .ok (z.1,(⟨y,g,f.2,z.2⟩:Qry)) else .err (z.1.pos,3))
    ((ji 500 p3 []).bind fun f=> (zd f.1).bind fun z=> (sB z.1 101).bind fun b=> if b∨z.1.e≠0 then some (z.1,(⟨y,g,f.2,z.2⟩:Qry)) else(wm z.1).map fun w=> (w,⟨y,g,f.2,z.2⟩)):=by
    intro g s3 p3 hR3 hm3
    have hr3:=hR3.rem0
    refine Sim.bind (rf 500 s3 p3 [] hR3 (by omega)) (fun s4 p4 y4 hR4 hm4=> ?_) (fun p' y hd=> ?_)
    ·refine Sim.bind (OK hR4) (fun s5 p5 y5 hR5 hm5=> ?_) (fun p' y hd=> ?_)
     ·simp only
      rw[mA hR5,bP]
      have hk:=mB hR5.kind
      by_cases hz:s5.kind=0
      ·rw[if_pos hz,if_pos (.inl (by rw[decide_eq_true_eq];exact hk.1.2 hz))]
       exact bz hR5 (by first | omega | (simp only at*;omega))
      ·rw[if_neg hz,if_neg (by
        rw[not_or]
        refine⟨?_,by simp[hR5.e]⟩
        rw[decide_eq_true_eq,hk.1]
        exact hz),wm,hR5.now]
       exact⟨_,_,rfl,hR5.dead 3 s5.pos (by decide)⟩
     ·simp only
      refine em hd ?_
      rw[if_pos (.inr hd.e)]
      exact DD.some
    ·refine DD.bind (EN hd) fun y=> ?_
     simp only
     refine em hd ?_
     rw[if_pos (.inr hd.e)]
     exact DD.some
   refine be hR2 (fun hs s' hR hm=> ?_) (fun hs=> ?_)
   ·have hr3:=hR.rem0
    simp only[if_true]
    refine Sim.bind (QY s' _ hR (by omega)) (fun s3 p3 y3 hR3 hm3=> ?_) (fun p' y hd=> ?_)
    ·exact tl y3 s3 p3 hR3 (by simp only at*;omega)
    ·refine DD.bind (uV hd (by decide)) fun y=> DD.bind (EN hd) fun y=> ?_
     simp only
     refine em hd ?_
     rw[if_pos (.inr hd.e)]
     exact DD.some
   ·simp only[Bool.false_eq_true,if_false,Out.bind_ok,bP]
    exact tl fh s2 p2 hR2 (Int.le_refl _)
  ·refine b5 hd ?_
   simp only[Bool.false_eq_true,if_false,bP]
   refine DD.bind (uV hd (by decide)) fun y=> DD.bind (EN hd) fun y=> ?_
   simp only
   refine em hd ?_
   rw[if_pos (.inr hd.e)]
   exact DD.some
 cases hE:queryE 500 ⟨t,0,0,E0,0⟩ with
 | ok r=>
   rw[hE] at main
   obtain⟨p,h1,h2,_⟩:=main
   exact⟨p,h1,h2.e⟩
 | err f=>
   rw[hE] at main
   obtain⟨p,y,h1,h2⟩:=main
   exact⟨p,y,h1,h2.e,h2.fail,h2.ne⟩
 | no=> rw[hE] at main;exact main.elim
def Ro (s:B):Option (Qry×Int×Int):=if 400 < s.size then some (Bl,0,2) else match queryE 500 ⟨s,0,0,E0,0⟩ with
 | .ok r=> some (r.2,0,0)
 | .err f=> some (Bl,f.1,f.2)
 | .no=> none
theorem Dt (s:B): ∃r,If s=some r∧Ro s=some r:=by
 unfold If Ro
 by_cases h:400 < s.size
 ·rw[if_pos h,if_pos h]
  exact⟨_,rfl,rfl⟩
 ·rw[if_neg h,if_neg h,Q3,bP]
  have:=OL (t:=s) (by omega)
  cases hE:queryE 500 ⟨s,0,0,E0,0⟩ with
  | ok r=>
    rw[hE] at this
    obtain⟨p,h1,h2⟩:=this
    refine⟨(r.2,0,0),?_,rfl⟩
    rw[h1,Option.map_some,if_neg (by simp[h2])]
  | err f=>
    rw[hE] at this
    obtain⟨p,q,h1,h2,h3,h4⟩:=this
    refine⟨(Bl,f.1,f.2),?_,rfl⟩
    rw[h1,Option.map_some,if_pos (by rw[h2];exact h4),h2,h3]
  | no=> rw[hE] at this;exact this.elim
end
end Go.Gv

namespace Go.Gv
open Cod (enc dec)
variable {S S0:Nat→Spc}
end Go.Gv

namespace Go.Gv
open Cod (enc dec)
variable {S S0:Nat→Spc}
end Go.Gv

namespace Go.Gv
open Go.Proofs
-- r23_Parse while id=0: live [2:, 5:p, 6:q] changed [] res [0, 2, 6, 16, 55]
end Go.Gv

namespace Go.Gv
open Cod (enc dec)
variable {S S0:Nat→Spc}
theorem Jw:Walk ov nM S a0 (fun _=> True) (enc (X:=List B)) fun _ y=> y=filterL:=by
 rintro x -
 simp[ov,nM]
 exact gq (Y:=List B) filterL (.same _) rfl
theorem Cp:Walk lv kU S a0 (fun _=> True) (enc (X:=List B)) fun _ y=> y=cM:=by
 rintro x -
 simp[lv,kU]
 exact gq (Y:=List B) cM (.same _) rfl
end Go.Gv

namespace Go.Gv
open Cod (enc dec)
variable {S S0:Nat→Spc}
mutual
def ka:Glob→Nat | .mk _ _ _ _ _ _ _ _ _ _ ks=> kw ks+1
def kw:List Glob→Nat | []=> 0 | k::ks=> max (ka k) (kw ks)
end
theorem Ah: ∀ {ks:List Glob} {k:Glob},k∈ks→ka k≤kw ks
 | x::ks,k,h=> by
   rw[kw]
   rcases List.mem_cons.1 h with rfl | h
   ·omega
   ·have:=Ah h;omega
theorem Kz {p k:Glob} (h:k∈p.kids):ka k < ka p:=by
 have:=Ah h
 cases p
 rw[ka]
 simp only at this
 omega
abbrev HS (n:Nat):Spc:=dt (a2 Glob Glob) (fun x=> ka x.1≤n∧x.1=x.2) (enc (X:=Bool)) fun _ y=> y=true
abbrev s_sameGA:Spc:=dt (a2 Glob Glob) (fun x=> x.1=x.2) (enc (X:=Bool)) fun _ y=> y=true
theorem Ch (n:Nat) (h0:S mF=HO) (h1:S dA=HS n):Walk mZ mO S (a2 Glob Glob) (fun x=> ka x.1≤n+1∧x.1=x.2) (enc (X:=Bool)) fun _ y=> y=true:=by
 rintro⟨a,b⟩ ⟨hn,e⟩
 have e:a=b:=e
 subst e
 have hn:ka a≤n+1:=hn
 have hpre: ∀k∈a.kids,ka k≤n:=fun k hk=> by have:=Kz hk;omega
 simp[mZ,mO,h0, -Bool.forall_bool]
 intro hlen
 refine aJ (X:=Unit) [2,3] [] a.kids.length (fun k _=> True) (fun _=> []) (fun _=> []) () (by simp) (by simp) (by omega) (by simp) (by simp) (by simp) (by simp) (by simp) ?_ ?_
 ·rintro k -hk -
  obtain⟨x,hx⟩:=cV hk
  have hx1:=cn hx
  obtain⟨_,hgx⟩:=List.getElem?_eq_some_iff.1 hx
  simp[h1,hk,hx,hgx,hpre x hx1, -Bool.forall_bool]
 ·rintro - -
  simp
abbrev HQ:Spc:=dt (a2 Qry Qry) (fun x=> x.1=x.2) (enc (X:=Bool)) fun _ y=> y=true
theorem LA (h0:S cj=CU) (h1:S dA=s_sameGA):Walk uY tL S (a2 Qry Qry) (fun x=> x.1=x.2) (enc (X:=Bool)) fun _ y=> y=true:=by
 rintro⟨a,b⟩ e
 have e:a=b:=e
 subst e
 simp[uY,tL,h0,h1, -Bool.forall_bool]
 intro hlen
 refine aJ (X:=Unit) [2,3] [] a.filts.length (fun k _=> True) (fun _=> []) (fun _=> []) () (by simp) (by simp) (by omega) (by simp) (by simp) (by simp) (by simp) (by simp) ?_ ?_
 ·rintro k -hk -
  obtain⟨x,hx⟩:=cV hk
  obtain⟨_,hgx⟩:=List.getElem?_eq_some_iff.1 hx
  simp[hk,hx,hgx, -Bool.forall_bool]
 ·rintro - -
  simp
theorem OX (s:B):pV s=If s:=by
 obtain⟨r,h1,h2⟩:=Dt s
 rw[h1]
 exact h2
end Go.Gv

namespace Go.Gv
open Cod (enc dec)
variable {S S0:Nat→Spc}
theorem Km:pV Iw=some (RV,0,0):=by kernel_rfl
theorem Co (h1:S du=s_eParse) (h2:S ll=wB) (h3:S iJ=De 10):Walk o5 oa S a0 (fun _=> True) (enc (X:=Bool)) fun _ y=> y=true:=by
 rintro⟨⟩ -
 have e1: (⟨#[60,115,62,32,91,119,111,114,100,61,34,84,104,101,34,37,99,93]⟩:B)=Iw:=rfl
 simp[o5,oa,h1,h2,h3, -Bool.forall_bool, -Bool.exists_bool]
 rw[e1,Km]
 refine⟨⟨_,_,_,rfl⟩,fun a a1 b hq=> ?_⟩
 simp only[Option.some.injEq,Prod.mk.injEq] at hq
 obtain⟨rfl,rfl,rfl⟩:=hq
 refine⟨fun _=> ⟨fun _=> ⟨fun _ _=> ⟨fun _=> ⟨by decide,fun p hp=> ?_⟩,rfl⟩,rfl⟩,rfl⟩,rfl⟩
 have hp:some (⟨1,⟨2,⟨#[119,111,114,100]⟩,E0,⟨#[84,104,101]⟩,E0,true, []⟩,E0,E0,0,0, []⟩:Pat)=some p:=hp
 cases hp
 refine⟨fun _=> ⟨fun _=> ⟨Pk,fun y hy=> ?_⟩,?_⟩,rfl⟩
 ·have hy:tT 10 mX=some y:=hy
  rw[D3] at hy
  cases hy
  rfl
 ·show(if qE eo mX=true then kM mX else 0)=2
  rw[if_pos GT,Mr]
end Go.Gv
