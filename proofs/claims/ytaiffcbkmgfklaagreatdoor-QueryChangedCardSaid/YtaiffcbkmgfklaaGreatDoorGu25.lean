/- A part of the framework and of the walks: V23 V24. -/
import Derived.Test.YtaiffcbkmgfklaaGreatDoorGu24
set_option linter.unusedSimpArgs false
set_option linter.unusedVariables false

namespace Go.Gv
section
variable {Y Z:Type} {d m:Int} {s:Rdr} {p:Pst}
theorem jf {α β:Type} (o:Option α) (f:α→β):o.map f=o.bind fun x=> some (f x):=by cases o <;> rfl
theorem oW {α β:Type} (o:Out α) (f:α→β):o.map f=o.bind fun x=> .ok (f x):=by cases o <;> rfl
theorem ru {α β γ:Type} (o:Option α) (f:α→Option β) (g:β→Option γ): (o.bind f).bind g=o.bind fun x=> (f x).bind g:=by cases o <;> rfl
theorem cb {α β:Type} (x:α) (f:α→Option β): (some x).bind f=f x:=rfl
theorem Z6 {E:Out (Rdr×Y)} {G:Option (Pst×Y)} (h:Sim d m (E.bind fun x=> .ok x) (G.bind fun x=> some x)):Sim d m E G:=by cases E <;> cases G <;> exact h
theorem Wt {c:UInt8} (h:48≤c.toNat∧c.toNat≤57) (n:Int):ej n c=min (10*n+ ((c.toNat:Int) -48)) 1000000:=by
 unfold ej
 omega
theorem Lp {most:Int} (hm:0≤most∧most < 1000000): ∀ (l:List UInt8),(∀c∈l,48≤c.toNat∧c.toNat≤57)→ ∀n k:Int,0≤n→0≤k→(n=k∨most < n∧most < k)→(A1 most l n=l.foldl ej k∨most < A1 most l n∧most < l.foldl ej k)
 | [],_,n,k,_,_,h=> h
 | c::l,hc,n,k,hn,hk,h=> by
   have h1:=hc c (by simp)
   rw[A1,List.foldl_cons,Wt h1]
   split
   ·refine Lp hm l (fun x hx=> hc x (by simp[hx])) _ _ (by omega) (by omega) ?_
    omega
   ·refine .inr ⟨by omega,?_⟩
    have:=Lp hm l (fun x hx=> hc x (by simp[hx])) (min (10*k+ ((c.toNat:Int) -48)) 1000000) (min (10*k+ ((c.toNat:Int) -48)) 1000000) (by omega) (by omega) (.inl rfl)
    have h2:most < min (10*k+ ((c.toNat:Int) -48)) 1000000:=by omega
    generalize min (10*k+ ((c.toNat:Int) -48)) 1000000=w at this h2
    have h3:most < A1 most l w:=by
     cases l with
     | nil=> exact h2
     | cons x l=> rw[A1,if_neg (by omega)];exact h2
    rcases this with e | e
    ·rw[←e];exact h3
    ·exact e.2
theorem OS (t:B): ∃a:Nat,t.data.toList=List.replicate a 48++ (lM t).data.toList:=by
 unfold lM
 have h1:=qb Id (s:=t) (i:=0) (Nat.zero_le _)
 refine⟨o5 Id t 0,List.ext_getElem? fun k=> ?_⟩
 rw[List.getElem?_append,List.length_replicate]
 split
 ·rename_i hk
  obtain⟨c,hc,hz⟩:=Gg Id (t.size -0) t 0 k (Nat.zero_le _) hk
  rw[Array.getElem?_toList,hc,List.getElem?_replicate,if_pos hk]
  unfold Id at hz
  simp at hz
  congr 1
  exact UInt8.toNat_inj.1 (by show c.toNat=48;omega)
 ·rename_i hk
  rw[Array.getElem?_toList,Array.getElem?_toList,ByteArray.data_extract,Array.getElem?_extract]
  have e:t.data.size=t.size:=rfl
  split
  ·congr 1;omega
  ·exact Array.getElem?_eq_none (by omega)
theorem JO: ∀a:Nat,(List.replicate a (48:UInt8)).foldl ej 0=0
 | 0=> rfl
 | a+1=> by rw[List.replicate_succ,List.foldl_cons,show ej 0 48=0 from rfl,JO a]
theorem Yx {most:Int} (hm:0≤most∧most < 1000000) {t:B} (ht:qH t=true):Sr most t=t.data.toList.foldl ej 0∨most < Sr most t∧most < t.data.toList.foldl ej 0:=by
 obtain⟨a,ha⟩:=OS t
 have hd: ∀c∈t.data.toList,48≤c.toNat∧c.toNat≤57:=by
  intro c hc
  unfold qH at ht
  rw[List.all_eq_true] at ht
  simpa using ht c hc
 rw[ha] at hd ⊢
 rw[List.foldl_append,JO]
 exact Lp hm _ (fun c hc=> hd c (by simp[hc])) 0 0 (by omega) (by omega) (.inl rfl)
theorem cI {most a:Int} {k:Rdr×Int→Out (Rdr×Y)} {g:Pst×Int→Option (Pst×Y)} (h:Rel d s p) (hm:0≤most∧most < 1000000) (h1: ∀s' y,Rel d s' p.step→rem s' < rem s→Sim d m (k (s',y)) (g (p.step,y)))
 (h2: ∀p',Dd p'→ ∀y,DD p' (g (p',y))):Sim d m ((numberE s most a).bind k) ((gg p most a).bind g):=by
 unfold numberE gg
 rw[ru,Out.bind_bind]
 refine Jo h ⟨rfl,by decide,by decide⟩ (fun hs s' hR hm'=> ?_) (fun p' hd=> ?_)
 ·have hd:=h.dig hs
  simp only
  rw[if_pos ⟨hd,by omega⟩,if_pos hd]
  simp only[cb]
  rcases Yx hm hd with e | e
  ·rw[e]
   by_cases hlt:most < s.text.data.toList.foldl ej 0
   ·rw[if_pos hlt,if_pos hlt]
    have hdd:=hR.dead 8 a (by decide)
    exact oc hdd (h2 _ hdd.dd _)
   ·rw[if_neg hlt,if_neg hlt]
    exact h1 s' _ hR hm'
  ·rw[if_pos e.1,if_pos e.2]
   have hdd:=hR.dead 8 a (by decide)
   exact oc hdd (h2 _ hdd.dd _)
 ·simp only
  rw[if_pos (show qH E0=true from rfl),cb,if_neg (by show ¬most < 0;omega)]
  exact h2 p' hd _
theorem BV {n:B} {k:Rdr×Cond→Out (Rdr×Y)} {g:Pst×Cond→Option (Pst×Y)} (h:Rel d s p) (h1: ∀s' p' y,Rel d s' p'→rem s' < rem s→Sim d m (k (s',y)) (g (p',y)))
 (h2: ∀p',Dd p'→ ∀y,DD p' (g (p',y))):Sim d m ((vw s n).bind k) ((tB p n).bind g):=by
 unfold vw tB
 simp only[jf,oW,ru,cb,Out.bind_bind,Out.bind_ok]
 repeat' first
  | exact bI (by assumption) (by first | omega | (simp only at*;omega))
  | exact DD.some
  | exact mO (by assumption)
  | exact aV (by assumption)
  | (refine bm (by assumption) (fun hs s' hR hm=> ?_) (fun hs=> ?_) <;> try simp only[↓reduceIte,Bool.false_eq_true,if_true,if_false])
  | (refine cH (by assumption) ⟨rfl,by decide,by decide⟩ (fun hs s' hR hm=> ?_) (fun p' hd y=> ?_) <;> try simp only[↓reduceIte,Bool.false_eq_true,if_true,if_false])
  | (refine br (by assumption) (fun s' y hR hm=> ?_) (fun p' hd y=> ?_) <;> try simp only[↓reduceIte,Bool.false_eq_true,if_true,if_false])
  | (refine cI (by assumption) (by decide) (fun s' y hR hm=> ?_) (fun p' hd y=> ?_) <;> try simp only[↓reduceIte,Bool.false_eq_true,if_true,if_false])
  | (refine cr (by assumption) ?_;try simp only[↓reduceIte,Bool.false_eq_true,if_true,if_false])
  | (refine qI (by assumption) ?_;try simp only[↓reduceIte,Bool.false_eq_true,if_true,if_false])
  | (refine eK (by assumption) ?_;try simp only[↓reduceIte,Bool.false_eq_true,if_true,if_false])
  | (refine DD.bind (aV (by assumption)) fun y=> ?_;try simp only[↓reduceIte,Bool.false_eq_true,if_true,if_false])
  | (refine DD.bind (ek (by assumption)) fun y=> ?_;try simp only[↓reduceIte,Bool.false_eq_true,if_true,if_false]) | exact h1 _ _ _ (by assumption) (by omega)
  | exact h2 _ (by assumption) _
theorem N5 {n:B} (h:Dd p):DD p (tB p n):=by
 unfold tB
 simp only[jf]
 repeat' first
  | exact bI (by assumption) (by first | omega | (simp only at*;omega))
  | exact DD.some
  | exact mO (by assumption)
  | exact aV (by assumption)
  | (refine bm (by assumption) (fun hs s' hR hm=> ?_) (fun hs=> ?_) <;> try simp only[↓reduceIte,Bool.false_eq_true,if_true,if_false])
  | (refine cH (by assumption) ⟨rfl,by decide,by decide⟩ (fun hs s' hR hm=> ?_) (fun p' hd y=> ?_) <;> try simp only[↓reduceIte,Bool.false_eq_true,if_true,if_false])
  | (refine br (by assumption) (fun s' y hR hm=> ?_) (fun p' hd y=> ?_) <;> try simp only[↓reduceIte,Bool.false_eq_true,if_true,if_false])
  | (refine cI (by assumption) (by decide) (fun s' y hR hm=> ?_) (fun p' hd y=> ?_) <;> try simp only[↓reduceIte,Bool.false_eq_true,if_true,if_false])
  | (refine cr (by assumption) ?_;try simp only[↓reduceIte,Bool.false_eq_true,if_true,if_false])
  | (refine qI (by assumption) ?_;try simp only[↓reduceIte,Bool.false_eq_true,if_true,if_false])
  | (refine eK (by assumption) ?_;try simp only[↓reduceIte,Bool.false_eq_true,if_true,if_false])
  | (refine DD.bind (aV (by assumption)) fun y=> ?_;try simp only[↓reduceIte,Bool.false_eq_true,if_true,if_false])
  | (refine DD.bind (ek (by assumption)) fun y=> ?_;try simp only[↓reduceIte,Bool.false_eq_true,if_true,if_false])
theorem O0 (h:Rel d s p):Sim d (rem s) (EY s) (AD p):=by
 unfold EY AD
 simp only[jf,oW,ru,cb,Out.bind_bind,Out.bind_ok]
 repeat' first
  | exact bI (by assumption) (by first | omega | (simp only at*;omega))
  | exact DD.some
  | exact mO (by assumption)
  | exact aV (by assumption)
  | (refine bm (by assumption) (fun hs s' hR hm=> ?_) (fun hs=> ?_) <;> try simp only[↓reduceIte,Bool.false_eq_true,if_true,if_false])
  | (refine cH (by assumption) ⟨rfl,by decide,by decide⟩ (fun hs s' hR hm=> ?_) (fun p' hd y=> ?_) <;> try simp only[↓reduceIte,Bool.false_eq_true,if_true,if_false])
  | (refine br (by assumption) (fun s' y hR hm=> ?_) (fun p' hd y=> ?_) <;> try simp only[↓reduceIte,Bool.false_eq_true,if_true,if_false])
  | (refine cI (by assumption) (by decide) (fun s' y hR hm=> ?_) (fun p' hd y=> ?_) <;> try simp only[↓reduceIte,Bool.false_eq_true,if_true,if_false])
  | (refine cr (by assumption) ?_;try simp only[↓reduceIte,Bool.false_eq_true,if_true,if_false])
  | (refine qI (by assumption) ?_;try simp only[↓reduceIte,Bool.false_eq_true,if_true,if_false])
  | (refine eK (by assumption) ?_;try simp only[↓reduceIte,Bool.false_eq_true,if_true,if_false])
  | (refine DD.bind (aV (by assumption)) fun y=> ?_;try simp only[↓reduceIte,Bool.false_eq_true,if_true,if_false])
  | (refine DD.bind (ek (by assumption)) fun y=> ?_;try simp only[↓reduceIte,Bool.false_eq_true,if_true,if_false])
theorem E7 {n:B} (h:Dd p):DD p (BA p n):=by
 unfold BA
 simp only[jf]
 repeat' first
  | exact bI (by assumption) (by first | omega | (simp only at*;omega))
  | exact DD.some
  | exact mO (by assumption)
  | exact aV (by assumption)
  | exact N5 (by assumption)
  | (refine bm (by assumption) (fun hs s' hR hm=> ?_) (fun hs=> ?_) <;> try simp only[↓reduceIte,Bool.false_eq_true,if_true,if_false])
  | (refine cH (by assumption) ⟨rfl,by decide,by decide⟩ (fun hs s' hR hm=> ?_) (fun p' hd y=> ?_) <;> try simp only[↓reduceIte,Bool.false_eq_true,if_true,if_false])
  | (refine br (by assumption) (fun s' y hR hm=> ?_) (fun p' hd y=> ?_) <;> try simp only[↓reduceIte,Bool.false_eq_true,if_true,if_false])
  | (refine cI (by assumption) (by decide) (fun s' y hR hm=> ?_) (fun p' hd y=> ?_) <;> try simp only[↓reduceIte,Bool.false_eq_true,if_true,if_false])
  | (refine cr (by assumption) ?_;try simp only[↓reduceIte,Bool.false_eq_true,if_true,if_false])
  | (refine qI (by assumption) ?_;try simp only[↓reduceIte,Bool.false_eq_true,if_true,if_false])
  | (refine eK (by assumption) ?_;try simp only[↓reduceIte,Bool.false_eq_true,if_true,if_false])
  | (refine DD.bind (aV (by assumption)) fun y=> ?_;try simp only[↓reduceIte,Bool.false_eq_true,if_true,if_false])
  | (refine DD.bind (ek (by assumption)) fun y=> ?_;try simp only[↓reduceIte,Bool.false_eq_true,if_true,if_false])
theorem MM {n:B} (h:Rel d s p):Sim d (rem s) (Oj s n) (BA p n):=by
 unfold Oj BA
 have hc:DV p 110 ⟨#[99,111,110,116,97,105,110,115]⟩=some (fU s [⟨#[99,111,110,116,97,105,110,115]⟩]):=by
  rw[DV,if_neg (by simp[h.e]),h.now,Option.map_some,fU]
  congr 1
  rw[Bool.eq_iff_iff]
  have:=(ov h.kind).2.2.1
  simp[this]
 simp only[jf,oW,ru,cb,Out.bind_bind,Out.bind_ok]
 cases hw:fU s [⟨#[99,111,110,116,97,105,110,115]⟩] with
 | true=>
   have hk:s.kind=2:=by unfold fU at hw;simp at hw;omega
   obtain⟨s',e1,e2,e3⟩:=h.next (by omega)
   have hn:fT p ⟨#[33,61]⟩=some (p,false):=by
    unfold fT
    rw[vH h,cO,decide_eq_false (by omega)]
    rfl
   rw[hn]
   simp only[cb,hc,hw,if_true,Bool.false_eq_true,if_false,fV,e1,Out.of_some,Out.bind_ok]
   repeat' first
    | exact bI (by assumption) (by first | omega | (simp only at*;omega))
    | exact DD.some
    | exact mO (by assumption)
    | exact aV (by assumption)
    | (refine bm (by assumption) (fun hs s' hR hm=> ?_) (fun hs=> ?_) <;> try simp only[↓reduceIte,Bool.false_eq_true,if_true,if_false])
    | (refine cH (by assumption) ⟨rfl,by decide,by decide⟩ (fun hs s' hR hm=> ?_) (fun p' hd y=> ?_) <;> try simp only[↓reduceIte,Bool.false_eq_true,if_true,if_false])
    | (refine br (by assumption) (fun s' y hR hm=> ?_) (fun p' hd y=> ?_) <;> try simp only[↓reduceIte,Bool.false_eq_true,if_true,if_false])
    | (refine cI (by assumption) (by decide) (fun s' y hR hm=> ?_) (fun p' hd y=> ?_) <;> try simp only[↓reduceIte,Bool.false_eq_true,if_true,if_false])
    | (refine cr (by assumption) ?_;try simp only[↓reduceIte,Bool.false_eq_true,if_true,if_false])
    | (refine qI (by assumption) ?_;try simp only[↓reduceIte,Bool.false_eq_true,if_true,if_false])
    | (refine eK (by assumption) ?_;try simp only[↓reduceIte,Bool.false_eq_true,if_true,if_false])
    | (refine DD.bind (aV (by assumption)) fun y=> ?_;try simp only[↓reduceIte,Bool.false_eq_true,if_true,if_false])
    | (refine DD.bind (ek (by assumption)) fun y=> ?_;try simp only[↓reduceIte,Bool.false_eq_true,if_true,if_false])
 | false=>
   simp only[Bool.false_eq_true,if_false]
   refine bm h (fun hs s' hR hm=> ?_) (fun hs=> ?_)
   ·simp only[↓reduceIte]
    refine BV hR (fun s2 p2 y hR2 hm2=> ?_) (fun p' hd y=> DD.some)
    exact bI (s:=s2) hR2 (by omega)
   ·simp only[Bool.false_eq_true,if_false,hc,hw,cb]
    refine br h (fun s' y hR hm=> ?_) (fun p' hd y=> ?_)
    ·refine FQ hR (fun e=> ?_) (fun e=> ?_)
     ·have e':s'.kind=2:=(ov hR.kind).2.2.1.1 e
      rw[if_pos e']
      simp only[if_true]
      repeat' first
       | exact bI (by assumption) (by first | omega | (simp only at*;omega))
       | exact DD.some
       | exact mO (by assumption)
       | exact aV (by assumption)
       | (refine bm (by assumption) (fun hs s' hR hm=> ?_) (fun hs=> ?_) <;> try simp only[↓reduceIte,Bool.false_eq_true,if_true,if_false])
       | (refine cH (by assumption) ⟨rfl,by decide,by decide⟩ (fun hs s' hR hm=> ?_) (fun p' hd y=> ?_) <;> try simp only[↓reduceIte,Bool.false_eq_true,if_true,if_false])
       | (refine br (by assumption) (fun s' y hR hm=> ?_) (fun p' hd y=> ?_) <;> try simp only[↓reduceIte,Bool.false_eq_true,if_true,if_false])
       | (refine cI (by assumption) (by decide) (fun s' y hR hm=> ?_) (fun p' hd y=> ?_) <;> try simp only[↓reduceIte,Bool.false_eq_true,if_true,if_false])
       | (refine cr (by assumption) ?_;try simp only[↓reduceIte,Bool.false_eq_true,if_true,if_false])
       | (refine qI (by assumption) ?_;try simp only[↓reduceIte,Bool.false_eq_true,if_true,if_false])
       | (refine eK (by assumption) ?_;try simp only[↓reduceIte,Bool.false_eq_true,if_true,if_false])
       | (refine DD.bind (aV (by assumption)) fun y=> ?_;try simp only[↓reduceIte,Bool.false_eq_true,if_true,if_false])
       | (refine DD.bind (ek (by assumption)) fun y=> ?_;try simp only[↓reduceIte,Bool.false_eq_true,if_true,if_false])
     ·have e': ¬s'.kind=2:=fun h=> e ((ov hR.kind).2.2.1.2 h)
      rw[if_neg e']
      simp only[Bool.false_eq_true,if_false]
      exact Z6 (BV (n:=n) (k:=fun x=> .ok x) (g:=fun x=> some x) (m:=rem s) hR (fun s2 p2 y hR2 hm2=> bI (s:=s2) hR2 (by omega)) (fun p' hd y=> DD.some))
    ·refine eK hd ?_
     exact N5 hd
end
end Go.Gv

namespace Go.Gv
section
variable {Y Z:Type} {d m:Int} {s:Rdr} {p:Pst}
theorem zW {N:Pst→Option (Pst×Cond)} {k:Nat} {acc:List Cond} (h:Dd p) (hk:1≤k):DD p (m8 N k p acc):=by
 obtain _ | k:=k
 ·omega
 rw[m8]
 refine cr h ?_
 exact DD.some
theorem DM {r:Int} {N:Rdr→Out (Rdr×Cond)} {N':Pst→Option (Pst×Cond)} (hN: ∀s p,Rel d s p→rem s≤r→Sim d (rem s) (N s) (N' p)): ∀ (k:Nat) (s:Rdr) (p:Pst) (acc:List Cond),Rel d s p→rem s≤r→rem s+2≤k→Sim d (rem s) (rh N k s acc) (m8 N' k p acc)
 | 0,s,p,acc,h,hr,hk=> by have:=h.rem0;omega
 | k+1,s,p,acc,h,hr,hk=> by
   have h0:=h.rem0
   rw[rh,m8]
   refine bm h (fun hs s' hR hm=> ?_) (fun hs=> ?_)
   ·simp only[↓reduceIte]
    have h0':=hR.rem0
    refine Sim.bind (m1:=rem s') (hN s' p.step hR (by omega)) (fun s2 p2 y hR2 hm2=> ?_) (fun p' y hd=> ?_)
    ·exact(DM hN k s2 p2 _ hR2 (by omega) (by omega)).mono (by omega)
    ·exact zW hd (by omega)
   ·simp only[Bool.false_eq_true,if_false]
    exact bI h (Int.le_refl _)
theorem QA {r:Int} {N:Rdr→Out (Rdr×Cond)} {N':Pst→Option (Pst×Cond)} (hN: ∀s p,Rel d s p→rem s≤r→Sim d (rem s) (N s) (N' p)) (s:Rdr) (p:Pst) (h:Rel d s p) (hr:rem s≤r):Sim d (rem s) (andE N s) (andG N' p):=by
 have h0:=h.rem0
 unfold andE andG
 simp only[jf,oW]
 refine Sim.bind (m1:=rem s) (hN s p h hr) (fun s2 p2 y hR2 hm2=> ?_) (fun p' y hd=> ?_)
 ·refine Sim.bind (m1:=rem s2) (DM hN 500 s2 p2 _ hR2 (by omega) (by omega)) (fun s3 p3 y hR3 hm3=> ?_) (fun p' y hd=> ?_)
  ·exact bI hR3 (by first | omega | (simp only at*;omega))
  ·exact DD.some
 ·exact DD.bind (zW hd (by decide)) fun y=> DD.some
theorem qa9 {N:Pst→Option (Pst×Cond)} (hN: ∀p,Dd p→DD p (N p)) (h:Dd p):DD p (andG N p):=by
 unfold andG
 simp only[jf]
 refine DD.bind (hN p h) fun y=> ?_
 exact DD.bind (zW h (by decide)) fun y=> DD.some
theorem Ds {N:Pst→Option (Pst×Cond)} {k:Nat} {acc:List Cond} (h:Dd p) (hk:1≤k):DD p (pJ N k p acc):=by
 obtain _ | k:=k
 ·omega
 rw[pJ]
 refine cr h ?_
 exact DD.some
theorem FP {r:Int} {N:Rdr→Out (Rdr×Cond)} {N':Pst→Option (Pst×Cond)} (hN: ∀s p,Rel d s p→rem s≤r→Sim d (rem s) (N s) (N' p)): ∀ (k:Nat) (s:Rdr) (p:Pst) (acc:List Cond),Rel d s p→rem s≤r→rem s+2≤k→Sim d (rem s) (t3 N k s acc) (pJ N' k p acc)
 | 0,s,p,acc,h,hr,hk=> by have:=h.rem0;omega
 | k+1,s,p,acc,h,hr,hk=> by
   have h0:=h.rem0
   rw[t3,pJ]
   refine bm h (fun hs s' hR hm=> ?_) (fun hs=> ?_)
   ·simp only[↓reduceIte]
    have h0':=hR.rem0
    refine Sim.bind (m1:=rem s') (QA hN s' p.step hR (by omega)) (fun s2 p2 y hR2 hm2=> ?_) (fun p' y hd=> ?_)
    ·exact(FP hN k s2 p2 _ hR2 (by omega) (by omega)).mono (by omega)
    ·exact Ds hd (by omega)
   ·simp only[Bool.false_eq_true,if_false]
    exact bI h (Int.le_refl _)
theorem UA {r:Int} {N:Rdr→Out (Rdr×Cond)} {N':Pst→Option (Pst×Cond)} (hN: ∀s p,Rel d s p→rem s≤r→Sim d (rem s) (N s) (N' p)) (s:Rdr) (p:Pst) (h:Rel d s p) (hr:rem s≤r):Sim d (rem s) (orE N s) (orG N' p):=by
 have h0:=h.rem0
 unfold orE orG
 simp only[jf,oW]
 refine Sim.bind (m1:=rem s) (QA hN s p h hr) (fun s2 p2 y hR2 hm2=> ?_) (fun p' y hd=> ?_)
 ·refine Sim.bind (m1:=rem s2) (FP hN 500 s2 p2 _ hR2 (by omega) (by omega)) (fun s3 p3 y hR3 hm3=> ?_) (fun p' y hd=> ?_)
  ·exact bI hR3 (by first | omega | (simp only at*;omega))
  ·exact DD.some
 ·exact DD.bind (Ds hd (by decide)) fun y=> DD.some
theorem qdn {N:Pst→Option (Pst×Cond)} (hN: ∀p,Dd p→DD p (N p)) (h:Dd p):DD p (orG N p):=by
 unfold orG
 simp only[jf]
 refine DD.bind (qa9 hN h) fun y=> ?_
 exact DD.bind (Ds h (by decide)) fun y=> DD.some
theorem R2 {g:Pst×B→Option (Pst×Cond)} (h:Rel d s p) (hg:g=fun n=> if n.2=⟨#[105,110]⟩ then(fT n.1 ⟨#[40]⟩).bind fun v=> if v.2 then AD v.1 else BA v.1 n.2 else BA n.1 n.2):Sim d (rem s) (atomsE s) ((bv p 110 E0).bind g):=by
 subst hg
 unfold atomsE
 refine cH h ⟨rfl,by decide,by decide⟩ (fun hs s' hR hm=> ?_) (fun p' hd y=> ?_)
 ·simp only
  split
  ·refine bm hR (fun hs s2 hR2 hm2=> ?_) (fun hs=> ?_)
   ·simp only[↓reduceIte]
    exact(O0 hR2).mono (by omega)
   ·simp only[Bool.false_eq_true,if_false]
    exact(MM hR).mono (by omega)
  ·exact(MM hR).mono (by omega)
 ·simp only
  split
  ·refine cr hd ?_
   simp only[Bool.false_eq_true,if_false]
   exact E7 hd
  ·exact E7 hd
theorem qa8 {n:Nat} (h:Dd p):DD p (rv (n+1) p):=by
 rw[rv,notG]
 refine cr h ?_
 simp only[Bool.false_eq_true,if_false]
 refine cr h ?_
 simp only[Bool.false_eq_true,if_false]
 refine DD.bind (aV h) fun y=> ?_
 simp only
 split
 ·refine cr h ?_
  simp only[Bool.false_eq_true,if_false]
  exact E7 h
 ·exact E7 h
theorem Qy: ∀ (n:Nat) (s:Rdr) (p:Pst),Rel d s p→rem s+1≤n→Sim d (rem s) (kK n s) (rv n p)
 | 0,s,p,h,hn=> by have:=h.rem0;omega
 | n+1,s,p,h,hn=> by
   have hN: ∀s p,Rel d s p→rem s≤(n:Int) -1→Sim d (rem s) (kK n s) (rv n p):=fun s p h hr=> Qy n s p h (by omega)
   rw[kK,rv,notE,notG]
   refine bm h (fun hs s' hR hm=> ?_) (fun hs=> ?_)
   ·simp only[↓reduceIte,jf,oW]
    exact Sim.bind (m1:=rem s') (hN s' p.step hR (by omega)) (fun s2 p2 y hR2 hm2=> bI hR2 (by first | omega | (simp only at*;omega))) (fun p' y hd=> DD.some)
   ·simp only[Bool.false_eq_true,if_false]
    refine bm h (fun hs s' hR hm=> ?_) (fun hs=> ?_)
    ·simp only[↓reduceIte,jf,oW]
     refine Sim.bind (m1:=rem s') (UA hN s' p.step hR (by omega)) (fun s2 p2 y hR2 hm2=> ?_) (fun p' y hd=> ?_)
     ·refine br hR2 (fun s3 y hR3 hm3=> ?_) (fun p' hd y=> DD.some)
      exact bI hR3 (by first | omega | (simp only at*;omega))
     ·exact DD.bind (aV hd) fun y=> DD.some
    ·simp only[Bool.false_eq_true,if_false]
     exact R2 h rfl
theorem UD (s:Rdr) (p:Pst) (h:Rel d s p) {n:Nat} (hn:rem s+1≤n):Sim d (rem s) (orE (kK n) s) (orG (rv n) p):=UA (r:=rem s) (fun s p h hr=> Qy n s p h (by omega)) s p h (Int.le_refl _)
theorem YY {n:Nat} (h:Dd p):DD p (orG (rv (n+1)) p):=qdn (fun p h=> qa8 h) h
theorem D3 {N:Pst→Option (Pst×Glob)} {k:Nat} {acc:List Glob} (h:Dd p) (hk:1≤k):DD p (jN N k p acc):=by
 obtain _ | k:=k
 ·omega
 rw[jN]
 refine cr h ?_
 exact DD.some
theorem As {r:Int} {N:Rdr→Out (Rdr×Glob)} {N':Pst→Option (Pst×Glob)} (hN: ∀s p,Rel d s p→rem s≤r→Sim d (rem s) (N s) (N' p)): ∀ (k:Nat) (s:Rdr) (p:Pst) (acc:List Glob),Rel d s p→rem s≤r→rem s+2≤k→Sim d (rem s) (nH N k s acc) (jN N' k p acc)
 | 0,s,p,acc,h,hr,hk=> by have:=h.rem0;omega
 | k+1,s,p,acc,h,hr,hk=> by
   have h0:=h.rem0
   rw[nH,jN]
   refine bm h (fun hs s' hR hm=> ?_) (fun hs=> ?_)
   ·simp only[↓reduceIte]
    have h0':=hR.rem0
    refine Sim.bind (m1:=rem s') (hN s' p.step hR (by omega)) (fun s2 p2 y hR2 hm2=> ?_) (fun p' y hd=> ?_)
    ·exact(As hN k s2 p2 _ hR2 (by omega) (by omega)).mono (by omega)
    ·exact D3 hd (by omega)
   ·simp only[Bool.false_eq_true,if_false]
    exact bI h (Int.le_refl _)
theorem ML {r:Int} {N:Rdr→Out (Rdr×Glob)} {N':Pst→Option (Pst×Glob)} (hN: ∀s p,Rel d s p→rem s≤r→Sim d (rem s) (N s) (N' p)) (s:Rdr) (p:Pst) (h:Rel d s p) (hr:rem s≤r):Sim d (rem s) (gandE N s) (gandG N' p):=by
 have h0:=h.rem0
 unfold gandE gandG
 simp only[jf,oW]
 refine Sim.bind (m1:=rem s) (hN s p h hr) (fun s2 p2 y hR2 hm2=> ?_) (fun p' y hd=> ?_)
 ·refine Sim.bind (m1:=rem s2) (As hN 500 s2 p2 _ hR2 (by omega) (by omega)) (fun s3 p3 y hR3 hm3=> ?_) (fun p' y hd=> ?_)
  ·exact bI hR3 (by first | omega | (simp only at*;omega))
  ·exact DD.some
 ·exact DD.bind (D3 hd (by decide)) fun y=> DD.some
theorem HP {N:Pst→Option (Pst×Glob)} {k:Nat} {acc:List Glob} (h:Dd p) (hk:1≤k):DD p (mG N k p acc):=by
 obtain _ | k:=k
 ·omega
 rw[mG]
 refine cr h ?_
 exact DD.some
theorem DL {r:Int} {N:Rdr→Out (Rdr×Glob)} {N':Pst→Option (Pst×Glob)} (hN: ∀s p,Rel d s p→rem s≤r→Sim d (rem s) (N s) (N' p)): ∀ (k:Nat) (s:Rdr) (p:Pst) (acc:List Glob),Rel d s p→rem s≤r→rem s+2≤k→Sim d (rem s) (qA N k s acc) (mG N' k p acc)
 | 0,s,p,acc,h,hr,hk=> by have:=h.rem0;omega
 | k+1,s,p,acc,h,hr,hk=> by
   have h0:=h.rem0
   rw[qA,mG]
   refine bm h (fun hs s' hR hm=> ?_) (fun hs=> ?_)
   ·simp only[↓reduceIte]
    have h0':=hR.rem0
    refine Sim.bind (m1:=rem s') (ML hN s' p.step hR (by omega)) (fun s2 p2 y hR2 hm2=> ?_) (fun p' y hd=> ?_)
    ·exact(DL hN k s2 p2 _ hR2 (by omega) (by omega)).mono (by omega)
    ·exact HP hd (by omega)
   ·simp only[Bool.false_eq_true,if_false]
    exact bI h (Int.le_refl _)
theorem Qz {r:Int} {N:Rdr→Out (Rdr×Glob)} {N':Pst→Option (Pst×Glob)} (hN: ∀s p,Rel d s p→rem s≤r→Sim d (rem s) (N s) (N' p)) (s:Rdr) (p:Pst) (h:Rel d s p) (hr:rem s≤r):Sim d (rem s) (gorE N s) (gorG N' p):=by
 have h0:=h.rem0
 unfold gorE gorG
 simp only[jf,oW]
 refine Sim.bind (m1:=rem s) (ML hN s p h hr) (fun s2 p2 y hR2 hm2=> ?_) (fun p' y hd=> ?_)
 ·refine Sim.bind (m1:=rem s2) (DL hN 500 s2 p2 _ hR2 (by omega) (by omega)) (fun s3 p3 y hR3 hm3=> ?_) (fun p' y hd=> ?_)
  ·exact bI hR3 (by first | omega | (simp only at*;omega))
  ·exact DD.some
 ·exact DD.bind (HP hd (by decide)) fun y=> DD.some
theorem EV {k:Rdr×Int→Out (Rdr×Y)} {g:Pst×Int→Option (Pst×Y)} (h:Rel d s p) (h1: ∀s' y,Rel d s' p.step→rem s' < rem s→Sim d m (k (s',y)) (g (p.step,y)))
 (h2: ∀p',Dd p'→ ∀y,DD p' (g (p',y))):Sim d m ((bigE s).bind k) ((L4 p).bind g):=by
 unfold bigE L4
 rw[h.now,cb]
 exact cI h (by decide) h1 h2
theorem zV (h:Dd p):DD p (L4 p):=by
 obtain⟨t,ht⟩:=h.now
 unfold L4
 rw[ht,cb]
 exact ek h
theorem FO {k:Rdr×Int→Out (Rdr×Y)} {g:Pst×Int→Option (Pst×Y)} (h:Rel d s p) (h1: ∀s' p' y,Rel d s' p'→rem s' < rem s→Sim d m (k (s',y)) (g (p',y)))
 (h2: ∀p',Dd p'→ ∀y,DD p' (g (p',y))):Sim d m ((signedE s).bind k) ((signedG p).bind g):=by
 unfold signedE signedG
 rw[ru,Out.bind_bind]
 refine bm h (fun hs s' hR hm=> ?_) (fun hs=> ?_)
 ·simp only[↓reduceIte,jf,oW,ru,Out.bind_bind,cb,Out.bind_ok]
  exact EV hR (fun s2 y hR2 hm2=> h1 s2 _ _ hR2 (by omega)) (fun p' hd y=> h2 p' hd _)
 ·simp only[Bool.false_eq_true,if_false,jf,ru,cb]
  exact EV h (fun s2 y hR2 hm2=> h1 _ _ _ hR2 (by omega)) (fun p' hd y=> h2 p' hd _)
theorem pU (h:Dd p):DD p (signedG p):=by
 unfold signedG
 simp only[jf]
 refine cr h ?_
 exact DD.bind (zV h) fun y=> DD.some
theorem Re {k:Nat} {acc:List B} (h:Dd p) (hk:1≤k):DD p (jS k p acc):=by
 obtain _ | k:=k
 ·omega
 rw[jS]
 refine cr h ?_
 exact DD.some
theorem MN: ∀ (k:Nat) (s:Rdr) (p:Pst) (acc:List B),Rel d s p→rem s+2≤k→Sim d (rem s) (nT k s acc) (jS k p acc)
 | 0,s,p,acc,h,hk=> by have:=h.rem0;omega
 | k+1,s,p,acc,h,hk=> by
   have h0:=h.rem0
   rw[nT,jS]
   refine bm h (fun hs s' hR hm=> ?_) (fun hs=> ?_)
   ·simp only[↓reduceIte]
    have h0':=hR.rem0
    refine cH hR ⟨rfl,by decide,by decide⟩ (fun hs s2 hR2 hm2=> ?_) (fun p' hd y=> ?_)
    ·exact(MN k s2 _ _ hR2 (by omega)).mono (by omega)
    ·exact Re hd (by omega)
   ·simp only[Bool.false_eq_true,if_false]
    exact bI h (Int.le_refl _)
theorem E6 {op:Int} {a b:B} (h:Dd p):DD p (vT p op a b):=by
 unfold vT
 simp only[jf]
 split
 ·refine DD.bind (aV h) fun y=> DD.bind (pU h) fun y=> DD.bind (aV h) fun y=> DD.bind (pU h) fun y=> DD.some
 ·split
  ·refine DD.bind (aV h) fun y=> DD.bind (zV h) fun y=> DD.bind (aV h) fun y=> DD.bind (zV h) fun y=> DD.some
  ·split
   ·refine DD.bind (aV h) fun y=> DD.bind (aV h) fun y=> DD.some
   ·split
    ·exact DD.bind (Re h (by decide)) fun y=> DD.some
    ·exact DD.some
theorem UE {op:Int} (h:Rel d s p):Sim d (rem s) ((dY s 2).bind fun a=> (argsE a.1 op a.2).bind fun g=> (d4 g.1 [⟨#[41]⟩]).map fun z=> (z,g.2)) (callG p op):=by
 unfold callG
 refine cH h ⟨rfl,by decide,by decide⟩ (fun hs s' hR hm=> ?_) (fun p' hd y=> ?_)
 ·have h0:=hR.rem0
  simp only[jf,oW,xc]
  unfold argsE vT
  by_cases e1:op=1
  ·subst e1
   simp only[↓reduceIte,ne_eq,not_true_eq_false,false_and,Out.bind_ok,show ¬ (1:Int)=4 by decide,show ¬ (1:Int)=10 by decide,show ¬ ((1:Int)=5∨(1:Int)=9) by decide,show ¬ (1:Int)=8 by decide,cb]
   repeat' first
    | exact bI (by assumption) (by first | omega | (simp only at*;omega))
    | exact DD.some
    | exact mO (by assumption)
    | exact aV (by assumption)
    | (refine bm (by assumption) (fun hs s' hR hm=> ?_) (fun hs=> ?_) <;> try simp only[↓reduceIte,Bool.false_eq_true,if_true,if_false])
    | (refine cH (by assumption) ⟨rfl,by decide,by decide⟩ (fun hs s' hR hm=> ?_) (fun p' hd y=> ?_) <;> try simp only[↓reduceIte,Bool.false_eq_true,if_true,if_false])
    | (refine br (by assumption) (fun s' y hR hm=> ?_) (fun p' hd y=> ?_) <;> try simp only[↓reduceIte,Bool.false_eq_true,if_true,if_false])
    | (refine cI (by assumption) (by decide) (fun s' y hR hm=> ?_) (fun p' hd y=> ?_) <;> try simp only[↓reduceIte,Bool.false_eq_true,if_true,if_false])
    | (refine cr (by assumption) ?_;try simp only[↓reduceIte,Bool.false_eq_true,if_true,if_false])
    | (refine qI (by assumption) ?_;try simp only[↓reduceIte,Bool.false_eq_true,if_true,if_false])
    | (refine eK (by assumption) ?_;try simp only[↓reduceIte,Bool.false_eq_true,if_true,if_false])
    | (refine DD.bind (aV (by assumption)) fun y=> ?_;try simp only[↓reduceIte,Bool.false_eq_true,if_true,if_false])
    | (refine DD.bind (ek (by assumption)) fun y=> ?_;try simp only[↓reduceIte,Bool.false_eq_true,if_true,if_false])
  ·by_cases e2:op=10
   ·subst e2
    simp only[↓reduceIte,ne_eq,not_true_eq_false,and_false,show ¬ (10:Int)=1 by decide,show ¬ (10:Int)=4 by decide,Out.bind_bind,ru,cb,jf,oW,Out.bind_ok]
    refine br hR (fun s2 y hR2 hm2=> ?_) (fun p' hd y=> ?_)
    ·refine EV hR2 (fun s3 y hR3 hm3=> ?_) (fun p' hd y=> ?_)
     ·refine br hR3 (fun s4 y hR4 hm4=> ?_) (fun p' hd y=> ?_)
      ·refine EV hR4 (fun s5 y hR5 hm5=> ?_) (fun p' hd y=> ?_)
       ·refine br hR5 (fun s6 y hR6 hm6=> bI hR6 (by first | omega | (simp only at*;omega))) (fun p' hd y=> DD.some)
       ·exact DD.bind (aV hd) fun y=> DD.some
      ·exact DD.bind (zV hd) fun y=> DD.bind (aV hd) fun y=> DD.some
     ·exact DD.bind (aV hd) fun y=> DD.bind (zV hd) fun y=> DD.bind (aV hd) fun y=> DD.some
    ·exact DD.bind (zV hd) fun y=> DD.bind (aV hd) fun y=> DD.bind (zV hd) fun y=> DD.bind (aV hd) fun y=> DD.some
   ·simp only[e1,e2,xc, ↓reduceIte,ne_eq,not_false_eq_true,and_self,Out.bind_bind,ru]
    refine br hR (fun s2 y hR2 hm2=> ?_) (fun p' hd y=> ?_)
    ·refine cH hR2 ⟨rfl,by decide,by decide⟩ (fun hs s3 hR3 hm3=> ?_) (fun p' hd y=> ?_)
     ·have h03:=hR3.rem0
      simp only
      by_cases e4:op=4
      ·simp only[e4, ↓reduceIte,Out.bind_bind,ru,jf,oW,cb,Out.bind_ok]
       refine br hR3 (fun s4 y hR4 hm4=> ?_) (fun p' hd y=> ?_)
       ·refine FO hR4 (fun s5 p5 y hR5 hm5=> ?_) (fun p' hd y=> ?_)
        ·refine br hR5 (fun s6 y hR6 hm6=> ?_) (fun p' hd y=> ?_)
         ·refine FO hR6 (fun s7 p7 y hR7 hm7=> ?_) (fun p' hd y=> ?_)
          ·refine br hR7 (fun s8 y hR8 hm8=> bI hR8 (by first | omega | (simp only at*;omega))) (fun p' hd y=> DD.some)
          ·exact DD.bind (aV hd) fun y=> DD.some
         ·exact DD.bind (pU hd) fun y=> DD.bind (aV hd) fun y=> DD.some
        ·exact DD.bind (aV hd) fun y=> DD.bind (pU hd) fun y=> DD.bind (aV hd) fun y=> DD.some
       ·exact DD.bind (pU hd) fun y=> DD.bind (aV hd) fun y=> DD.bind (pU hd) fun y=> DD.bind (aV hd) fun y=> DD.some
      ·by_cases e5:op=5∨op=9
       ·simp only[e4,e5,xc, ↓reduceIte,Out.bind_bind,ru,jf,oW,cb,Out.bind_ok]
        repeat' first
         | exact bI (by assumption) (by first | omega | (simp only at*;omega))
         | exact DD.some
         | exact mO (by assumption)
         | exact aV (by assumption)
         | (refine bm (by assumption) (fun hs s' hR hm=> ?_) (fun hs=> ?_) <;> try simp only[↓reduceIte,Bool.false_eq_true,if_true,if_false])
         | (refine cH (by assumption) ⟨rfl,by decide,by decide⟩ (fun hs s' hR hm=> ?_) (fun p' hd y=> ?_) <;> try simp only[↓reduceIte,Bool.false_eq_true,if_true,if_false])
         | (refine br (by assumption) (fun s' y hR hm=> ?_) (fun p' hd y=> ?_) <;> try simp only[↓reduceIte,Bool.false_eq_true,if_true,if_false])
         | (refine cI (by assumption) (by decide) (fun s' y hR hm=> ?_) (fun p' hd y=> ?_) <;> try simp only[↓reduceIte,Bool.false_eq_true,if_true,if_false])
         | (refine cr (by assumption) ?_;try simp only[↓reduceIte,Bool.false_eq_true,if_true,if_false])
         | (refine qI (by assumption) ?_;try simp only[↓reduceIte,Bool.false_eq_true,if_true,if_false])
         | (refine eK (by assumption) ?_;try simp only[↓reduceIte,Bool.false_eq_true,if_true,if_false])
         | (refine DD.bind (aV (by assumption)) fun y=> ?_;try simp only[↓reduceIte,Bool.false_eq_true,if_true,if_false])
         | (refine DD.bind (ek (by assumption)) fun y=> ?_;try simp only[↓reduceIte,Bool.false_eq_true,if_true,if_false])
       ·by_cases e8:op=8
        ·simp only[e4,e5,e8, ↓reduceIte,Out.bind_bind,ru,jf,oW,cb,Out.bind_ok,show ¬ (8:Int)=4 by decide,show ¬ ((8:Int)=5∨(8:Int)=9) by decide]
         refine Sim.bind (m1:=rem s3) (MN 500 s3 _ [] hR3 (by omega)) (fun s4 p4 y hR4 hm4=> ?_) (fun p' y hd=> ?_)
         ·refine br hR4 (fun s8 y hR8 hm8=> bI hR8 (by first | omega | (simp only at*;omega))) (fun p' hd y=> DD.some)
         ·exact DD.bind (aV hd) fun y=> DD.some
        ·simp only[e4,e5,e8, ↓reduceIte,cb,Out.bind_ok]
         refine br hR3 (fun s8 y hR8 hm8=> bI hR8 (by first | omega | (simp only at*;omega))) (fun p' hd y=> DD.some)
     ·simp only
      refine DD.bind ?_ fun y=> ?_
      ·have hd2:=E6 (op:=op) (a:=s.text) (b:=y) hd
       simp only[vT,e2, ↓reduceIte] at hd2
       exact hd2
      ·exact DD.bind (aV hd) fun y=> DD.some
    ·refine DD.bind (aV hd) fun y=> ?_
     refine DD.bind ?_ fun y=> ?_
     ·have hd2:=E6 (op:=op) (a:=s.text) (b:=y) hd
      simp only[vT,e2, ↓reduceIte] at hd2
      exact hd2
     ·exact DD.bind (aV hd) fun y=> DD.some
 ·simp only[jf]
  split
  ·refine DD.bind (aV hd) fun y=> DD.bind (aV hd) fun y=> DD.bind (E6 hd) fun y=> DD.bind (aV hd) fun y=> DD.some
  ·refine DD.bind (E6 hd) fun y=> DD.bind (aV hd) fun y=> DD.some
theorem N7 {n:B} (h:Dd p):DD p (zT p n):=by
 unfold zT
 simp only[jf]
 repeat' first
  | exact bI (by assumption) (by first | omega | (simp only at*;omega))
  | exact DD.some
  | exact mO (by assumption)
  | exact aV (by assumption)
  | (refine bm (by assumption) (fun hs s' hR hm=> ?_) (fun hs=> ?_) <;> try simp only[↓reduceIte,Bool.false_eq_true,if_true,if_false])
  | (refine cH (by assumption) ⟨rfl,by decide,by decide⟩ (fun hs s' hR hm=> ?_) (fun p' hd y=> ?_) <;> try simp only[↓reduceIte,Bool.false_eq_true,if_true,if_false])
  | (refine br (by assumption) (fun s' y hR hm=> ?_) (fun p' hd y=> ?_) <;> try simp only[↓reduceIte,Bool.false_eq_true,if_true,if_false])
  | (refine cI (by assumption) (by decide) (fun s' y hR hm=> ?_) (fun p' hd y=> ?_) <;> try simp only[↓reduceIte,Bool.false_eq_true,if_true,if_false])
  | (refine cr (by assumption) ?_;try simp only[↓reduceIte,Bool.false_eq_true,if_true,if_false])
  | (refine qI (by assumption) ?_;try simp only[↓reduceIte,Bool.false_eq_true,if_true,if_false])
  | (refine eK (by assumption) ?_;try simp only[↓reduceIte,Bool.false_eq_true,if_true,if_false])
  | (refine DD.bind (aV (by assumption)) fun y=> ?_;try simp only[↓reduceIte,Bool.false_eq_true,if_true,if_false])
  | (refine DD.bind (ek (by assumption)) fun y=> ?_;try simp only[↓reduceIte,Bool.false_eq_true,if_true,if_false])
theorem Jp {n:B} (h:Rel d s p):Sim d (rem s) (Hw s n) (zT p n):=by
 unfold Hw zT
 simp only[jf,oW]
 refine br h (fun s2 y hR2 hm2=> ?_) (fun p' hd y=> ?_)
 ·refine cH hR2 ⟨rfl,by decide,by decide⟩ (fun hs s3 hR3 hm3=> ?_) (fun p' hd y=> ?_)
  ·refine br hR3 (fun s4 y hR4 hm4=> ?_) (fun p' hd y=> ?_)
   ·refine FQ hR4 (fun e=> ?_) (fun e=> ?_)
    ·have e':s4.kind=2:=(ov hR4.kind).2.2.1.1 e
     rw[if_pos e']
     simp only[if_true]
     repeat' first
      | exact bI (by assumption) (by first | omega | (simp only at*;omega))
      | exact DD.some
      | exact mO (by assumption)
      | exact aV (by assumption)
      | (refine bm (by assumption) (fun hs s' hR hm=> ?_) (fun hs=> ?_) <;> try simp only[↓reduceIte,Bool.false_eq_true,if_true,if_false])
      | (refine cH (by assumption) ⟨rfl,by decide,by decide⟩ (fun hs s' hR hm=> ?_) (fun p' hd y=> ?_) <;> try simp only[↓reduceIte,Bool.false_eq_true,if_true,if_false])
      | (refine br (by assumption) (fun s' y hR hm=> ?_) (fun p' hd y=> ?_) <;> try simp only[↓reduceIte,Bool.false_eq_true,if_true,if_false])
      | (refine cI (by assumption) (by decide) (fun s' y hR hm=> ?_) (fun p' hd y=> ?_) <;> try simp only[↓reduceIte,Bool.false_eq_true,if_true,if_false])
      | (refine cr (by assumption) ?_;try simp only[↓reduceIte,Bool.false_eq_true,if_true,if_false])
      | (refine qI (by assumption) ?_;try simp only[↓reduceIte,Bool.false_eq_true,if_true,if_false])
      | (refine eK (by assumption) ?_;try simp only[↓reduceIte,Bool.false_eq_true,if_true,if_false])
      | (refine DD.bind (aV (by assumption)) fun y=> ?_;try simp only[↓reduceIte,Bool.false_eq_true,if_true,if_false])
      | (refine DD.bind (ek (by assumption)) fun y=> ?_;try simp only[↓reduceIte,Bool.false_eq_true,if_true,if_false])
    ·have e': ¬s4.kind=2:=fun h=> e ((ov hR4.kind).2.2.1.2 h)
     rw[if_neg e']
     simp only[Bool.false_eq_true,if_false]
     repeat' first
      | exact bI (by assumption) (by first | omega | (simp only at*;omega))
      | exact DD.some
      | exact mO (by assumption)
      | exact aV (by assumption)
      | (refine bm (by assumption) (fun hs s' hR hm=> ?_) (fun hs=> ?_) <;> try simp only[↓reduceIte,Bool.false_eq_true,if_true,if_false])
      | (refine cH (by assumption) ⟨rfl,by decide,by decide⟩ (fun hs s' hR hm=> ?_) (fun p' hd y=> ?_) <;> try simp only[↓reduceIte,Bool.false_eq_true,if_true,if_false])
      | (refine br (by assumption) (fun s' y hR hm=> ?_) (fun p' hd y=> ?_) <;> try simp only[↓reduceIte,Bool.false_eq_true,if_true,if_false])
      | (refine cI (by assumption) (by decide) (fun s' y hR hm=> ?_) (fun p' hd y=> ?_) <;> try simp only[↓reduceIte,Bool.false_eq_true,if_true,if_false])
      | (refine cr (by assumption) ?_;try simp only[↓reduceIte,Bool.false_eq_true,if_true,if_false])
      | (refine qI (by assumption) ?_;try simp only[↓reduceIte,Bool.false_eq_true,if_true,if_false])
      | (refine eK (by assumption) ?_;try simp only[↓reduceIte,Bool.false_eq_true,if_true,if_false])
      | (refine DD.bind (aV (by assumption)) fun y=> ?_;try simp only[↓reduceIte,Bool.false_eq_true,if_true,if_false])
      | (refine DD.bind (ek (by assumption)) fun y=> ?_;try simp only[↓reduceIte,Bool.false_eq_true,if_true,if_false])
   repeat' first
    | exact bI (by assumption) (by first | omega | (simp only at*;omega))
    | exact DD.some
    | exact mO (by assumption)
    | exact aV (by assumption)
    | (refine bm (by assumption) (fun hs s' hR hm=> ?_) (fun hs=> ?_) <;> try simp only[↓reduceIte,Bool.false_eq_true,if_true,if_false])
    | (refine cH (by assumption) ⟨rfl,by decide,by decide⟩ (fun hs s' hR hm=> ?_) (fun p' hd y=> ?_) <;> try simp only[↓reduceIte,Bool.false_eq_true,if_true,if_false])
    | (refine br (by assumption) (fun s' y hR hm=> ?_) (fun p' hd y=> ?_) <;> try simp only[↓reduceIte,Bool.false_eq_true,if_true,if_false])
    | (refine cI (by assumption) (by decide) (fun s' y hR hm=> ?_) (fun p' hd y=> ?_) <;> try simp only[↓reduceIte,Bool.false_eq_true,if_true,if_false])
    | (refine cr (by assumption) ?_;try simp only[↓reduceIte,Bool.false_eq_true,if_true,if_false])
    | (refine qI (by assumption) ?_;try simp only[↓reduceIte,Bool.false_eq_true,if_true,if_false])
    | (refine eK (by assumption) ?_;try simp only[↓reduceIte,Bool.false_eq_true,if_true,if_false])
    | (refine DD.bind (aV (by assumption)) fun y=> ?_;try simp only[↓reduceIte,Bool.false_eq_true,if_true,if_false])
    | (refine DD.bind (ek (by assumption)) fun y=> ?_;try simp only[↓reduceIte,Bool.false_eq_true,if_true,if_false])
  repeat' first
   | exact bI (by assumption) (by first | omega | (simp only at*;omega))
   | exact DD.some
   | exact mO (by assumption)
   | exact aV (by assumption)
   | (refine bm (by assumption) (fun hs s' hR hm=> ?_) (fun hs=> ?_) <;> try simp only[↓reduceIte,Bool.false_eq_true,if_true,if_false])
   | (refine cH (by assumption) ⟨rfl,by decide,by decide⟩ (fun hs s' hR hm=> ?_) (fun p' hd y=> ?_) <;> try simp only[↓reduceIte,Bool.false_eq_true,if_true,if_false])
   | (refine br (by assumption) (fun s' y hR hm=> ?_) (fun p' hd y=> ?_) <;> try simp only[↓reduceIte,Bool.false_eq_true,if_true,if_false])
   | (refine cI (by assumption) (by decide) (fun s' y hR hm=> ?_) (fun p' hd y=> ?_) <;> try simp only[↓reduceIte,Bool.false_eq_true,if_true,if_false])
   | (refine cr (by assumption) ?_;try simp only[↓reduceIte,Bool.false_eq_true,if_true,if_false])
   | (refine qI (by assumption) ?_;try simp only[↓reduceIte,Bool.false_eq_true,if_true,if_false])
   | (refine eK (by assumption) ?_;try simp only[↓reduceIte,Bool.false_eq_true,if_true,if_false])
   | (refine DD.bind (aV (by assumption)) fun y=> ?_;try simp only[↓reduceIte,Bool.false_eq_true,if_true,if_false])
   | (refine DD.bind (ek (by assumption)) fun y=> ?_;try simp only[↓reduceIte,Bool.false_eq_true,if_true,if_false])
 repeat' first
  | exact bI (by assumption) (by first | omega | (simp only at*;omega))
  | exact DD.some
  | exact mO (by assumption)
  | exact aV (by assumption)
  | (refine bm (by assumption) (fun hs s' hR hm=> ?_) (fun hs=> ?_) <;> try simp only[↓reduceIte,Bool.false_eq_true,if_true,if_false])
  | (refine cH (by assumption) ⟨rfl,by decide,by decide⟩ (fun hs s' hR hm=> ?_) (fun p' hd y=> ?_) <;> try simp only[↓reduceIte,Bool.false_eq_true,if_true,if_false])
  | (refine br (by assumption) (fun s' y hR hm=> ?_) (fun p' hd y=> ?_) <;> try simp only[↓reduceIte,Bool.false_eq_true,if_true,if_false])
  | (refine cI (by assumption) (by decide) (fun s' y hR hm=> ?_) (fun p' hd y=> ?_) <;> try simp only[↓reduceIte,Bool.false_eq_true,if_true,if_false])
  | (refine cr (by assumption) ?_;try simp only[↓reduceIte,Bool.false_eq_true,if_true,if_false])
  | (refine qI (by assumption) ?_;try simp only[↓reduceIte,Bool.false_eq_true,if_true,if_false])
  | (refine eK (by assumption) ?_;try simp only[↓reduceIte,Bool.false_eq_true,if_true,if_false])
  | (refine DD.bind (aV (by assumption)) fun y=> ?_;try simp only[↓reduceIte,Bool.false_eq_true,if_true,if_false])
  | (refine DD.bind (ek (by assumption)) fun y=> ?_;try simp only[↓reduceIte,Bool.false_eq_true,if_true,if_false])
theorem MK: ∀ (n:Nat) (s:Rdr) (p:Pst),Rel d s p→rem s+1≤n→Sim d (rem s) (nG n s) (td n p)
 | 0,s,p,h,hn=> by have:=h.rem0;omega
 | n+1,s,p,h,hn=> by
   have hN: ∀s p,Rel d s p→rem s≤(n:Int) -1→Sim d (rem s) (nG n s) (td n p):=fun s p h hr=> MK n s p h (by omega)
   rw[nG,td,gnotE,gnotG]
   refine bm h (fun hs s' hR hm=> ?_) (fun hs=> ?_)
   ·simp only[↓reduceIte,jf,oW]
    exact Sim.bind (m1:=rem s') (hN s' p.step hR (by omega)) (fun s2 p2 y hR2 hm2=> bI hR2 (by first | omega | (simp only at*;omega))) (fun p' y hd=> DD.some)
   ·simp only[Bool.false_eq_true,if_false]
    refine bm h (fun hs s' hR hm=> ?_) (fun hs=> ?_)
    ·simp only[↓reduceIte,jf,oW]
     refine Sim.bind (m1:=rem s') (Qz hN s' p.step hR (by omega)) (fun s2 p2 y hR2 hm2=> ?_) (fun p' y hd=> ?_)
     ·refine br hR2 (fun s3 y hR3 hm3=> ?_) (fun p' hd y=> DD.some)
      exact bI hR3 (by first | omega | (simp only at*;omega))
     ·exact DD.bind (aV hd) fun y=> DD.some
    ·simp only[Bool.false_eq_true,if_false]
     unfold gatomsE
     refine cH h ⟨rfl,by decide,by decide⟩ (fun hs s' hR hm=> ?_) (fun p' hd y=> ?_)
     ·simp only
      split
      ·refine bm hR (fun hs s2 hR2 hm2=> ?_) (fun hs=> ?_)
       ·simp only[↓reduceIte]
        exact(UE hR2).mono (by omega)
       ·simp only[Bool.false_eq_true,if_false]
        exact(Jp hR).mono (by omega)
      ·exact(Jp hR).mono (by omega)
     ·simp only
      split
      ·refine cr hd ?_
       simp only[Bool.false_eq_true,if_false]
       exact N7 hd
      ·exact N7 hd
theorem UC (s:Rdr) (p:Pst) (h:Rel d s p) {n:Nat} (hn:rem s+1≤n):Sim d (rem s) (gorE (nG n) s) (gorG (td n) p):=Qz (r:=rem s) (fun s p h hr=> MK n s p h (by omega)) s p h (Int.le_refl _)
end
end Go.Gv
