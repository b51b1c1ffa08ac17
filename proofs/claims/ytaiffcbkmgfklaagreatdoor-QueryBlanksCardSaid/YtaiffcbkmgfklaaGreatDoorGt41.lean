/- A part of the framework and of the walks: V24. -/
import Derived.Test.YtaiffcbkmgfklaaGreatDoorGt40
set_option linter.unusedSimpArgs false
set_option linter.unusedVariables false

namespace Go.Gv
section
variable {Y Z:Type} {d m:Int} {s:Rdr} {p:Pst}
theorem xc {N:Pst→Option (Pst×Cond)} {k:Nat} {acc:List Cond} (h:Dd p) (hk:1≤k):DD p (qT N k p acc):=by
 obtain _ | k:=k
 ·omega
 rw[qT]
 refine b5 h ?_
 exact DD.some
theorem AK {r:Int} {N:Rdr→Out (Rdr×Cond)} {N':Pst→Option (Pst×Cond)} (hN: ∀s p,Rel d s p→rem s≤r→Sim d (rem s) (N s) (N' p)): ∀ (k:Nat) (s:Rdr) (p:Pst) (acc:List Cond),Rel d s p→rem s≤r→rem s+2≤k→Sim d (rem s) (jc N k s acc) (qT N' k p acc)
 | 0,s,p,acc,h,hr,hk=> by have:=h.rem0;omega
 | k+1,s,p,acc,h,hr,hk=> by
   have h0:=h.rem0
   rw[jc,qT]
   refine be h (fun hs s' hR hm=> ?_) (fun hs=> ?_)
   ·simp only[↓reduceIte]
    have h0':=hR.rem0
    refine Sim.bind (m1:=rem s') (hN s' p.step hR (by omega)) (fun s2 p2 y hR2 hm2=> ?_) (fun p' y hd=> ?_)
    ·exact(AK hN k s2 p2 _ hR2 (by omega) (by omega)).mono (by omega)
    ·exact xc hd (by omega)
   ·simp only[Bool.false_eq_true,if_false]
    exact bz h (Int.le_refl _)
theorem Nn {r:Int} {N:Rdr→Out (Rdr×Cond)} {N':Pst→Option (Pst×Cond)} (hN: ∀s p,Rel d s p→rem s≤r→Sim d (rem s) (N s) (N' p)) (s:Rdr) (p:Pst) (h:Rel d s p) (hr:rem s≤r):Sim d (rem s) (andE N s) (P5 N' p):=by
 have h0:=h.rem0
 unfold andE P5
 simp only[iC,mJ]
 refine Sim.bind (m1:=rem s) (hN s p h hr) (fun s2 p2 y hR2 hm2=> ?_) (fun p' y hd=> ?_)
 ·refine Sim.bind (m1:=rem s2) (AK hN 500 s2 p2 _ hR2 (by omega) (by omega)) (fun s3 p3 y hR3 hm3=> ?_) (fun p' y hd=> ?_)
  ·exact bz hR3 (by first | omega | (simp only at*;omega))
  ·exact DD.some
 ·exact DD.bind (xc hd (by decide)) fun y=> DD.some
theorem Xw {N:Pst→Option (Pst×Cond)} (hN: ∀p,Dd p→DD p (N p)) (h:Dd p):DD p (P5 N p):=by
 unfold P5
 simp only[iC]
 refine DD.bind (hN p h) fun y=> ?_
 exact DD.bind (xc h (by decide)) fun y=> DD.some
theorem Ar {N:Pst→Option (Pst×Cond)} {k:Nat} {acc:List Cond} (h:Dd p) (hk:1≤k):DD p (vg N k p acc):=by
 obtain _ | k:=k
 ·omega
 rw[vg]
 refine b5 h ?_
 exact DD.some
theorem CL {r:Int} {N:Rdr→Out (Rdr×Cond)} {N':Pst→Option (Pst×Cond)} (hN: ∀s p,Rel d s p→rem s≤r→Sim d (rem s) (N s) (N' p)): ∀ (k:Nat) (s:Rdr) (p:Pst) (acc:List Cond),Rel d s p→rem s≤r→rem s+2≤k→Sim d (rem s) (la N k s acc) (vg N' k p acc)
 | 0,s,p,acc,h,hr,hk=> by have:=h.rem0;omega
 | k+1,s,p,acc,h,hr,hk=> by
   have h0:=h.rem0
   rw[la,vg]
   refine be h (fun hs s' hR hm=> ?_) (fun hs=> ?_)
   ·simp only[↓reduceIte]
    have h0':=hR.rem0
    refine Sim.bind (m1:=rem s') (Nn hN s' p.step hR (by omega)) (fun s2 p2 y hR2 hm2=> ?_) (fun p' y hd=> ?_)
    ·exact(CL hN k s2 p2 _ hR2 (by omega) (by omega)).mono (by omega)
    ·exact Ar hd (by omega)
   ·simp only[Bool.false_eq_true,if_false]
    exact bz h (Int.le_refl _)
theorem QW {r:Int} {N:Rdr→Out (Rdr×Cond)} {N':Pst→Option (Pst×Cond)} (hN: ∀s p,Rel d s p→rem s≤r→Sim d (rem s) (N s) (N' p)) (s:Rdr) (p:Pst) (h:Rel d s p) (hr:rem s≤r):Sim d (rem s) (orE N s) (Uy N' p):=by
 have h0:=h.rem0
 unfold orE Uy
 simp only[iC,mJ]
 refine Sim.bind (m1:=rem s) (Nn hN s p h hr) (fun s2 p2 y hR2 hm2=> ?_) (fun p' y hd=> ?_)
 ·refine Sim.bind (m1:=rem s2) (CL hN 500 s2 p2 _ hR2 (by omega) (by omega)) (fun s3 p3 y hR3 hm3=> ?_) (fun p' y hd=> ?_)
  ·exact bz hR3 (by first | omega | (simp only at*;omega))
  ·exact DD.some
 ·exact DD.bind (Ar hd (by decide)) fun y=> DD.some
theorem ZH {N:Pst→Option (Pst×Cond)} (hN: ∀p,Dd p→DD p (N p)) (h:Dd p):DD p (Uy N p):=by
 unfold Uy
 simp only[iC]
 refine DD.bind (Xw hN h) fun y=> ?_
 exact DD.bind (Ar h (by decide)) fun y=> DD.some
theorem OM {g:Pst×B→Option (Pst×Cond)} (h:Rel d s p) (hg:g=fun n=> if n.2=⟨#[105,110]⟩ then(gc n.1 ⟨#[40]⟩).bind fun v=> if v.2 then BS v.1 else AZ v.1 n.2 else AZ n.1 n.2):Sim d (rem s) (atomsE s) ((bE p 110 E0).bind g):=by
 subst hg
 unfold atomsE
 refine cv h ⟨rfl,by decide,by decide⟩ (fun hs s' hR hm=> ?_) (fun p' hd y=> ?_)
 ·simp only
  split
  ·refine be hR (fun hs s2 hR2 hm2=> ?_) (fun hs=> ?_)
   ·simp only[↓reduceIte]
    exact(LW hR2).mono (by omega)
   ·simp only[Bool.false_eq_true,if_false]
    exact(JJ hR).mono (by omega)
  ·exact(JJ hR).mono (by omega)
 ·simp only
  split
  ·refine b5 hd ?_
   simp only[Bool.false_eq_true,if_false]
   exact BY hd
  ·exact BY hd
theorem Xv {n:Nat} (h:Dd p):DD p (DU (n+1) p):=by
 rw[DU,WO]
 refine b5 h ?_
 simp only[Bool.false_eq_true,if_false]
 refine b5 h ?_
 simp only[Bool.false_eq_true,if_false]
 refine DD.bind (aM h) fun y=> ?_
 simp only
 split
 ·refine b5 h ?_
  simp only[Bool.false_eq_true,if_false]
  exact BY h
 ·exact BY h
theorem Nl: ∀ (n:Nat) (s:Rdr) (p:Pst),Rel d s p→rem s+1≤n→Sim d (rem s) (iD n s) (DU n p)
 | 0,s,p,h,hn=> by have:=h.rem0;omega
 | n+1,s,p,h,hn=> by
   have hN: ∀s p,Rel d s p→rem s≤(n:Int) -1→Sim d (rem s) (iD n s) (DU n p):=fun s p h hr=> Nl n s p h (by omega)
   rw[iD,DU,notE,WO]
   refine be h (fun hs s' hR hm=> ?_) (fun hs=> ?_)
   ·simp only[↓reduceIte,iC,mJ]
    exact Sim.bind (m1:=rem s') (hN s' p.step hR (by omega)) (fun s2 p2 y hR2 hm2=> bz hR2 (by first | omega | (simp only at*;omega))) (fun p' y hd=> DD.some)
   ·simp only[Bool.false_eq_true,if_false]
    refine be h (fun hs s' hR hm=> ?_) (fun hs=> ?_)
    ·simp only[↓reduceIte,iC,mJ]
     refine Sim.bind (m1:=rem s') (QW hN s' p.step hR (by omega)) (fun s2 p2 y hR2 hm2=> ?_) (fun p' y hd=> ?_)
     ·refine bj hR2 (fun s3 y hR3 hm3=> ?_) (fun p' hd y=> DD.some)
      exact bz hR3 (by first | omega | (simp only at*;omega))
     ·exact DD.bind (aM hd) fun y=> DD.some
    ·simp only[Bool.false_eq_true,if_false]
     exact OM h rfl
theorem QZ (s:Rdr) (p:Pst) (h:Rel d s p) {n:Nat} (hn:rem s+1≤n):Sim d (rem s) (orE (iD n) s) (Uy (DU n) p):=QW (r:=rem s) (fun s p h hr=> Nl n s p h (by omega)) s p h (Int.le_refl _)
theorem U4 {n:Nat} (h:Dd p):DD p (Uy (DU (n+1)) p):=ZH (fun p h=> Xv h) h
theorem AY {N:Pst→Option (Pst×Glob)} {k:Nat} {acc:List Glob} (h:Dd p) (hk:1≤k):DD p (nB N k p acc):=by
 obtain _ | k:=k
 ·omega
 rw[nB]
 refine b5 h ?_
 exact DD.some
theorem xI {r:Int} {N:Rdr→Out (Rdr×Glob)} {N':Pst→Option (Pst×Glob)} (hN: ∀s p,Rel d s p→rem s≤r→Sim d (rem s) (N s) (N' p)): ∀ (k:Nat) (s:Rdr) (p:Pst) (acc:List Glob),Rel d s p→rem s≤r→rem s+2≤k→Sim d (rem s) (f5 N k s acc) (nB N' k p acc)
 | 0,s,p,acc,h,hr,hk=> by have:=h.rem0;omega
 | k+1,s,p,acc,h,hr,hk=> by
   have h0:=h.rem0
   rw[f5,nB]
   refine be h (fun hs s' hR hm=> ?_) (fun hs=> ?_)
   ·simp only[↓reduceIte]
    have h0':=hR.rem0
    refine Sim.bind (m1:=rem s') (hN s' p.step hR (by omega)) (fun s2 p2 y hR2 hm2=> ?_) (fun p' y hd=> ?_)
    ·exact(xI hN k s2 p2 _ hR2 (by omega) (by omega)).mono (by omega)
    ·exact AY hd (by omega)
   ·simp only[Bool.false_eq_true,if_false]
    exact bz h (Int.le_refl _)
theorem JI {r:Int} {N:Rdr→Out (Rdr×Glob)} {N':Pst→Option (Pst×Glob)} (hN: ∀s p,Rel d s p→rem s≤r→Sim d (rem s) (N s) (N' p)) (s:Rdr) (p:Pst) (h:Rel d s p) (hr:rem s≤r):Sim d (rem s) (gandE N s) (NL N' p):=by
 have h0:=h.rem0
 unfold gandE NL
 simp only[iC,mJ]
 refine Sim.bind (m1:=rem s) (hN s p h hr) (fun s2 p2 y hR2 hm2=> ?_) (fun p' y hd=> ?_)
 ·refine Sim.bind (m1:=rem s2) (xI hN 500 s2 p2 _ hR2 (by omega) (by omega)) (fun s3 p3 y hR3 hm3=> ?_) (fun p' y hd=> ?_)
  ·exact bz hR3 (by first | omega | (simp only at*;omega))
  ·exact DD.some
 ·exact DD.bind (AY hd (by decide)) fun y=> DD.some
theorem EQ {N:Pst→Option (Pst×Glob)} {k:Nat} {acc:List Glob} (h:Dd p) (hk:1≤k):DD p (qM N k p acc):=by
 obtain _ | k:=k
 ·omega
 rw[qM]
 refine b5 h ?_
 exact DD.some
theorem AJ {r:Int} {N:Rdr→Out (Rdr×Glob)} {N':Pst→Option (Pst×Glob)} (hN: ∀s p,Rel d s p→rem s≤r→Sim d (rem s) (N s) (N' p)): ∀ (k:Nat) (s:Rdr) (p:Pst) (acc:List Glob),Rel d s p→rem s≤r→rem s+2≤k→Sim d (rem s) (iG N k s acc) (qM N' k p acc)
 | 0,s,p,acc,h,hr,hk=> by have:=h.rem0;omega
 | k+1,s,p,acc,h,hr,hk=> by
   have h0:=h.rem0
   rw[iG,qM]
   refine be h (fun hs s' hR hm=> ?_) (fun hs=> ?_)
   ·simp only[↓reduceIte]
    have h0':=hR.rem0
    refine Sim.bind (m1:=rem s') (JI hN s' p.step hR (by omega)) (fun s2 p2 y hR2 hm2=> ?_) (fun p' y hd=> ?_)
    ·exact(AJ hN k s2 p2 _ hR2 (by omega) (by omega)).mono (by omega)
    ·exact EQ hd (by omega)
   ·simp only[Bool.false_eq_true,if_false]
    exact bz h (Int.le_refl _)
theorem Nm {r:Int} {N:Rdr→Out (Rdr×Glob)} {N':Pst→Option (Pst×Glob)} (hN: ∀s p,Rel d s p→rem s≤r→Sim d (rem s) (N s) (N' p)) (s:Rdr) (p:Pst) (h:Rel d s p) (hr:rem s≤r):Sim d (rem s) (gorE N s) (R3 N' p):=by
 have h0:=h.rem0
 unfold gorE R3
 simp only[iC,mJ]
 refine Sim.bind (m1:=rem s) (JI hN s p h hr) (fun s2 p2 y hR2 hm2=> ?_) (fun p' y hd=> ?_)
 ·refine Sim.bind (m1:=rem s2) (AJ hN 500 s2 p2 _ hR2 (by omega) (by omega)) (fun s3 p3 y hR3 hm3=> ?_) (fun p' y hd=> ?_)
  ·exact bz hR3 (by first | omega | (simp only at*;omega))
  ·exact DD.some
 ·exact DD.bind (EQ hd (by decide)) fun y=> DD.some
theorem BQ {k:Rdr×Int→Out (Rdr×Y)} {g:Pst×Int→Option (Pst×Y)} (h:Rel d s p) (h1: ∀s' y,Rel d s' p.step→rem s' < rem s→Sim d m (k (s',y)) (g (p.step,y)))
 (h2: ∀p',Dd p'→ ∀y,DD p' (g (p',y))):Sim d m ((bigE s).bind k) ((MT p).bind g):=by
 unfold bigE MT
 rw[h.now,bP]
 exact cw h (by decide) h1 h2
theorem xb (h:Dd p):DD p (MT p):=by
 obtain⟨t,ht⟩:=h.now
 unfold MT
 rw[ht,bP]
 exact dX h
theorem CK {k:Rdr×Int→Out (Rdr×Y)} {g:Pst×Int→Option (Pst×Y)} (h:Rel d s p) (h1: ∀s' p' y,Rel d s' p'→rem s' < rem s→Sim d m (k (s',y)) (g (p',y)))
 (h2: ∀p',Dd p'→ ∀y,DD p' (g (p',y))):Sim d m ((signedE s).bind k) ((vb p).bind g):=by
 unfold signedE vb
 rw[ph,Out.bind_bind]
 refine be h (fun hs s' hR hm=> ?_) (fun hs=> ?_)
 ·simp only[↓reduceIte,iC,mJ,ph,Out.bind_bind,bP,Out.bind_ok]
  exact BQ hR (fun s2 y hR2 hm2=> h1 s2 _ _ hR2 (by omega)) (fun p' hd y=> h2 p' hd _)
 ·simp only[Bool.false_eq_true,if_false,iC,ph,bP]
  exact BQ h (fun s2 y hR2 hm2=> h1 _ _ _ hR2 (by omega)) (fun p' hd y=> h2 p' hd _)
theorem nC (h:Dd p):DD p (vb p):=by
 unfold vb
 simp only[iC]
 refine b5 h ?_
 exact DD.bind (xb h) fun y=> DD.some
theorem NY {k:Nat} {acc:List B} (h:Dd p) (hk:1≤k):DD p (nE k p acc):=by
 obtain _ | k:=k
 ·omega
 rw[nE]
 refine b5 h ?_
 exact DD.some
theorem JK: ∀ (k:Nat) (s:Rdr) (p:Pst) (acc:List B),Rel d s p→rem s+2≤k→Sim d (rem s) (ge k s acc) (nE k p acc)
 | 0,s,p,acc,h,hk=> by have:=h.rem0;omega
 | k+1,s,p,acc,h,hk=> by
   have h0:=h.rem0
   rw[ge,nE]
   refine be h (fun hs s' hR hm=> ?_) (fun hs=> ?_)
   ·simp only[↓reduceIte]
    have h0':=hR.rem0
    refine cv hR ⟨rfl,by decide,by decide⟩ (fun hs s2 hR2 hm2=> ?_) (fun p' hd y=> ?_)
    ·exact(JK k s2 _ _ hR2 (by omega)).mono (by omega)
    ·exact NY hd (by omega)
   ·simp only[Bool.false_eq_true,if_false]
    exact bz h (Int.le_refl _)
theorem BX {op:Int} {a b:B} (h:Dd p):DD p (Dm p op a b):=by
 unfold Dm
 simp only[iC]
 split
 ·refine DD.bind (aM h) fun y=> DD.bind (nC h) fun y=> DD.bind (aM h) fun y=> DD.bind (nC h) fun y=> DD.some
 ·split
  ·refine DD.bind (aM h) fun y=> DD.bind (xb h) fun y=> DD.bind (aM h) fun y=> DD.bind (xb h) fun y=> DD.some
  ·split
   ·refine DD.bind (aM h) fun y=> DD.bind (aM h) fun y=> DD.some
   ·split
    ·exact DD.bind (NY h (by decide)) fun y=> DD.some
    ·exact DD.some
theorem Q0 {op:Int} (h:Rel d s p):Sim d (rem s) ((dg s 2).bind fun a=> (argsE a.1 op a.2).bind fun g=> (de g.1 [⟨#[41]⟩]).map fun z=> (z,g.2)) (SN p op):=by
 unfold SN
 refine cv h ⟨rfl,by decide,by decide⟩ (fun hs s' hR hm=> ?_) (fun p' hd y=> ?_)
 ·have h0:=hR.rem0
  simp only[iC,mJ,ot]
  unfold argsE Dm
  by_cases e1:op=1
  ·subst e1
   simp only[↓reduceIte,ne_eq,not_true_eq_false,false_and,Out.bind_ok,show ¬ (1:Int)=4 by decide,show ¬ (1:Int)=10 by decide,show ¬ ((1:Int)=5∨(1:Int)=9) by decide,show ¬ (1:Int)=8 by decide,bP]
   repeat' first
    | exact bz (by assumption) (by first | omega | (simp only at*;omega))
    | exact DD.some
    | exact lu (by assumption)
    | exact aM (by assumption)
    | (refine be (by assumption) (fun hs s' hR hm=> ?_) (fun hs=> ?_) <;> try simp only[↓reduceIte,Bool.false_eq_true,if_true,if_false])
    | (refine cv (by assumption) ⟨rfl,by decide,by decide⟩ (fun hs s' hR hm=> ?_) (fun p' hd y=> ?_) <;> try simp only[↓reduceIte,Bool.false_eq_true,if_true,if_false])
    | (refine bj (by assumption) (fun s' y hR hm=> ?_) (fun p' hd y=> ?_) <;> try simp only[↓reduceIte,Bool.false_eq_true,if_true,if_false])
    | (refine cw (by assumption) (by decide) (fun s' y hR hm=> ?_) (fun p' hd y=> ?_) <;> try simp only[↓reduceIte,Bool.false_eq_true,if_true,if_false])
    | (refine b5 (by assumption) ?_;try simp only[↓reduceIte,Bool.false_eq_true,if_true,if_false])
    | (refine oo (by assumption) ?_;try simp only[↓reduceIte,Bool.false_eq_true,if_true,if_false])
    | (refine em (by assumption) ?_;try simp only[↓reduceIte,Bool.false_eq_true,if_true,if_false])
    | (refine DD.bind (aM (by assumption)) fun y=> ?_;try simp only[↓reduceIte,Bool.false_eq_true,if_true,if_false])
    | (refine DD.bind (dX (by assumption)) fun y=> ?_;try simp only[↓reduceIte,Bool.false_eq_true,if_true,if_false])
  ·by_cases e2:op=10
   ·subst e2
    simp only[↓reduceIte,ne_eq,not_true_eq_false,and_false,show ¬ (10:Int)=1 by decide,show ¬ (10:Int)=4 by decide,Out.bind_bind,ph,bP,iC,mJ,Out.bind_ok]
    refine bj hR (fun s2 y hR2 hm2=> ?_) (fun p' hd y=> ?_)
    ·refine BQ hR2 (fun s3 y hR3 hm3=> ?_) (fun p' hd y=> ?_)
     ·refine bj hR3 (fun s4 y hR4 hm4=> ?_) (fun p' hd y=> ?_)
      ·refine BQ hR4 (fun s5 y hR5 hm5=> ?_) (fun p' hd y=> ?_)
       ·refine bj hR5 (fun s6 y hR6 hm6=> bz hR6 (by first | omega | (simp only at*;omega))) (fun p' hd y=> DD.some)
       ·exact DD.bind (aM hd) fun y=> DD.some
      ·exact DD.bind (xb hd) fun y=> DD.bind (aM hd) fun y=> DD.some
     ·exact DD.bind (aM hd) fun y=> DD.bind (xb hd) fun y=> DD.bind (aM hd) fun y=> DD.some
    ·exact DD.bind (xb hd) fun y=> DD.bind (aM hd) fun y=> DD.bind (xb hd) fun y=> DD.bind (aM hd) fun y=> DD.some
   ·simp only[e1,e2,ot, ↓reduceIte,ne_eq,not_false_eq_true,and_self,Out.bind_bind,ph]
    refine bj hR (fun s2 y hR2 hm2=> ?_) (fun p' hd y=> ?_)
    ·refine cv hR2 ⟨rfl,by decide,by decide⟩ (fun hs s3 hR3 hm3=> ?_) (fun p' hd y=> ?_)
     ·have h03:=hR3.rem0
      simp only
      by_cases e4:op=4
      ·simp only[e4, ↓reduceIte,Out.bind_bind,ph,iC,mJ,bP,Out.bind_ok]
       refine bj hR3 (fun s4 y hR4 hm4=> ?_) (fun p' hd y=> ?_)
       ·refine CK hR4 (fun s5 p5 y hR5 hm5=> ?_) (fun p' hd y=> ?_)
        ·refine bj hR5 (fun s6 y hR6 hm6=> ?_) (fun p' hd y=> ?_)
         ·refine CK hR6 (fun s7 p7 y hR7 hm7=> ?_) (fun p' hd y=> ?_)
          ·refine bj hR7 (fun s8 y hR8 hm8=> bz hR8 (by first | omega | (simp only at*;omega))) (fun p' hd y=> DD.some)
          ·exact DD.bind (aM hd) fun y=> DD.some
         ·exact DD.bind (nC hd) fun y=> DD.bind (aM hd) fun y=> DD.some
        ·exact DD.bind (aM hd) fun y=> DD.bind (nC hd) fun y=> DD.bind (aM hd) fun y=> DD.some
       ·exact DD.bind (nC hd) fun y=> DD.bind (aM hd) fun y=> DD.bind (nC hd) fun y=> DD.bind (aM hd) fun y=> DD.some
      ·by_cases e5:op=5∨op=9
       ·simp only[e4,e5,ot, ↓reduceIte,Out.bind_bind,ph,iC,mJ,bP,Out.bind_ok]
        repeat' first
         | exact bz (by assumption) (by first | omega | (simp only at*;omega))
         | exact DD.some
         | exact lu (by assumption)
         | exact aM (by assumption)
         | (refine be (by assumption) (fun hs s' hR hm=> ?_) (fun hs=> ?_) <;> try simp only[↓reduceIte,Bool.false_eq_true,if_true,if_false])
         | (refine cv (by assumption) ⟨rfl,by decide,by decide⟩ (fun hs s' hR hm=> ?_) (fun p' hd y=> ?_) <;> try simp only[↓reduceIte,Bool.false_eq_true,if_true,if_false])
         | (refine bj (by assumption) (fun s' y hR hm=> ?_) (fun p' hd y=> ?_) <;> try simp only[↓reduceIte,Bool.false_eq_true,if_true,if_false])
         | (refine cw (by assumption) (by decide) (fun s' y hR hm=> ?_) (fun p' hd y=> ?_) <;> try simp only[↓reduceIte,Bool.false_eq_true,if_true,if_false])
         | (refine b5 (by assumption) ?_;try simp only[↓reduceIte,Bool.false_eq_true,if_true,if_false])
         | (refine oo (by assumption) ?_;try simp only[↓reduceIte,Bool.false_eq_true,if_true,if_false])
         | (refine em (by assumption) ?_;try simp only[↓reduceIte,Bool.false_eq_true,if_true,if_false])
         | (refine DD.bind (aM (by assumption)) fun y=> ?_;try simp only[↓reduceIte,Bool.false_eq_true,if_true,if_false])
         | (refine DD.bind (dX (by assumption)) fun y=> ?_;try simp only[↓reduceIte,Bool.false_eq_true,if_true,if_false])
       ·by_cases e8:op=8
        ·simp only[e4,e5,e8, ↓reduceIte,Out.bind_bind,ph,iC,mJ,bP,Out.bind_ok,show ¬ (8:Int)=4 by decide,show ¬ ((8:Int)=5∨(8:Int)=9) by decide]
         refine Sim.bind (m1:=rem s3) (JK 500 s3 _ [] hR3 (by omega)) (fun s4 p4 y hR4 hm4=> ?_) (fun p' y hd=> ?_)
         ·refine bj hR4 (fun s8 y hR8 hm8=> bz hR8 (by first | omega | (simp only at*;omega))) (fun p' hd y=> DD.some)
         ·exact DD.bind (aM hd) fun y=> DD.some
        ·simp only[e4,e5,e8, ↓reduceIte,bP,Out.bind_ok]
         refine bj hR3 (fun s8 y hR8 hm8=> bz hR8 (by first | omega | (simp only at*;omega))) (fun p' hd y=> DD.some)
     ·simp only
      refine DD.bind ?_ fun y=> ?_
      ·have hd2:=BX (op:=op) (a:=s.text) (b:=y) hd
       simp only[Dm,e2, ↓reduceIte] at hd2
       exact hd2
      ·exact DD.bind (aM hd) fun y=> DD.some
    ·refine DD.bind (aM hd) fun y=> ?_
     refine DD.bind ?_ fun y=> ?_
     ·have hd2:=BX (op:=op) (a:=s.text) (b:=y) hd
      simp only[Dm,e2, ↓reduceIte] at hd2
      exact hd2
     ·exact DD.bind (aM hd) fun y=> DD.some
 ·simp only[iC]
  split
  ·refine DD.bind (aM hd) fun y=> DD.bind (aM hd) fun y=> DD.bind (BX hd) fun y=> DD.bind (aM hd) fun y=> DD.some
  ·refine DD.bind (BX hd) fun y=> DD.bind (aM hd) fun y=> DD.some
theorem K3 {n:B} (h:Dd p):DD p (Ag p n):=by
 unfold Ag
 simp only[iC]
 repeat' first
  | exact bz (by assumption) (by first | omega | (simp only at*;omega))
  | exact DD.some
  | exact lu (by assumption)
  | exact aM (by assumption)
  | (refine be (by assumption) (fun hs s' hR hm=> ?_) (fun hs=> ?_) <;> try simp only[↓reduceIte,Bool.false_eq_true,if_true,if_false])
  | (refine cv (by assumption) ⟨rfl,by decide,by decide⟩ (fun hs s' hR hm=> ?_) (fun p' hd y=> ?_) <;> try simp only[↓reduceIte,Bool.false_eq_true,if_true,if_false])
  | (refine bj (by assumption) (fun s' y hR hm=> ?_) (fun p' hd y=> ?_) <;> try simp only[↓reduceIte,Bool.false_eq_true,if_true,if_false])
  | (refine cw (by assumption) (by decide) (fun s' y hR hm=> ?_) (fun p' hd y=> ?_) <;> try simp only[↓reduceIte,Bool.false_eq_true,if_true,if_false])
  | (refine b5 (by assumption) ?_;try simp only[↓reduceIte,Bool.false_eq_true,if_true,if_false])
  | (refine oo (by assumption) ?_;try simp only[↓reduceIte,Bool.false_eq_true,if_true,if_false])
  | (refine em (by assumption) ?_;try simp only[↓reduceIte,Bool.false_eq_true,if_true,if_false])
  | (refine DD.bind (aM (by assumption)) fun y=> ?_;try simp only[↓reduceIte,Bool.false_eq_true,if_true,if_false])
  | (refine DD.bind (dX (by assumption)) fun y=> ?_;try simp only[↓reduceIte,Bool.false_eq_true,if_true,if_false])
theorem Gt {n:B} (h:Rel d s p):Sim d (rem s) (uN s n) (Ag p n):=by
 unfold uN Ag
 simp only[iC,mJ]
 refine bj h (fun s2 y hR2 hm2=> ?_) (fun p' hd y=> ?_)
 ·refine cv hR2 ⟨rfl,by decide,by decide⟩ (fun hs s3 hR3 hm3=> ?_) (fun p' hd y=> ?_)
  ·refine bj hR3 (fun s4 y hR4 hm4=> ?_) (fun p' hd y=> ?_)
   ·refine CM hR4 (fun e=> ?_) (fun e=> ?_)
    ·have e':s4.kind=2:=(mB hR4.kind).2.2.1.1 e
     rw[if_pos e']
     simp only[if_true]
     repeat' first
      | exact bz (by assumption) (by first | omega | (simp only at*;omega))
      | exact DD.some
      | exact lu (by assumption)
      | exact aM (by assumption)
      | (refine be (by assumption) (fun hs s' hR hm=> ?_) (fun hs=> ?_) <;> try simp only[↓reduceIte,Bool.false_eq_true,if_true,if_false])
      | (refine cv (by assumption) ⟨rfl,by decide,by decide⟩ (fun hs s' hR hm=> ?_) (fun p' hd y=> ?_) <;> try simp only[↓reduceIte,Bool.false_eq_true,if_true,if_false])
      | (refine bj (by assumption) (fun s' y hR hm=> ?_) (fun p' hd y=> ?_) <;> try simp only[↓reduceIte,Bool.false_eq_true,if_true,if_false])
      | (refine cw (by assumption) (by decide) (fun s' y hR hm=> ?_) (fun p' hd y=> ?_) <;> try simp only[↓reduceIte,Bool.false_eq_true,if_true,if_false])
      | (refine b5 (by assumption) ?_;try simp only[↓reduceIte,Bool.false_eq_true,if_true,if_false])
      | (refine oo (by assumption) ?_;try simp only[↓reduceIte,Bool.false_eq_true,if_true,if_false])
      | (refine em (by assumption) ?_;try simp only[↓reduceIte,Bool.false_eq_true,if_true,if_false])
      | (refine DD.bind (aM (by assumption)) fun y=> ?_;try simp only[↓reduceIte,Bool.false_eq_true,if_true,if_false])
      | (refine DD.bind (dX (by assumption)) fun y=> ?_;try simp only[↓reduceIte,Bool.false_eq_true,if_true,if_false])
    ·have e': ¬s4.kind=2:=fun h=> e ((mB hR4.kind).2.2.1.2 h)
     rw[if_neg e']
     simp only[Bool.false_eq_true,if_false]
     repeat' first
      | exact bz (by assumption) (by first | omega | (simp only at*;omega))
      | exact DD.some
      | exact lu (by assumption)
      | exact aM (by assumption)
      | (refine be (by assumption) (fun hs s' hR hm=> ?_) (fun hs=> ?_) <;> try simp only[↓reduceIte,Bool.false_eq_true,if_true,if_false])
      | (refine cv (by assumption) ⟨rfl,by decide,by decide⟩ (fun hs s' hR hm=> ?_) (fun p' hd y=> ?_) <;> try simp only[↓reduceIte,Bool.false_eq_true,if_true,if_false])
      | (refine bj (by assumption) (fun s' y hR hm=> ?_) (fun p' hd y=> ?_) <;> try simp only[↓reduceIte,Bool.false_eq_true,if_true,if_false])
      | (refine cw (by assumption) (by decide) (fun s' y hR hm=> ?_) (fun p' hd y=> ?_) <;> try simp only[↓reduceIte,Bool.false_eq_true,if_true,if_false])
      | (refine b5 (by assumption) ?_;try simp only[↓reduceIte,Bool.false_eq_true,if_true,if_false])
      | (refine oo (by assumption) ?_;try simp only[↓reduceIte,Bool.false_eq_true,if_true,if_false])
      | (refine em (by assumption) ?_;try simp only[↓reduceIte,Bool.false_eq_true,if_true,if_false])
      | (refine DD.bind (aM (by assumption)) fun y=> ?_;try simp only[↓reduceIte,Bool.false_eq_true,if_true,if_false])
      | (refine DD.bind (dX (by assumption)) fun y=> ?_;try simp only[↓reduceIte,Bool.false_eq_true,if_true,if_false])
   repeat' first
    | exact bz (by assumption) (by first | omega | (simp only at*;omega))
    | exact DD.some
    | exact lu (by assumption)
    | exact aM (by assumption)
    | (refine be (by assumption) (fun hs s' hR hm=> ?_) (fun hs=> ?_) <;> try simp only[↓reduceIte,Bool.false_eq_true,if_true,if_false])
    | (refine cv (by assumption) ⟨rfl,by decide,by decide⟩ (fun hs s' hR hm=> ?_) (fun p' hd y=> ?_) <;> try simp only[↓reduceIte,Bool.false_eq_true,if_true,if_false])
    | (refine bj (by assumption) (fun s' y hR hm=> ?_) (fun p' hd y=> ?_) <;> try simp only[↓reduceIte,Bool.false_eq_true,if_true,if_false])
    | (refine cw (by assumption) (by decide) (fun s' y hR hm=> ?_) (fun p' hd y=> ?_) <;> try simp only[↓reduceIte,Bool.false_eq_true,if_true,if_false])
    | (refine b5 (by assumption) ?_;try simp only[↓reduceIte,Bool.false_eq_true,if_true,if_false])
    | (refine oo (by assumption) ?_;try simp only[↓reduceIte,Bool.false_eq_true,if_true,if_false])
    | (refine em (by assumption) ?_;try simp only[↓reduceIte,Bool.false_eq_true,if_true,if_false])
    | (refine DD.bind (aM (by assumption)) fun y=> ?_;try simp only[↓reduceIte,Bool.false_eq_true,if_true,if_false])
    | (refine DD.bind (dX (by assumption)) fun y=> ?_;try simp only[↓reduceIte,Bool.false_eq_true,if_true,if_false])
  repeat' first
   | exact bz (by assumption) (by first | omega | (simp only at*;omega))
   | exact DD.some
   | exact lu (by assumption)
   | exact aM (by assumption)
   | (refine be (by assumption) (fun hs s' hR hm=> ?_) (fun hs=> ?_) <;> try simp only[↓reduceIte,Bool.false_eq_true,if_true,if_false])
   | (refine cv (by assumption) ⟨rfl,by decide,by decide⟩ (fun hs s' hR hm=> ?_) (fun p' hd y=> ?_) <;> try simp only[↓reduceIte,Bool.false_eq_true,if_true,if_false])
   | (refine bj (by assumption) (fun s' y hR hm=> ?_) (fun p' hd y=> ?_) <;> try simp only[↓reduceIte,Bool.false_eq_true,if_true,if_false])
   | (refine cw (by assumption) (by decide) (fun s' y hR hm=> ?_) (fun p' hd y=> ?_) <;> try simp only[↓reduceIte,Bool.false_eq_true,if_true,if_false])
   | (refine b5 (by assumption) ?_;try simp only[↓reduceIte,Bool.false_eq_true,if_true,if_false])
   | (refine oo (by assumption) ?_;try simp only[↓reduceIte,Bool.false_eq_true,if_true,if_false])
   | (refine em (by assumption) ?_;try simp only[↓reduceIte,Bool.false_eq_true,if_true,if_false])
   | (refine DD.bind (aM (by assumption)) fun y=> ?_;try simp only[↓reduceIte,Bool.false_eq_true,if_true,if_false])
   | (refine DD.bind (dX (by assumption)) fun y=> ?_;try simp only[↓reduceIte,Bool.false_eq_true,if_true,if_false])
 repeat' first
  | exact bz (by assumption) (by first | omega | (simp only at*;omega))
  | exact DD.some
  | exact lu (by assumption)
  | exact aM (by assumption)
  | (refine be (by assumption) (fun hs s' hR hm=> ?_) (fun hs=> ?_) <;> try simp only[↓reduceIte,Bool.false_eq_true,if_true,if_false])
  | (refine cv (by assumption) ⟨rfl,by decide,by decide⟩ (fun hs s' hR hm=> ?_) (fun p' hd y=> ?_) <;> try simp only[↓reduceIte,Bool.false_eq_true,if_true,if_false])
  | (refine bj (by assumption) (fun s' y hR hm=> ?_) (fun p' hd y=> ?_) <;> try simp only[↓reduceIte,Bool.false_eq_true,if_true,if_false])
  | (refine cw (by assumption) (by decide) (fun s' y hR hm=> ?_) (fun p' hd y=> ?_) <;> try simp only[↓reduceIte,Bool.false_eq_true,if_true,if_false])
  | (refine b5 (by assumption) ?_;try simp only[↓reduceIte,Bool.false_eq_true,if_true,if_false])
  | (refine oo (by assumption) ?_;try simp only[↓reduceIte,Bool.false_eq_true,if_true,if_false])
  | (refine em (by assumption) ?_;try simp only[↓reduceIte,Bool.false_eq_true,if_true,if_false])
  | (refine DD.bind (aM (by assumption)) fun y=> ?_;try simp only[↓reduceIte,Bool.false_eq_true,if_true,if_false])
  | (refine DD.bind (dX (by assumption)) fun y=> ?_;try simp only[↓reduceIte,Bool.false_eq_true,if_true,if_false])
theorem JH: ∀ (n:Nat) (s:Rdr) (p:Pst),Rel d s p→rem s+1≤n→Sim d (rem s) (j9 n s) (Eu n p)
 | 0,s,p,h,hn=> by have:=h.rem0;omega
 | n+1,s,p,h,hn=> by
   have hN: ∀s p,Rel d s p→rem s≤(n:Int) -1→Sim d (rem s) (j9 n s) (Eu n p):=fun s p h hr=> JH n s p h (by omega)
   rw[j9,Eu,gnotE,VE]
   refine be h (fun hs s' hR hm=> ?_) (fun hs=> ?_)
   ·simp only[↓reduceIte,iC,mJ]
    exact Sim.bind (m1:=rem s') (hN s' p.step hR (by omega)) (fun s2 p2 y hR2 hm2=> bz hR2 (by first | omega | (simp only at*;omega))) (fun p' y hd=> DD.some)
   ·simp only[Bool.false_eq_true,if_false]
    refine be h (fun hs s' hR hm=> ?_) (fun hs=> ?_)
    ·simp only[↓reduceIte,iC,mJ]
     refine Sim.bind (m1:=rem s') (Nm hN s' p.step hR (by omega)) (fun s2 p2 y hR2 hm2=> ?_) (fun p' y hd=> ?_)
     ·refine bj hR2 (fun s3 y hR3 hm3=> ?_) (fun p' hd y=> DD.some)
      exact bz hR3 (by first | omega | (simp only at*;omega))
     ·exact DD.bind (aM hd) fun y=> DD.some
    ·simp only[Bool.false_eq_true,if_false]
     unfold gatomsE
     refine cv h ⟨rfl,by decide,by decide⟩ (fun hs s' hR hm=> ?_) (fun p' hd y=> ?_)
     ·simp only
      split
      ·refine be hR (fun hs s2 hR2 hm2=> ?_) (fun hs=> ?_)
       ·simp only[↓reduceIte]
        exact(Q0 hR2).mono (by omega)
       ·simp only[Bool.false_eq_true,if_false]
        exact(Gt hR).mono (by omega)
      ·exact(Gt hR).mono (by omega)
     ·simp only
      split
      ·refine b5 hd ?_
       simp only[Bool.false_eq_true,if_false]
       exact K3 hd
      ·exact K3 hd
theorem QY (s:Rdr) (p:Pst) (h:Rel d s p) {n:Nat} (hn:rem s+1≤n):Sim d (rem s) (gorE (j9 n) s) (R3 (Eu n) p):=Nm (r:=rem s) (fun s p h hr=> JH n s p h (by omega)) s p h (Int.le_refl _)
end
end Go.Gv
