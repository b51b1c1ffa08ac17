/- A part of the framework and of the walks: S7 T1. -/
import Derived.Test.YtaiffcbkmgfklaaGreatDoorGu04
set_option linter.unusedSimpArgs false
set_option linter.unusedVariables false

namespace Go.Gv
section
variable {P:Program} {im:List Nat} {o:Oper} {c:COp} {a:Act} {E:pR} {tp:Nat→Prop} {H:ab} {w:World} {σ:Sg}
theorem lR (hc:em P im o=some c):o.op.operands.toList.all uS=true:=by
 unfold em at hc
 split at hc
 ·cases hc
 ·rename_i h;simpa using h
theorem Pp {K:D→Prop} {Hr:ab} (hc:em P im o=some c) (hro:c.isRead=true) (hst:StW E tp H w) (hr: ∀t,R tp (cm E.O tp H w) w (a.tmps.getD t undef) (σ t))
 (hle: ∀i r,Hr i=some r→H i=some r) (hv:aM c σ Hr K):GoodN P o a E tp H w K:=by
 have hops:=lR hc
 have hsat: ∀i r,H i=some r→ResOk (R tp (cm E.O tp H w) w) w r:=hst.sat.ok
 unfold em at hc
 rw[if_neg (by simpa using hops)] at hc
 have hev: ∀x,x∈o.op.operands→R tp (cm E.O tp H w) w (a.eval x) (ev σ x):=fun x hx=> SU hr x (List.all_eq_true.1 hops x (by simpa using hx))
 cases hop:o.op with
 | move x=>
   simp only[hop] at hc;cases hc
   exact(Q0 (.inl hop) (hev x (by simp[hop,Op.operands])) hv).toN
 | assign x=>
   simp only[hop] at hc;cases hc
   exact(Q0 (.inr hop) (hev x (by simp[hop,Op.operands])) hv).toN
 | pick q x y=>
   simp only[hop] at hc;cases hc
   exact(SH hop (hev q (by simp[hop,Op.operands])) (hev x (by simp[hop,Op.operands])) (hev y (by simp[hop,Op.operands])) hv).toN
 | alloc el=>
   simp only[hop,Option.bind_eq_bind,Option.bind_eq_some_iff,Option.some.injEq] at hc
   obtain⟨z,_,rfl⟩:=hc
   simp[COp.isRead] at hro
 | box el x=>
   simp only[hop] at hc
   split at hc
   ·cases hc;cases hro
   cases hc
   cases hcon:Ws im o.dst with
   | false=> rw[hcon] at hro;cases hro
   | true=>
     rw[hcon] at hv
     exact SL hst hop (hev x (by simp[hop,Op.operands])) hv
 | build t parts=>
   simp only[hop,Option.bind_eq_bind,Option.bind_eq_some_iff] at hc
   obtain⟨z,hz,hc⟩:=hc
   split at hc
   ·rename_i fs hu
    obtain⟨ps,hps,hc⟩:=Option.bind_eq_some_iff.1 hc
    split at hc
    ·rename_i hall
     cases hc
     exact(PU hop hz hu (by simpa using hps) hall (fun p hp=> hev p.2 (by
      simp only[hop,Op.operands]
      simp only[List.mem_toArray,List.mem_map]
      exact⟨p,hp,rfl⟩)) hv).toN
    ·cases hc
   ·rename_i len el hu
    simp only[Option.bind_eq_some_iff] at hc
    obtain⟨sz,hs,ps,hps,hc⟩:=hc
    cases hc
    exact(ND hop hz hu hs hps (fun p hp=> hev p.2 (by
     simp only[hop,Op.operands]
     simp only[List.mem_toArray,List.mem_map]
     exact⟨p,hp,rfl⟩)) hv).toN
   ·cases hc
 | buildSlice t len parts=>
   simp only[hop,Option.bind_eq_bind] at hc
   split at hc
   ·rename_i el hu
    simp only[Option.bind_eq_some_iff] at hc
    obtain⟨n,hn,z,hz,ps,hps,hc⟩:=hc
    split at hc
    ·rename_i hcond
     simp only[Bool.and_eq_true,decide_eq_true_eq] at hcond
     split at hc
     ·cases hc;simp[COp.isRead] at hro
     ·rename_i hl0
      split at hc
      ·cases hc;simp[COp.isRead] at hro
      cases hc
      refine NE hst hop hu hn hz hps hcond.1 hcond.2 hl0 (fun x hx=> hev x ?_) hv
      unfold sy at hps
      split at hps
      ·cases hps
       simp only[hop,Op.operands]
       simpa using hx
      ·cases hps
    ·cases hc
   ·cases hc
 | insert t m k v=> simp[hop] at hc
 | load t x=>
   simp only[hop,Option.bind_eq_bind,Option.bind_eq_some_iff] at hc
   obtain⟨agg,ha,sz,hs,hc⟩:=hc
   split at hc
   ·rename_i h1
    cases hc
    exact(JL hop ha hs (by simpa using h1) (hev x (by simp[hop,Op.operands])) hle hsat hv).toN
   ·cases hc
 | store t x y=>
   simp only[hop,Option.bind_eq_bind,Option.bind_eq_some_iff,Option.some.injEq] at hc
   obtain⟨z,_,rfl⟩:=hc
   simp[COp.isRead] at hro
 | ready g=> simp[hop] at hc
 | waits g=> simp[hop] at hc
 | nilCheck x=>
   simp only[hop] at hc;cases hc
   exact(PQ hop (hev x (by simp[hop,Op.operands])) hv).toN
 | binOp op t x y u=>
   simp only[hop] at hc
   have hx:=hev x (by simp[hop,Op.operands])
   have hy:=hev y (by simp[hop,Op.operands])
   split at hc
   ·split at hc
    ·cases hc;exact(qB hop (.inl rfl) hx hy hv).toN
    ·split at hc
     ·cases hc;exact(SG hop hx hy hv).toN
     ·cases hc
   ·split at hc
    ·cases hc;exact(qB hop (by simp) hx hy hv).toN
    ·cases hc
   ·split at hc
    ·cases hc;exact(qB hop (by simp) hx hy hv).toN
    ·cases hc
   ·split at hc
    ·cases hc;exact(qB hop (by simp) hx hy hv).toN
    ·cases hc
   ·split at hc
    ·cases hc;exact(qB hop (by simp) hx hy hv).toN
    ·cases hc
   iterate 4
    ·split at hc
     ·cases hc;exact(NC hop hx hy hv).toN
     ·split at hc
      ·cases hc;exact(NC hop hx hy hv).toN
      ·cases hc
   ·exact(NB (neg:=false) (by simpa using hop) hc hx hy hv).toN
   ·exact(NB (neg:=true) (by simpa using hop) hc hx hy hv).toN
   ·cases hc
 | unOp op t x=>
   cases op <;> simp only[hop] at hc <;> cases hc
   ·exact(VL hop (hev x (by simp[hop,Op.operands])) hv).toN
   ·exact(VK hop (hev x (by simp[hop,Op.operands])) hv).toN
 | convert s t x=>
   simp only[hop] at hc
   split at hc
   ·rename_i k0 k h1 h2
    cases hc
    exact(SJ hop h1 h2 (hev x (by simp[hop,Op.operands])) hv).toN
   ·rename_i el h1 h2
    split at hc
    ·rename_i h3
     cases hc
     exact NA hst hop h1 h2 h3 (hev x (by simp[hop,Op.operands])) hv
    ·cases hc
   ·rename_i el h1 h2
    split at hc
    ·rename_i h3
     cases hc
     exact(SK hop h1 h2 h3 (hev x (by simp[hop,Op.operands])) hle hsat hv).toN
    ·cases hc
   ·cases hc
 | sliceToArrayPointer t x=> simp[hop] at hc
 | makeInterface t x=>
   simp only[hop] at hc
   split at hc
   ·split at hc
    ·rename_i fs ht
     cases hc
     exact(SI hop ht (hev x (by simp[hop,Op.operands])) hv).toN
    ·cases hc
   ·cases hc;exact False.elim hv
 | makeFunc fn first caps=>
   cases fn <;> simp only[hop] at hc <;> try (cases hc;done)
   split at hc
   ·rename_i hf
    cases hc
    exact(VQ hop hf (fun x hx=> hev x (by simp only[hop,Op.operands];simp;right;simpa using hx)) hv).toN
   ·cases hc
 | makeMap t r=> simp[hop] at hc
 | makeChan t r=> simp[hop] at hc
 | makeSlice t l k=>
   simp only[hop,Option.bind_eq_bind] at hc
   split at hc
   ·simp only[Option.bind_eq_some_iff] at hc
    obtain⟨n,hn,z,hz,agg,ha,hc⟩:=hc
    split at hc
    ·cases hc;simp[COp.isRead] at hro
    ·cases hc
   ·cases hc
 | slice t x lo hi mx=>
   cases mx with
   | some m=> simp[hop] at hc
   | none=>
     simp only[hop,Option.bind_eq_bind] at hc
     have hx:=hev x (by simp[hop,Op.operands])
     have hlo: ∀y,lo=some y→R tp (cm E.O tp H w) w (a.eval y) (ev σ y):=fun y hy=> hev y (by subst hy;simp[hop,Op.operands])
     have hhi: ∀y,hi=some y→R tp (cm E.O tp H w) w (a.eval y) (ev σ y):=fun y hy=> hev y (by subst hy;simp[hop,Op.operands])
     split at hc
     ·rename_i el hu
      simp only[Option.bind_eq_some_iff,Option.some.injEq] at hc
      obtain⟨n,hn,rfl⟩:=hc
      exact(PP hop hu hn hx hlo hhi hle hsat hv).toN
     ·rename_i hu
      cases hc
      exact(Nz hop hu hx hlo hhi hv).toN
     ·cases hc
 | fieldAddr t x f=>
   simp only[hop,Option.bind_eq_bind] at hc
   split at hc
   ·rename_i fs hu
    simp only[Option.bind_eq_some_iff] at hc
    obtain⟨fd,hf,sz,hs,hc⟩:=hc
    split at hc
    ·rename_i h0
     cases hc
     exact(PS hop hu hf hs h0 (hev x (by simp[hop,Op.operands])) hv).toN
    ·cases hc
   ·cases hc
 | field t x f=>
   simp only[hop,Option.bind_eq_bind] at hc
   split at hc
   ·rename_i fs hu
    simp only[Option.bind_eq_some_iff] at hc
    obtain⟨fd,hf,agg,ha,sz,hs,hc⟩:=hc
    split at hc
    ·rename_i h1
     cases hc
     exact(VN hop hu hf ha hs (by simpa using h1) (hev x (by simp[hop,Op.operands])) hv).toN
    ·cases hc
   ·cases hc
 | indexAddr t x i=>
   simp only[hop,Option.bind_eq_bind] at hc
   split at hc
   ·rename_i el hu
    simp only[Option.bind_eq_some_iff,Option.some.injEq] at hc
    obtain⟨n,hn,rfl⟩:=hc
    exact(PR hop hu hn (hev x (by simp[hop,Op.operands])) (hev i (by simp[hop,Op.operands])) hle hsat hv).toN
   ·rename_i len el hu
    split at hc
    ·simp only[Option.bind_eq_some_iff] at hc
     obtain⟨sz,hs,hc⟩:=hc
     split at hc
     ·rename_i h0
      cases hc
      exact(PV hop hu hs h0 (hev x (by simp[hop,Op.operands])) hv).toN
     ·cases hc
    ·cases hc
   ·cases hc
 | index t x i=>
   simp only[hop] at hc
   split at hc
   ·rename_i hu
    cases hc
    exact(SF hop hu (hev x (by simp[hop,Op.operands])) (hev i (by simp[hop,Op.operands])) hv).toN
   ·cases hc
 | lookup t x i b=> simp[hop] at hc
 | mapUpdate t m k v=> simp[hop] at hc
 | mapEntry t m k=> simp[hop] at hc
 | entryStore t m k v=> simp[hop] at hc
 | range t x=>
   simp only[hop] at hc
   split at hc
   ·cases hc;simp[COp.isRead] at hro
   ·cases hc
 | next x b=>
   cases b with
   | false=> simp[hop] at hc
   | true=>
     simp only[hop] at hc
     cases hc
     simp[COp.isRead] at hro
 | entry x=> simp[hop] at hc
 | typeAssert x s t b=> simp[hop] at hc
 | extract x i=>
   simp only[hop] at hc;cases hc
   exact(VO hop (hev x (by simp[hop,Op.operands])) hv).toN
 | call q=>
   have hargs: ∀x∈q.args.toList,R tp (cm E.O tp H w) w (a.eval x) (ev σ x):=fun x hx=> hev x (by
    simp only[hop,Op.operands,Call.operands]
    simp;right;simpa using hx)
   simp only[hop] at hc
   split at hc
   ·split at hc <;> cases hc
    rw[Oc] at hro
    cases hro
   ·cases hc;simp[COp.isRead] at hro
   ·rename_i hcal
    split at hc
    ·rename_i t x hat har
     split at hc
     ·rename_i el hu
      cases hc
      exact(VM hop hcal hat har hu (hargs x (by rw[har];simp)) hle hsat hv).toN
     ·rename_i hu
      cases hc
      exact(SE hop hcal hat har hu (hargs x (by rw[har];simp)) hv).toN
     ·cases hc
    ·cases hc
   ·rename_i hcal
    cases hc
    exact(Q1 (mx:=false) hop (by simpa using hcal) hargs hv).toN
   ·rename_i hcal
    cases hc
    exact(Q1 (mx:=true) hop (by simpa using hcal) hargs hv).toN
   ·split at hc
    ·split at hc
     ·split at hc
      ·simp only[Option.bind_eq_bind,Option.bind_eq_some_iff] at hc
       obtain⟨n,hn,z,hz,hc⟩:=hc
       split at hc
       ·cases hc;simp[COp.isRead] at hro
       ·cases hc
      ·cases hc
     ·split at hc
      ·simp only[Option.bind_eq_bind,Option.bind_eq_some_iff] at hc
       obtain⟨n,hn,z,hz,agg,ha,hc⟩:=hc
       split at hc
       ·cases hc;simp[COp.isRead] at hro
       ·cases hc
      ·cases hc
    ·cases hc
   ·split at hc
    ·split at hc
     ·simp only[Option.bind_eq_bind,Option.bind_eq_some_iff] at hc
      obtain⟨n,hn,z,hz,agg,ha,hc⟩:=hc
      split at hc
      ·cases hc;simp[COp.isRead] at hro
      ·cases hc
     ·cases hc
    ·cases hc
   ·split at hc
    ·split at hc
     ·split at hc
      ·simp only[Option.bind_eq_bind,Option.bind_eq_some_iff] at hc
       obtain⟨n,hn,hc⟩:=hc
       split at hc
       ·cases hc;simp[COp.isRead] at hro
       ·cases hc
      ·cases hc
     ·cases hc
    ·cases hc
   ·rename_i hcal
    split at hc
    ·rename_i t x hat har
     split at hc
     ·rename_i el hu
      cases hc
      exact(VR hop hcal hat har hu (hargs x (by rw[har];simp)) hv).toN
     ·cases hc
    ·cases hc
   ·cases hc
 | go q=> simp[hop] at hc
 | defer q=> simp[hop] at hc
 | panic x=>
   simp only[hop] at hc
   split at hc
   ·cases hc;simp[COp.isRead] at hro
   ·cases hc;exact False.elim hv
 | send x y=> simp[hop] at hc
 | recv t x b=> simp[hop] at hc
 | select cs b=> simp[hop] at hc
theorem Sj {K:D→ab→Prop} (hro:c.isRead=true) (hv:cZ c o.dst σ H K):aM c σ H fun d=> K d H:=by
 cases c <;> first | exact hv | (simp[COp.isRead] at hro;done) | skip
 rename_i el im x
 cases im
 ·simp[COp.isRead] at hro
 ·exact hv
theorem U4 {K:D→ab→Prop} (hc:em P im o=some c) (hnc:c.isCall=false) (hst:StW E tp H w) (hr: ∀t,R tp (cm E.O tp H w) w (a.tmps.getD t undef) (σ t))
 (hv:cZ c o.dst σ H K):gS P o a E tp H w K:=by
 by_cases hro:c.isRead=true
 ·exact GoodN.og hst (Pp hc hro hst hr (fun _ _ h=> h) (Sj hro hv)) (fun d h=> h)
 ·have hops:=lR hc
  unfold em at hc
  rw[if_neg (by simpa using hops)] at hc
  have hev: ∀x,x∈o.op.operands→R tp (cm E.O tp H w) w (a.eval x) (ev σ x):=fun x hx=> SU hr x (List.all_eq_true.1 hops x (by simpa using hx))
  cases hop:o.op with
  | alloc el=>
    simp only[hop,Option.bind_eq_bind,Option.bind_eq_some_iff,Option.some.injEq] at hc
    obtain⟨z,hz,rfl⟩:=hc
    simp only[cZ] at hv
    split at hv
    ·exact Vg hst hop hz hv
    ·exact hv.elim
  | box el x=>
    simp only[hop] at hc
    split at hc
    ·cases hc
     simp only[cZ] at hv
     split at hv
     ·exact qaw hst hop (hev x (by simp[hop,Op.operands])) hv.1 hv.2
     ·exact hv.elim
    cases hc
    cases hcon:Ws im o.dst with
    | true=> rw[hcon] at hro;exact absurd rfl hro
    | false=>
    rw[hcon] at hv
    simp only[cZ] at hv
    split at hv
    ·exact qax hst hop (hev x (by simp[hop,Op.operands])) hv.1 hv.2
    ·exact hv.elim
  | buildSlice t len parts=>
    simp only[hop,Option.bind_eq_bind] at hc
    split at hc
    ·rename_i el hu
     simp only[Option.bind_eq_some_iff] at hc
     obtain⟨n,hn,z,hz,ps,hps,hc⟩:=hc
     split at hc
     ·rename_i hcond
      split at hc
      ·rename_i hl0
       subst hl0
       cases hc
       simp only[cZ] at hv
       have:ps= []:=by
        unfold sy at hps
        split at hps
        ·rename_i h
         have h':parts.toList= []:=by simpa using h
         rw[h'] at hps
         simpa using hps.symm
        ·cases hps
       subst this
       split at hv
       ·exact So hst hop hu hn hz hps hv
       ·exact hv.elim
      ·rename_i hl0
       simp only[Bool.and_eq_true,decide_eq_true_eq] at hcond
       split at hc
       ·cases hc
        simp only[cZ] at hv
        split at hv
        ·refine Sp hst hop hu hn hz hps hcond.1 hcond.2 hl0 (fun x hx=> hev x ?_) hv.1 hv.2
         unfold sy at hps
         split at hps
         ·cases hps
          simp only[hop,Op.operands]
          simpa using hx
         ·cases hps
        ·exact hv.elim
       ·cases hc;simp[COp.isRead] at hro
     ·cases hc
    ·cases hc
  | store t x y=>
    simp only[hop,Option.bind_eq_bind,Option.bind_eq_some_iff,Option.some.injEq] at hc
    obtain⟨sz,hs,rfl⟩:=hc
    exact Vc hst hop hs (hev x (by simp[hop,Op.operands])) (hev y (by simp[hop,Op.operands])) hv
  | makeSlice t l k=>
    simp only[hop,Option.bind_eq_bind] at hc
    split at hc
    ·rename_i el hu
     simp only[Option.bind_eq_some_iff] at hc
     obtain⟨n,hn,z,hz,agg,ha,hc⟩:=hc
     split at hc
     ·rename_i hcond
      simp only[Bool.and_eq_true,decide_eq_true_eq] at hcond
      cases hc
      simp only[cZ] at hv
      split at hv
      ·split at hv
       ·rename_i e1 e2
        have h1:=hev l (by simp[hop,Op.operands])
        have h2:=hev k (by simp[hop,Op.operands])
        rw[xh e1] at h1
        rw[xh e2] at h2
        obtain⟨h0,hlc,hb,h63,hk⟩:=hv
        exact Px hst hop hu hn hz hcond.1 (by simpa using hcond.2) h1.inv_v h2.inv_v h0 hlc hb h63 hk
       ·exact hv.elim
      ·exact hv.elim
     ·cases hc
    ·cases hc
  | call q=>
    have hargs: ∀x∈q.args.toList,R tp (cm E.O tp H w) w (a.eval x) (ev σ x):=fun x hx=> hev x (by
     simp only[hop,Op.operands,Call.operands]
     simp;right;simpa using hx)
    simp only[hop] at hc
    split at hc
    ·split at hc <;> cases hc
     rw[Od] at hnc
     cases hnc
    ·cases hc;simp[COp.isCall] at hnc
    ·split at hc
     ·split at hc
      ·cases hc;simp[COp.isRead] at hro
      ·cases hc;simp[COp.isRead] at hro
      ·cases hc
     ·cases hc
    ·cases hc;simp[COp.isRead] at hro
    ·cases hc;simp[COp.isRead] at hro
    ·rename_i hcal
     split at hc
     ·rename_i t u x y hat har
      split at hc
      ·rename_i htu
       subst htu
       split at hc
       ·rename_i el hu
        simp only[Option.bind_eq_bind,Option.bind_eq_some_iff] at hc
        obtain⟨n,hn,z,hz,hc⟩:=hc
        split at hc
        ·rename_i h0
         cases hc
         exact Sq hst hop hcal hat har hu hn hz rfl h0 (hargs x (by rw[har];simp)) (hargs y (by rw[har];simp)) hv
        ·cases hc
       ·cases hc
      ·split at hc
       ·rename_i el kn hu hu2
        simp only[Option.bind_eq_bind,Option.bind_eq_some_iff] at hc
        obtain⟨n,hn,z,hz,agg,ha,hc⟩:=hc
        split at hc
        ·rename_i hcond
         simp only[Bool.and_eq_true,decide_eq_true_eq] at hcond
         cases hc
         exact Vf hst hop hcal hat har hu hu2 hn hz hcond.1 (by simpa using hcond.2) (hargs x (by rw[har];simp)) (hargs y (by rw[har];simp)) hv
        ·cases hc
       ·cases hc
     ·cases hc
    ·rename_i hcal
     split at hc
     ·rename_i t x hat har
      split at hc
      ·rename_i el hu
       simp only[Option.bind_eq_bind,Option.bind_eq_some_iff] at hc
       obtain⟨n,hn,z,hz,agg,ha,hc⟩:=hc
       split at hc
       ·rename_i hcond
        simp only[Bool.and_eq_true,decide_eq_true_eq] at hcond
        cases hc
        exact Ve hst hop hcal hat har hu hn hz hcond.1 (by simpa using hcond.2) (hargs x (by rw[har];simp)) hv
       ·cases hc
      ·cases hc
     ·cases hc
    ·rename_i hcal
     split at hc
     ·rename_i t u x y hat har
      split at hc
      ·rename_i htu
       subst htu
       split at hc
       ·rename_i el hu
        simp only[Option.bind_eq_bind,Option.bind_eq_some_iff] at hc
        obtain⟨n,hn,hc⟩:=hc
        split at hc
        ·rename_i h0
         cases hc
         exact Yt hst hop hcal hat har hu hn h0 (hargs x (by rw[har];simp)) (hargs y (by rw[har];simp)) hv
        ·cases hc
       ·cases hc
      ·cases hc
     ·cases hc
    ·split at hc
     ·split at hc
      ·cases hc;simp[COp.isRead] at hro
      ·cases hc
     ·cases hc
    ·cases hc
  | move x=> simp only[hop] at hc;cases hc;simp[COp.isRead] at hro
  | assign x=> simp only[hop] at hc;cases hc;simp[COp.isRead] at hro
  | pick q x y=> simp only[hop] at hc;cases hc;simp[COp.isRead] at hro
  | build t parts=>
    simp only[hop,Option.bind_eq_bind,Option.bind_eq_some_iff] at hc
    obtain⟨z,hz,hc⟩:=hc
    split at hc
    ·obtain⟨ps,hps,hc⟩:=Option.bind_eq_some_iff.1 hc
     split at hc
     ·cases hc;simp[COp.isRead] at hro
     ·cases hc
    ·simp only[Option.bind_eq_some_iff] at hc
     obtain⟨sz,hs,ps,hps,hc⟩:=hc
     cases hc;simp[COp.isRead] at hro
    ·cases hc
  | insert t m k v=> simp[hop] at hc
  | load t x=>
    simp only[hop,Option.bind_eq_bind,Option.bind_eq_some_iff] at hc
    obtain⟨agg,ha,sz,hs,hc⟩:=hc
    split at hc
    ·cases hc;simp[COp.isRead] at hro
    ·cases hc
  | ready g=> simp[hop] at hc
  | waits g=> simp[hop] at hc
  | nilCheck x=> simp only[hop] at hc;cases hc;simp[COp.isRead] at hro
  | binOp op t x y u=>
    exfalso
    simp only[hop] at hc
    unfold lS at hc
    (repeat' split at hc) <;> first
      | (cases hc;done)
      | (cases hc;simp[COp.isRead] at hro;done)
      | (cases hks:uq P t with
         | none=> simp[hks] at hc
         | some ks=> simp[hks] at hc;subst hc;simp[COp.isRead] at hro)
  | unOp op t x=>
    exfalso
    cases op <;> simp only[hop] at hc <;> first | (cases hc;done) | (cases hc;simp[COp.isRead] at hro;done)
  | convert s t x=>
    simp only[hop] at hc
    split at hc
    ·cases hc;simp[COp.isRead] at hro
    ·split at hc
     ·cases hc;simp[COp.isRead] at hro
     ·cases hc
    ·split at hc
     ·cases hc;simp[COp.isRead] at hro
     ·cases hc
    ·cases hc
  | sliceToArrayPointer t x=> simp[hop] at hc
  | makeInterface t x=>
    simp only[hop] at hc
    split at hc
    ·split at hc
     ·cases hc;simp[COp.isRead] at hro
     ·cases hc
    ·cases hc;simp[COp.isRead] at hro
  | makeFunc fn first caps=>
    cases fn <;> simp only[hop] at hc <;> try (cases hc;done)
    split at hc
    ·cases hc;simp[COp.isRead] at hro
    ·cases hc
  | makeMap t r=> simp[hop] at hc
  | makeChan t r=> simp[hop] at hc
  | slice t x lo hi mx=>
    cases mx with
    | some m=> simp[hop] at hc
    | none=>
      simp only[hop,Option.bind_eq_bind] at hc
      split at hc
      ·simp only[Option.bind_eq_some_iff,Option.some.injEq] at hc
       obtain⟨n,hn,rfl⟩:=hc
       simp[COp.isRead] at hro
      ·cases hc;simp[COp.isRead] at hro
      ·cases hc
  | fieldAddr t x f=>
    simp only[hop,Option.bind_eq_bind] at hc
    split at hc
    ·simp only[Option.bind_eq_some_iff] at hc
     obtain⟨fd,hf,sz,hs,hc⟩:=hc
     split at hc
     ·cases hc;simp[COp.isRead] at hro
     ·cases hc
    ·cases hc
  | field t x f=>
    simp only[hop,Option.bind_eq_bind] at hc
    split at hc
    ·simp only[Option.bind_eq_some_iff] at hc
     obtain⟨fd,hf,agg,ha,sz,hs,hc⟩:=hc
     split at hc
     ·cases hc;simp[COp.isRead] at hro
     ·cases hc
    ·cases hc
  | indexAddr t x i=>
    simp only[hop,Option.bind_eq_bind] at hc
    split at hc
    ·simp only[Option.bind_eq_some_iff,Option.some.injEq] at hc
     obtain⟨n,hn,rfl⟩:=hc
     simp[COp.isRead] at hro
    ·split at hc
     ·simp only[Option.bind_eq_some_iff] at hc
      obtain⟨sz,hs,hc⟩:=hc
      split at hc
      ·cases hc;simp[COp.isRead] at hro
      ·cases hc
     ·cases hc
    ·cases hc
  | index t x i=>
    simp only[hop] at hc
    split at hc
    ·cases hc;simp[COp.isRead] at hro
    ·cases hc
  | lookup t x i b=> simp[hop] at hc
  | mapUpdate t m k v=> simp[hop] at hc
  | mapEntry t m k=> simp[hop] at hc
  | entryStore t m k v=> simp[hop] at hc
  | range t x=>
    simp only[hop] at hc
    split at hc
    ·rename_i h1
     cases hc
     simp only[cZ] at hv
     split at hv
     ·rename_i t' s e1 e2
      have hx:=hev x (by simp[hop,Op.operands])
      rw[e2] at hx
      exact Sn hst hop h1 hx.inv_v hv
     ·exact hv.elim
    ·cases hc
  | next x b=>
    cases b with
    | false=> simp[hop] at hc
    | true=>
      simp only[hop] at hc
      cases hc
      exact Vd hst hop (hev x (by simp[hop,Op.operands])) hv
  | entry x=> simp[hop] at hc
  | typeAssert x s t b=> simp[hop] at hc
  | extract x i=> simp only[hop] at hc;cases hc;simp[COp.isRead] at hro
  | go q=> simp[hop] at hc
  | defer q=> simp[hop] at hc
  | panic x=>
    simp only[hop] at hc
    split at hc
    ·cases hc;simp[COp.isCall] at hnc
    ·cases hc;simp[COp.isRead] at hro
  | send x y=> simp[hop] at hc
  | recv t x b=> simp[hop] at hc
  | select cs b=> simp[hop] at hc
end
end Go.Gv

namespace Go.Gv
def fF (P:Program) (f:Nat):Prop:= ∀ (args:Array Value) (w:World),(callFunc f args).run P w= .ok (.enter f args) w
def Qm (O tp:Nat→Prop) (H:ab) (w:World) (K:D→ab→Prop) (e:Ending) (w':World):Prop:=
 ∃x r H' tp',e= .returned x∧K r H'∧(∀b,tp b→tp' b)∧(∀b,tp' b→tp b∨w.heap.size≤b)∧(∀b,tp' b→b < w'.heap.size)∧
  Step tp (eR H) w w'∧(∀b,eR H' b→eR H b∨w.heap.size≤b)∧qbo O tp' H' w'∧R tp' (cm O tp' H' w') w' x r
def Tri (P:Program) (f:Nat) (A:PT):Prop:=
 ∀ (O tp:Nat→Prop) (w:World) (vs:List Value) (ds:List D) (H:ab) (d:Nat) (K:D→ab→Prop),
  (∀b,O b→b < w.heap.size)→(∀b,tp b→b < w.heap.size)→qbo O tp H w→vs.length=ds.length→
  (∀ (k:Nat) (x:Value) (c:D),vs[k]?=some x→ds[k]?=some c→R tp (cm O tp H w) w x c)→A d ds H K→
  fF P f∧Calls P f vs.toArray w (Qm O tp H w K)
def qdR (z:List PanicEntry→Prop) (O tp:Nat→Prop) (H:ab) (w:World) (K:D→ab→Prop) (e:Ending) (w':World):Prop:=
 Qm O tp H w K e w'∨ ∃c,e= .panicked c∧z c∧Step tp (eR H) w w'
def TriZ (z:List PanicEntry→Prop) (P:Program) (f:Nat) (A:PT):Prop:=
 ∀ (O tp:Nat→Prop) (w:World) (vs:List Value) (ds:List D) (H:ab) (d:Nat) (K:D→ab→Prop),
  (∀b,O b→b < w.heap.size)→(∀b,tp b→b < w.heap.size)→qbo O tp H w→vs.length=ds.length→
  (∀ (k:Nat) (x:Value) (c:D),vs[k]?=some x→ds[k]?=some c→R tp (cm O tp H w) w x c)→A d ds H K→
  fF P f∧Calls P f vs.toArray w (qdR z O tp H w K)
def JC:List PanicEntry→Prop:=fun _=> False
theorem Tri.z {z:List PanicEntry→Prop} {P:Program} {f:Nat} {A:PT} (h:Tri P f A):TriZ z P f A:=fun O tp w vs ds H d K h1 h2 h3 h4 h5 h6=>
 ⟨(h O tp w vs ds H d K h1 h2 h3 h4 h5 h6).1,(h O tp w vs ds H d K h1 h2 h3 h4 h5 h6).2.mono fun _ _ h=> .inl h⟩
theorem TriZ.no {P:Program} {f:Nat} {A:PT} (h:TriZ JC P f A):Tri P f A:=fun O tp w vs ds H d K h1 h2 h3 h4 h5 h6=>
 ⟨(h O tp w vs ds H d K h1 h2 h3 h4 h5 h6).1,(h O tp w vs ds H d K h1 h2 h3 h4 h5 h6).2.mono fun _ _ h=> h.elim id fun⟨_,_,h,_⟩=> h.elim⟩
def Oq (E:pR) (z:List PanicEntry→Prop) (c:List PanicEntry) (w':World):Prop:=z c∧Step E.tp0 E.own0 E.w0 w'
theorem StW.stepTo {E:pR} {tp:Nat→Prop} {H:ab} {w w':World} (h:StW E tp H w) (hs:Step tp (eR H) w w'):Step E.tp0 E.own0 E.w0 w':=by
 have hw:E.w0.heap.size≤w.heap.size:=h.step.size
 refine⟨hs.os.trans h.step.os,hs.tape.trans h.step.tape,hs.output.trans h.step.output,Nat.le_trans hw hs.size,fun b hb ho htp=> ?_,fun b hb=> (h.step.tapes b hb).trans (hs.tapes b (h.tpx b hb)),Nat.le_trans h.step.drawn hs.drawn⟩
 rw[hs.same b (by omega) (fun hown=> ?_) (fun hT=> ?_)]
 ·exact h.step.same b hb ho htp
 ·rcases h.loc b hown with h1 | h1
  ·exact ho h1
  ·omega
 ·rcases h.tpn b hT with h1 | h1
  ·exact htp h1
  ·omega
def bu (S:Nat→Spc) (c:COp) (dst:Option Nat) (σ:Sg) (H:ab) (K:D→ab→Prop):Prop:=
 match c with
 | .call f args=> (S f).pt (dst.getD 0) (args.map (ev σ)) H K
 | .callb _ f args=> (S f).pt (dst.getD 0) (args.map (ev σ)) H K
 | .callv f args=> match ev σ f with
   | .clo g caps=> (S g).pt (dst.getD 0) (args.map (ev σ) ++caps) H K
   | _=> False
 | c=> cZ c dst σ H K
def yC (z:List PanicEntry→Prop) (P:Program) (A:PT):Prop:=P.funcs.size≤dw→ ∀ (O tp:Nat→Prop) (w:World) (v:Value) (e:D) (H:ab) (d:Nat) (K:D→ab→Prop),
 (∀b,O b→b < w.heap.size)→(∀b,tp b→b < w.heap.size)→qbo O tp H w→R tp (cm O tp H w) w v e→A d [e] H K→(∃t x,v= .iface t x)∧z [{ v:=v,recovered:=false }]
def CallOk (P:Program) (z:List PanicEntry→Prop) (S:Nat→Spc):COp→Prop
 | .call f _=> if f=dw then yC z P (S dw).pt else TriZ z P f (S f).pt
 | .callv _ _=> ∀g,TriZ z P g (S g).pt
 | .callb _ f _=> TriZ z P f (S f).pt
 | _=> True
theorem TriZ.up {z:List PanicEntry→Prop} {P:Program} {f:Nat} {A:PT} (h:TriZ JC P f A):TriZ z P f A:=h.no.z
theorem CallOk.up {z:List PanicEntry→Prop} {P:Program} {S:Nat→Spc} {c:COp} (h:CallOk P JC S c):CallOk P z S c:=by
 cases c <;> try exact trivial
 ·simp only[CallOk] at h ⊢
  split
  ·rename_i e
   rw[if_pos e] at h
   exact fun a O tp w v e' H d K h1 h2 h3 h4 h5=> ((h a O tp w v e' H d K h1 h2 h3 h4 h5).2).elim
  ·rename_i e
   rw[if_neg e] at h
   exact h.up
 ·exact fun g=> (h g).up
 ·exact TriZ.up h
theorem Th {P:Program} {S:Nat→Spc} (h: ∀f,Tri P f (S f).pt) (c:COp):CallOk P JC S c:=by
 cases c <;> try exact trivial
 ·rename_i f args
  simp only[CallOk]
  split
  ·intro hsz O tp w v e H d K h1 h2 h3 h4 h5
   obtain⟨_,hc⟩:=h dw O tp w [v] [e] H d K h1 h2 h3 rfl (fun k x c hx hc=> by
    rcases k with _ | k
    ·cases hx;cases hc;exact h4
    ·simp at hx) h5
   obtain⟨e',w',fr,hR,_,hfn,hl⟩:=hc []
   obtain⟨x,r,H',tp',rfl,_⟩:=hR
   obtain⟨_,_,_,fn,hf,_⟩:=hl
   rw[hfn] at hf
   have:=(Array.getElem?_eq_some_iff.1 hf).1
   omega
  ·exact(h f).z
 ·exact fun g=> (h g).z
 ·exact(h _).z
section
variable {P:Program} {im:List Nat} {o:Oper} {c:COp} {a:Act} {E:pR} {tp:Nat→Prop} {H:ab} {w:World} {σ:Sg} {S:Nat→Spc}
theorem L3 {A:PT} {f:Nat} {vs:List Value} {ds:List D} {d:Nat} {K:D→ab→Prop} {z:List PanicEntry→Prop} (hS:TriZ z P f A) (hst:StW E tp H w) (hd:a.defers=E.ds) (hN:a.tmps.size=E.N) (hr: ∀t,R tp (cm E.O tp H w) w (a.tmps.getD t undef) (σ t))
 (hrun: ∀ (g:Array Value) (w':World),(fF P f)→(execOp a.eval o).run P w= .ok (.enter f vs.toArray) w) (hlen:vs.length=ds.length)
 (hargs: ∀ (k:Nat) (x:Value) (e:D),vs[k]?=some x→ds[k]?=some e→R tp (cm E.O tp H w) w x e) (hA:A d ds H K) (hdst: ∀t,o.dst=some t→t < E.N)
 {next:Act→World→Prop} {Q:Exit→Act→World→Prop} (hpan: ∀c w',Oq E z c w'→Q (.panic c) a w') (hnext: ∀r H' x w',K r H'→St E (f9 σ o.dst r) H' (a.put o.dst x) w'→next (a.put o.dst x) w'):o.wp P a w next Q:=by
 obtain⟨hce,hc⟩:=hS E.O tp w vs ds H d K (fun b hb=> Nat.lt_of_lt_of_le (hst.hO b hb) hst.step.size) hst.tpl hst.sat hlen hargs hA
 unfold Oper.wp
 rw[hrun #[] w hce]
 simp only[Oper.upon]
 refine hc.mono ?_
 rintro e w' (⟨x,r,H',tp',rfl,hk,h1,h2,h3,h4,h5,h6,h7⟩ | ⟨c,rfl,hz,hs⟩)
 rotate_left
 ·exact hpan c w' ⟨hz,hst.stepTo hs⟩
 have hm:=hst.move h4 h1 h2 h3 h5 h6
 exact hnext r H' x w' hk (St.put hd hN hr hm o.dst hdst h7)
theorem Qd (hr: ∀t,R tp (cm E.O tp H w) w (a.tmps.getD t undef) (σ t)) {args:List Operand} (hargs: ∀x∈args,uS x=true):
 ∀ (k:Nat) (x:Value) (e:D),(args.map a.eval)[k]?=some x→(args.map (ev σ))[k]?=some e→R tp (cm E.O tp H w) w x e:=by
 intro k x e h1 h2
 rw[List.getElem?_map] at h1 h2
 obtain⟨q,hq,rfl⟩:=bq h1
 rw[hq] at h2
 cases h2
 exact SU hr q (hargs q (List.mem_of_getElem? hq))
theorem L0 {f:Nat} {args:List Operand} (hc:em P im o=some (.call f args)): (∃q:Call,o.op= .call q∧q.callee= .value (.func f)∧q.args.toList=args∧f≠dw)∨ ∃x,o.op= .panic x∧f=dw∧args= [x]∧P.funcs.size≤dw:=by
 have hops:=lR hc
 unfold em at hc
 rw[if_neg (by simpa using hops)] at hc
 cases hop:o.op with
 | call q=>
   simp only[hop] at hc
   split at hc
   ·rename_i g hcal
    split at hc
    ·cases hc
    ·rename_i hne
     cases hb:Ri im o.dst with
     | some r=> rw[hb] at hc;cases hc
     | none=>
       rw[hb] at hc
       cases hc
       exact .inl ⟨q,rfl,hcal,rfl,hne⟩
   ·cases hc
   ·(repeat' split at hc) <;> cases hc
   ·cases hc
   ·cases hc
   all_goals
    exfalso
    (repeat' split at hc) <;> first
      | (cases hc;done)
      | (simp only[Option.bind_eq_bind,Option.bind_eq_some_iff] at hc
         obtain⟨n,hn,z,hz,agg,ha,hc⟩:=hc
         split at hc <;> cases hc;done)
      | (simp only[Option.bind_eq_bind,Option.bind_eq_some_iff] at hc
         obtain⟨n,hn,z,hz,hc⟩:=hc
         split at hc <;> cases hc;done)
      | (simp only[Option.bind_eq_bind,Option.bind_eq_some_iff] at hc
         obtain⟨n,hn,hc⟩:=hc
         split at hc <;> cases hc;done)
 | binOp op t x y u=>
   exfalso
   simp only[hop] at hc
   unfold lS at hc
   (repeat' split at hc) <;> first
     | (cases hc;done)
     | (cases hks:uq P t <;> simp[hks] at hc)
 | alloc el=> simp only[hop,Option.bind_eq_bind,Option.bind_eq_some_iff] at hc;obtain⟨z,hz,hc⟩:=hc;cases hc
 | box el x=> simp only[hop] at hc;split at hc <;> cases hc
 | build t parts=>
   simp only[hop,Option.bind_eq_bind,Option.bind_eq_some_iff] at hc
   obtain⟨z,hz,hc⟩:=hc
   split at hc
   ·obtain⟨ps,hps,hc⟩:=Option.bind_eq_some_iff.1 hc
    split at hc <;> cases hc
   ·simp only[Option.bind_eq_some_iff] at hc
    obtain⟨sz,hs,ps,hps,hc⟩:=hc
    cases hc
   ·cases hc
 | buildSlice t len parts=>
   simp only[hop,Option.bind_eq_bind] at hc
   split at hc
   ·simp only[Option.bind_eq_some_iff] at hc
    obtain⟨n,hn,z,hz,ps,hps,hc⟩:=hc
    (repeat' split at hc) <;> cases hc
   ·cases hc
 | load t x=>
   simp only[hop,Option.bind_eq_bind,Option.bind_eq_some_iff] at hc
   obtain⟨agg,ha,sz,hs,hc⟩:=hc
   split at hc <;> cases hc
 | store t x y=> simp only[hop,Option.bind_eq_bind,Option.bind_eq_some_iff] at hc;obtain⟨z,hz,hc⟩:=hc;cases hc
 | unOp op t x=> cases op <;> simp only[hop] at hc <;> cases hc
 | convert s t x=>
   simp only[hop] at hc
   split at hc
   ·cases hc
   ·split at hc <;> cases hc
   ·split at hc <;> cases hc
   ·cases hc
 | range t x=> simp only[hop] at hc;split at hc <;> cases hc
 | next x b=> cases b <;> simp[hop] at hc
 | makeFunc fn first caps=> cases fn <;> simp only[hop] at hc <;> first | (cases hc;done) | (split at hc <;> cases hc)
 | makeSlice t l k=>
   simp only[hop,Option.bind_eq_bind] at hc
   split at hc
   ·simp only[Option.bind_eq_some_iff] at hc
    obtain⟨n,hn,z,hz,agg,ha,hc⟩:=hc
    split at hc <;> cases hc
   ·cases hc
 | slice t x lo hi mx=>
   cases mx with
   | some m=> simp[hop] at hc
   | none=>
     simp only[hop,Option.bind_eq_bind] at hc
     split at hc
     ·simp only[Option.bind_eq_some_iff] at hc
      obtain⟨n,hn,hc⟩:=hc
      cases hc
     ·cases hc
     ·cases hc
 | fieldAddr t x f=>
   simp only[hop,Option.bind_eq_bind] at hc
   split at hc
   ·simp only[Option.bind_eq_some_iff] at hc
    obtain⟨fd,hf,sz,hs,hc⟩:=hc
    split at hc <;> cases hc
   ·cases hc
 | field t x f=>
   simp only[hop,Option.bind_eq_bind] at hc
   split at hc
   ·simp only[Option.bind_eq_some_iff] at hc
    obtain⟨fd,hf,agg,ha,sz,hs,hc⟩:=hc
    split at hc <;> cases hc
   ·cases hc
 | indexAddr t x i=>
   simp only[hop,Option.bind_eq_bind] at hc
   split at hc
   ·simp only[Option.bind_eq_some_iff] at hc
    obtain⟨n,hn,hc⟩:=hc
    cases hc
   ·split at hc
    ·simp only[Option.bind_eq_some_iff] at hc
     obtain⟨sz,hs,hc⟩:=hc
     split at hc <;> cases hc
    ·cases hc
   ·cases hc
 | index t x i=> simp only[hop] at hc;split at hc <;> cases hc
 | makeInterface t x=>
   simp only[hop] at hc
   split at hc
   ·split at hc <;> cases hc
   ·cases hc
 | panic x=>
   simp only[hop] at hc
   split at hc
   ·rename_i h
    cases hc
    simp only[Bool.and_eq_true,decide_eq_true_eq] at h
    exact .inr ⟨x,rfl,rfl,rfl,h.2⟩
   ·cases hc
 | _=> simp[hop] at hc
theorem I9 {f:Operand} {args:List Operand} (hc:em P im o=some (.callv f args)): ∃q:Call,o.op= .call q∧q.callee= .value f∧q.args.toList=args:=by
 have hops:=lR hc
 unfold em at hc
 rw[if_neg (by simpa using hops)] at hc
 cases hop:o.op with
 | call q=>
   simp only[hop] at hc
   split at hc
   ·split at hc
    ·cases hc
    ·cases hb:Ri im o.dst <;> rw[hb] at hc <;> cases hc
   ·rename_i g _ hcal
    cases hc
    exact⟨q,rfl,hcal,rfl⟩
   ·(repeat' split at hc) <;> cases hc
   ·cases hc
   ·cases hc
   all_goals
    exfalso
    (repeat' split at hc) <;> first
      | (cases hc;done)
      | (simp only[Option.bind_eq_bind,Option.bind_eq_some_iff] at hc
         obtain⟨n,hn,z,hz,agg,ha,hc⟩:=hc
         split at hc <;> cases hc;done)
      | (simp only[Option.bind_eq_bind,Option.bind_eq_some_iff] at hc
         obtain⟨n,hn,z,hz,hc⟩:=hc
         split at hc <;> cases hc;done)
      | (simp only[Option.bind_eq_bind,Option.bind_eq_some_iff] at hc
         obtain⟨n,hn,hc⟩:=hc
         split at hc <;> cases hc;done)
 | binOp op t x y u=>
   exfalso
   simp only[hop] at hc
   unfold lS at hc
   (repeat' split at hc) <;> first
     | (cases hc;done)
     | (cases hks:uq P t <;> simp[hks] at hc)
 | alloc el=> simp only[hop,Option.bind_eq_bind,Option.bind_eq_some_iff] at hc;obtain⟨z,hz,hc⟩:=hc;cases hc
 | box el x=> simp only[hop] at hc;split at hc <;> cases hc
 | build t parts=>
   simp only[hop,Option.bind_eq_bind,Option.bind_eq_some_iff] at hc
   obtain⟨z,hz,hc⟩:=hc
   split at hc
   ·obtain⟨ps,hps,hc⟩:=Option.bind_eq_some_iff.1 hc
    split at hc <;> cases hc
   ·simp only[Option.bind_eq_some_iff] at hc
    obtain⟨sz,hs,ps,hps,hc⟩:=hc
    cases hc
   ·cases hc
 | buildSlice t len parts=>
   simp only[hop,Option.bind_eq_bind] at hc
   split at hc
   ·simp only[Option.bind_eq_some_iff] at hc
    obtain⟨n,hn,z,hz,ps,hps,hc⟩:=hc
    (repeat' split at hc) <;> cases hc
   ·cases hc
 | load t x=>
   simp only[hop,Option.bind_eq_bind,Option.bind_eq_some_iff] at hc
   obtain⟨agg,ha,sz,hs,hc⟩:=hc
   split at hc <;> cases hc
 | store t x y=> simp only[hop,Option.bind_eq_bind,Option.bind_eq_some_iff] at hc;obtain⟨z,hz,hc⟩:=hc;cases hc
 | unOp op t x=> cases op <;> simp only[hop] at hc <;> cases hc
 | convert s t x=>
   simp only[hop] at hc
   split at hc
   ·cases hc
   ·split at hc <;> cases hc
   ·split at hc <;> cases hc
   ·cases hc
 | range t x=> simp only[hop] at hc;split at hc <;> cases hc
 | next x b=> cases b <;> simp[hop] at hc
 | makeFunc fn first caps=> cases fn <;> simp only[hop] at hc <;> first | (cases hc;done) | (split at hc <;> cases hc)
 | makeSlice t l k=>
   simp only[hop,Option.bind_eq_bind] at hc
   split at hc
   ·simp only[Option.bind_eq_some_iff] at hc
    obtain⟨n,hn,z,hz,agg,ha,hc⟩:=hc
    split at hc <;> cases hc
   ·cases hc
 | slice t x lo hi mx=>
   cases mx with
   | some m=> simp[hop] at hc
   | none=>
     simp only[hop,Option.bind_eq_bind] at hc
     split at hc
     ·simp only[Option.bind_eq_some_iff] at hc
      obtain⟨n,hn,hc⟩:=hc
      cases hc
     ·cases hc
     ·cases hc
 | fieldAddr t x f=>
   simp only[hop,Option.bind_eq_bind] at hc
   split at hc
   ·simp only[Option.bind_eq_some_iff] at hc
    obtain⟨fd,hf,sz,hs,hc⟩:=hc
    split at hc <;> cases hc
   ·cases hc
 | field t x f=>
   simp only[hop,Option.bind_eq_bind] at hc
   split at hc
   ·simp only[Option.bind_eq_some_iff] at hc
    obtain⟨fd,hf,agg,ha,sz,hs,hc⟩:=hc
    split at hc <;> cases hc
   ·cases hc
 | indexAddr t x i=>
   simp only[hop,Option.bind_eq_bind] at hc
   split at hc
   ·simp only[Option.bind_eq_some_iff] at hc
    obtain⟨n,hn,hc⟩:=hc
    cases hc
   ·split at hc
    ·simp only[Option.bind_eq_some_iff] at hc
     obtain⟨sz,hs,hc⟩:=hc
     split at hc <;> cases hc
    ·cases hc
   ·cases hc
 | index t x i=> simp only[hop] at hc;split at hc <;> cases hc
 | makeInterface t x=>
   simp only[hop] at hc
   split at hc
   ·split at hc <;> cases hc
   ·cases hc
 | panic x=> simp only[hop] at hc;split at hc <;> cases hc
 | _=> simp[hop] at hc
theorem Ja {r f:Nat} {args:List Operand} (hc:em P im o=some (.callb r f args)): ∃q:Call,o.op= .call q∧q.callee= .value (.func f)∧q.args.toList=args:=by
 have hops:=lR hc
 unfold em at hc
 rw[if_neg (by simpa using hops)] at hc
 cases hop:o.op with
 | call q=>
   simp only[hop] at hc
   split at hc
   ·rename_i g hcal
    split at hc
    ·cases hc
    ·cases hb:Ri im o.dst with
     | none=> rw[hb] at hc;cases hc
     | some r'=>
       rw[hb] at hc
       cases hc
       exact⟨q,rfl,hcal,rfl⟩
   ·cases hc
   ·(repeat' split at hc) <;> cases hc
   ·cases hc
   ·cases hc
   all_goals
    exfalso
    (repeat' split at hc) <;> first
      | (cases hc;done)
      | (simp only[Option.bind_eq_bind,Option.bind_eq_some_iff] at hc
         obtain⟨n,hn,z,hz,agg,ha,hc⟩:=hc
         split at hc <;> cases hc;done)
      | (simp only[Option.bind_eq_bind,Option.bind_eq_some_iff] at hc
         obtain⟨n,hn,z,hz,hc⟩:=hc
         split at hc <;> cases hc;done)
      | (simp only[Option.bind_eq_bind,Option.bind_eq_some_iff] at hc
         obtain⟨n,hn,hc⟩:=hc
         split at hc <;> cases hc;done)
 | binOp op t x y u=>
   exfalso
   simp only[hop] at hc
   unfold lS at hc
   (repeat' split at hc) <;> first
     | (cases hc;done)
     | (cases hks:uq P t <;> simp[hks] at hc)
 | alloc el=> simp only[hop,Option.bind_eq_bind,Option.bind_eq_some_iff] at hc;obtain⟨z,hz,hc⟩:=hc;cases hc
 | box el x=> simp only[hop] at hc;split at hc <;> cases hc
 | build t parts=>
   simp only[hop,Option.bind_eq_bind,Option.bind_eq_some_iff] at hc
   obtain⟨z,hz,hc⟩:=hc
   split at hc
   ·obtain⟨ps,hps,hc⟩:=Option.bind_eq_some_iff.1 hc
    split at hc <;> cases hc
   ·simp only[Option.bind_eq_some_iff] at hc
    obtain⟨sz,hs,ps,hps,hc⟩:=hc
    cases hc
   ·cases hc
 | buildSlice t len parts=>
   simp only[hop,Option.bind_eq_bind] at hc
   split at hc
   ·simp only[Option.bind_eq_some_iff] at hc
    obtain⟨n,hn,z,hz,ps,hps,hc⟩:=hc
    (repeat' split at hc) <;> cases hc
   ·cases hc
 | load t x=>
   simp only[hop,Option.bind_eq_bind,Option.bind_eq_some_iff] at hc
   obtain⟨agg,ha,sz,hs,hc⟩:=hc
   split at hc <;> cases hc
 | store t x y=> simp only[hop,Option.bind_eq_bind,Option.bind_eq_some_iff] at hc;obtain⟨z,hz,hc⟩:=hc;cases hc
 | unOp op t x=> cases op <;> simp only[hop] at hc <;> cases hc
 | convert s t x=>
   simp only[hop] at hc
   split at hc
   ·cases hc
   ·split at hc <;> cases hc
   ·split at hc <;> cases hc
   ·cases hc
 | range t x=> simp only[hop] at hc;split at hc <;> cases hc
 | next x b=> cases b <;> simp[hop] at hc
 | makeFunc fn first caps=> cases fn <;> simp only[hop] at hc <;> first | (cases hc;done) | (split at hc <;> cases hc)
 | makeSlice t l k=>
   simp only[hop,Option.bind_eq_bind] at hc
   split at hc
   ·simp only[Option.bind_eq_some_iff] at hc
    obtain⟨n,hn,z,hz,agg,ha,hc⟩:=hc
    split at hc <;> cases hc
   ·cases hc
 | slice t x lo hi mx=>
   cases mx with
   | some m=> simp[hop] at hc
   | none=>
     simp only[hop,Option.bind_eq_bind] at hc
     split at hc
     ·simp only[Option.bind_eq_some_iff] at hc
      obtain⟨n,hn,hc⟩:=hc
      cases hc
     ·cases hc
     ·cases hc
 | fieldAddr t x f=>
   simp only[hop,Option.bind_eq_bind] at hc
   split at hc
   ·simp only[Option.bind_eq_some_iff] at hc
    obtain⟨fd,hf,sz,hs,hc⟩:=hc
    split at hc <;> cases hc
   ·cases hc
 | field t x f=>
   simp only[hop,Option.bind_eq_bind] at hc
   split at hc
   ·simp only[Option.bind_eq_some_iff] at hc
    obtain⟨fd,hf,agg,ha,sz,hs,hc⟩:=hc
    split at hc <;> cases hc
   ·cases hc
 | indexAddr t x i=>
   simp only[hop,Option.bind_eq_bind] at hc
   split at hc
   ·simp only[Option.bind_eq_some_iff] at hc
    obtain⟨n,hn,hc⟩:=hc
    cases hc
   ·split at hc
    ·simp only[Option.bind_eq_some_iff] at hc
     obtain⟨sz,hs,hc⟩:=hc
     split at hc <;> cases hc
    ·cases hc
   ·cases hc
 | index t x i=> simp only[hop] at hc;split at hc <;> cases hc
 | makeInterface t x=>
   simp only[hop] at hc
   split at hc
   ·split at hc <;> cases hc
   ·cases hc
 | panic x=> simp only[hop] at hc;split at hc <;> cases hc
 | _=> simp[hop] at hc
theorem xt {K:D→ab→Prop} {z:List PanicEntry→Prop} (hS:CallOk P z S c) (hc:em P im o=some c) (hst:StW E tp H w) (hd:a.defers=E.ds) (hN:a.tmps.size=E.N) (hr: ∀t,R tp (cm E.O tp H w) w (a.tmps.getD t undef) (σ t))
 (hdst: ∀t,o.dst=some t→t < E.N) (hv:bu S c o.dst σ H K)
 {next:Act→World→Prop} {Q:Exit→Act→World→Prop} (hpan: ∀c w',Oq E z c w'→Q (.panic c) a w') (hnext: ∀r H' x w',K r H'→St E (f9 σ o.dst r) H' (a.put o.dst x) w'→next (a.put o.dst x) w'):o.wp P a w next Q:=by
 by_cases hcall:c.isCall=true
 ·have hops:=lR hc
  cases c <;> simp[COp.isCall] at hcall
  ·rename_i f args
   rcases L0 hc with⟨q,hop,hcal,hargs,hne⟩ | ⟨x,hop,hf,ha,hsz⟩
   rotate_left
   ·subst ha
    subst hf
    have hxo:uS x=true:=List.all_eq_true.1 hops x (by simp[hop,Op.operands])
    have hxR:=SU hr x hxo
    simp only[CallOk,if_true] at hS
    have hz:=hS hsz E.O tp w (a.eval x) (ev σ x) H (o.dst.getD 0) K (fun b hb=> Nat.lt_of_lt_of_le (hst.hO b hb) hst.step.size) hst.tpl hst.sat hxR hv
    obtain⟨⟨t,v,hv1⟩,hz⟩:=hz
    unfold Oper.wp
    have: (execOp a.eval o).run P w= .halt (.panic (a.eval x)) w:=by
     simp[execOp,hop,hv1,Instr.panic,goPanic]
    rw[this]
    exact hpan _ _ ⟨hz,hst.stepTo (.refl _ _ _)⟩
   simp only[CallOk,if_neg hne] at hS
   have hao: ∀x∈args,uS x=true:=fun x hx=> List.all_eq_true.1 hops x (by
    simp only[hop,Op.operands,Call.operands]
    rw[←hargs] at hx
    simp;right;simpa using hx)
   simp only[bu] at hv
   refine L3 (vs:=args.map a.eval) (ds:=args.map (ev σ)) hS hst hd hN hr (fun _ _ hce=> ?_) (by rw[List.length_map,List.length_map]) (Qd hr hao) hv hdst hpan hnext
   have he:q.args.map a.eval=(args.map a.eval).toArray:=by rw[←hargs];exact Array.toList_inj.1 (by rw[Array.toList_map])
   simp[execOp,hop,resolve,hcal,Act.eval,Deferred.ofValue,invoke,he,hce _ w]
  ·rename_i f args
   obtain⟨q,hop,hcal,hargs⟩:=I9 hc
   have hao: ∀x∈args,uS x=true:=fun x hx=> List.all_eq_true.1 hops x (by
    simp only[hop,Op.operands,Call.operands]
    rw[←hargs] at hx
    simp;right;simpa using hx)
   have hfo:uS f=true:=List.all_eq_true.1 hops f (by
    simp only[hop,Op.operands,Call.operands,hcal]
    simp)
   have hfR:=SU hr f hfo
   simp only[bu] at hv
   split at hv
   ·rename_i g caps e1
    rw[e1] at hfR
    generalize hq:a.eval f=fv at hfR
    cases hfR with
    | clo _ xs _ hl h=>
      refine L3 (vs:=args.map a.eval++xs) (ds:=args.map (ev σ) ++caps) (hS g) hst hd hN hr (fun _ _ hce=> ?_) (by rw[List.length_append,List.length_append,List.length_map,List.length_map,hl]) ?_ hv hdst hpan hnext
      ·have he:q.args.map a.eval=(args.map a.eval).toArray:=by rw[←hargs];exact Array.toList_inj.1 (by rw[Array.toList_map])
       simp[execOp,hop,resolve,hcal,hq,Deferred.ofValue,invoke,he,hce _ w]
      ·intro k x e h1 h2
       by_cases hk:k < args.length
       ·rw[List.getElem?_append_left (by simpa using hk)] at h1 h2
        exact Qd hr hao k x e h1 h2
       ·rw[List.getElem?_append_right (by simp;omega)] at h1 h2
        simp only[List.length_map] at h1 h2
        exact h _ x e h1 h2
   ·exact hv.elim
  ·rename_i r f args
   obtain⟨q,hop,hcal,hargs⟩:=Ja hc
   have hao: ∀x∈args,uS x=true:=fun x hx=> List.all_eq_true.1 hops x (by
    simp only[hop,Op.operands,Call.operands]
    rw[←hargs] at hx
    simp;right;simpa using hx)
   simp only[bu] at hv
   have hS:TriZ z P f (S f).pt:=hS
   refine L3 (vs:=args.map a.eval) (ds:=args.map (ev σ)) hS hst hd hN hr (fun _ _ hce=> ?_) (by rw[List.length_map,List.length_map]) (Qd hr hao) hv hdst hpan hnext
   have he:q.args.map a.eval=(args.map a.eval).toArray:=by rw[←hargs];exact Array.toList_inj.1 (by rw[Array.toList_map])
   simp[execOp,hop,resolve,hcal,Act.eval,Deferred.ofValue,invoke,he,hce _ w]
 ·have hnc:c.isCall=false:=by simpa using hcall
  have hv':cZ c o.dst σ H K:=by
   cases c <;> first | exact hv | (simp[COp.isCall] at hnc)
  obtain⟨nx,x,d,H',w',hrun,hnx,hm,hR,hk⟩:=U4 hc hnc hst hr hv'
  have hst':=St.put hd hN hr hm o.dst hdst hR
  unfold Oper.wp
  rw[hrun]
  rcases hnx with rfl | ⟨rfl,rfl⟩
  ·exact hnext d H' x w' hk hst'
  ·exact hnext d H' Go.undef w' hk hst'
end
end Go.Gv
