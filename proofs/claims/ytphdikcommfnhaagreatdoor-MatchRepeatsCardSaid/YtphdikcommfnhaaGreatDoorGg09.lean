/- A part of the framework and of the walks: S7. -/
import Derived.Test.YtphdikcommfnhaaGreatDoorGg08
set_option linter.unusedSimpArgs false
set_option linter.unusedVariables false
set_option linter.unusedSectionVars false

namespace Go.Gv
section
variable {P:Program}{im:List Nat}{o:Oper}{c:COp}{a:Act}{E:xn}{tp:Nat->Prop}{H:ab}{w:World}{σ:Sg}
theorem lJ(hc:ca P im o=some c):o.op.operands.toList.all xh=true:=by
 unfold ca at hc
 split at hc
 ·cases hc
 ·rename_i h;simpa using h
theorem Rt{K:D->Prop}{Hr:ab}(hc:ca P im o=some c)(hro:c.isRead=true)(hst:StW E tp H w)(hr:∀t,R tp (aM E.O tp H w) w (a.tmps.getD t undef) (σ t))
 (hle:∀i r,Hr i=some r->H i=some r) (hv:ak c σ Hr K):GoodN P o a E tp H w K:=by
 have hops:=lJ hc
 have hsat:∀i r,H i=some r->ResOk (R tp (aM E.O tp H w) w) w r:=hst.sat.ok
 unfold ca at hc
 rw[if_neg (by simpa using hops)]at hc
 have hev:∀x,x∈o.op.operands->R tp (aM E.O tp H w) w (a.eval x) (ev σ x):=fun x hx=>R2 hr x (qtL.1 hops x (by simpa using hx))
 cases hop:o.op with
 | move x=>
   simp only[hop]at hc;cases hc
   exact(TF (.inl hop) (hev x (by simp[hop,Op.operands])) hv).toN
 | assign x=>
   simp only[hop]at hc;cases hc
   exact(TF (.inr hop) (hev x (by simp[hop,Op.operands])) hv).toN
 | pick q x y=>
   simp only[hop]at hc;cases hc
   exact(We hop (hev q (by simp[hop,Op.operands])) (hev x (by simp[hop,Op.operands])) (hev y (by simp[hop,Op.operands])) hv).toN
 | alloc el=>
   simp only[hop,qtI,qtE,qtT]at hc
   obtain⟨z,_,rfl⟩:=hc
   simp[COp.isRead]at hro
 | box el x=>
   simp only[hop]at hc
   split at hc
   ·cases hc;cases hro
   cases hc
   cases hcon:Z6 im o.dst with
   | false=>rw[hcon]at hro;cases hro
   | true=>
     rw[hcon]at hv
     exact Wm hst hop (hev x (by simp[hop,Op.operands])) hv
 | build t parts=>
   simp only[hop,qtI,qtE]at hc
   obtain⟨z,hz,hc⟩:=hc
   split at hc
   ·rename_i fs hu
    obtain⟨ps,hps,hc⟩:=qtE.1 hc
    split at hc
    ·rename_i hall
     cases hc
     exact(RT hop hz hu (by simpa using hps) hall (fun p hp=>hev p.2 (by
      simp only[hop,Op.operands]
      simp only[List.mem_toArray,qtU]
      exact⟨p,hp,rfl⟩)) hv).toN
    ·cases hc
   ·rename_i len el hu
    simp only[qtE]at hc
    obtain⟨sz,hs,ps,hps,hc⟩:=hc
    cases hc
    exact(Pk hop hz hu hs hps (fun p hp=>hev p.2 (by
     simp only[hop,Op.operands]
     simp only[List.mem_toArray,qtU]
     exact⟨p,hp,rfl⟩)) hv).toN
   ·cases hc
 | buildSlice t len parts=>
   simp only[hop,qtI]at hc
   split at hc
   ·rename_i el hu
    simp only[qtE]at hc
    obtain⟨n,hn,z,hz,ps,hps,hc⟩:=hc
    split at hc
    ·rename_i hcond
     simp only[qtN,decide_eq_true_eq]at hcond
     split at hc
     ·cases hc;simp[COp.isRead]at hro
     ·rename_i hl0
      split at hc
      ·cases hc;simp[COp.isRead]at hro
      cases hc
      refine Pl hst hop hu hn hz hps hcond.1 hcond.2 hl0 (fun x hx=>hev x ?_) hv
      unfold uy at hps
      split at hps
      ·cases hps
       simp only[hop,Op.operands]
       simpa using hx
      ·cases hps
    ·cases hc
   ·cases hc
 | insert t m k v=>
   simp only[hop]at hc
   split at hc
   ·simp only[qtI,qtE]at hc
    obtain⟨⟨ka,ks⟩,hkt,hc⟩:=hc
    cases hc
    simp[COp.isRead,MOp.isRead]at hro
   ·cases hc
 | load t x=>
   simp only[hop,qtI,qtE]at hc
   obtain⟨agg,ha,sz,hs,hc⟩:=hc
   split at hc
   ·rename_i h1
    cases hc
    exact(KY hop ha hs (by simpa using h1) (hev x (by simp[hop,Op.operands])) hle hsat hv).toN
   ·cases hc
 | store t x y=>
   simp only[hop,qtI,qtE,qtT]at hc
   obtain⟨z,_,rfl⟩:=hc
   simp[COp.isRead]at hro
 | ready g=>simp[hop]at hc
 | waits g=>simp[hop]at hc
 | nilCheck x=>
   simp only[hop]at hc;cases hc
   exact(RP hop (hev x (by simp[hop,Op.operands])) hv).toN
 | binOp op t x y u=>
   simp only[hop]at hc
   have hx:=hev x (by simp[hop,Op.operands])
   have hy:=hev y (by simp[hop,Op.operands])
   split at hc
   ·split at hc
    ·cases hc;exact(fT hop (.inl rfl) hx hy hv).toN
    ·split at hc
     ·cases hc;exact(Wc hop hx hy hv).toN
     ·cases hc
   ·split at hc
    ·cases hc;exact(fT hop (by simp) hx hy hv).toN
    ·cases hc
   ·split at hc
    ·cases hc;exact(fT hop (by simp) hx hy hv).toN
    ·cases hc
   ·split at hc
    ·cases hc;exact(fT hop (by simp) hx hy hv).toN
    ·cases hc
   ·split at hc
    ·cases hc;exact(fT hop (by simp) hx hy hv).toN
    ·cases hc
   ·split at hc
    ·cases hc;exact(fT hop (by simp) hx hy hv).toN
    ·cases hc
   ·split at hc
    ·cases hc;exact(fT hop (by simp) hx hy hv).toN
    ·cases hc
   ·split at hc
    ·cases hc;exact(fT hop (by simp) hx hy hv).toN
    ·cases hc
   ·split at hc
    ·cases hc;exact(fT hop (by simp) hx hy hv).toN
    ·cases hc
   iterate 4
    ·split at hc
     ·cases hc;exact(Pj hop hx hy hv).toN
     ·split at hc
      ·cases hc;exact(Pj hop hx hy hv).toN
      ·cases hc
   ·exact(Pi (neg:=false) (by simpa using hop) hc hx hy hv).toN
   ·exact(Pi (neg:=true) (by simpa using hop) hc hx hy hv).toN
   ·cases hc
 | unOp op t x=>
   cases op <;> simp only[hop]at hc <;> cases hc
   ·exact(Zx hop (hev x (by simp[hop,Op.operands])) hv).toN
   ·exact(Zw hop (hev x (by simp[hop,Op.operands])) hv).toN
 | convert s t x=>
   simp only[hop]at hc
   split at hc
   ·rename_i k0 k h1 h2
    cases hc
    exact(Wj hop h1 h2 (hev x (by simp[hop,Op.operands])) hv).toN
   ·rename_i k0 h1 h2
    cases hc
    exact(Wd hop h1 h2 (hev x (by simp[hop,Op.operands])) hv).toN
   ·rename_i el h1 h2
    split at hc
    ·rename_i h3
     cases hc
     exact Pf hst hop h1 h2 h3 (hev x (by simp[hop,Op.operands])) hv
    ·cases hc
   ·rename_i el h1 h2
    split at hc
    ·rename_i h3
     cases hc
     exact(Wl hop h1 h2 h3 (hev x (by simp[hop,Op.operands])) hle hsat hv).toN
    ·cases hc
   ·cases hc
 | sliceToArrayPointer t x=>simp[hop]at hc
 | makeInterface t x=>
   simp only[hop]at hc
   split at hc
   ·split at hc
    ·rename_i fs ht
     cases hc
     exact(Wg hop ht (hev x (by simp[hop,Op.operands])) hv).toN
    ·cases hc
   ·cases hc;exact False.elim hv
 | makeFunc fn first caps=>
   cases fn <;> simp only[hop]at hc <;> try (cases hc;done)
   split at hc
   ·rename_i hf
    cases hc
    exact(ZB hop hf (fun x hx=>hev x (by simp only[hop,Op.operands];simp;right;simpa using hx)) hv).toN
   ·cases hc
 | makeMap t r=>
   cases r with
   | some r=>simp[hop]at hc
   | none=>simp only[hop]at hc;cases hc;simp[COp.isRead,MOp.isRead]at hro
 | makeChan t r=>simp[hop]at hc
 | makeSlice t l k=>
   simp only[hop,qtI]at hc
   split at hc
   ·simp only[qtE]at hc
    obtain⟨n,hn,z,hz,agg,ha,hc⟩:=hc
    split at hc
    ·cases hc;simp[COp.isRead]at hro
    ·cases hc
   ·cases hc
 | slice t x lo hi mx=>
   cases mx with
   | some m=>simp[hop]at hc
   | none=>
     simp only[hop,qtI]at hc
     have hx:=hev x (by simp[hop,Op.operands])
     have hlo:∀y,lo=some y->R tp (aM E.O tp H w) w (a.eval y) (ev σ y):=fun y hy=>hev y (by subst hy;simp[hop,Op.operands])
     have hhi:∀y,hi=some y->R tp (aM E.O tp H w) w (a.eval y) (ev σ y):=fun y hy=>hev y (by subst hy;simp[hop,Op.operands])
     split at hc
     ·rename_i el hu
      simp only[qtE,qtT]at hc
      obtain⟨n,hn,rfl⟩:=hc
      exact(RO hop hu hn hx hlo hhi hle hsat hv).toN
     ·rename_i hu
      cases hc
      exact(Pe hop hu hx hlo hhi hv).toN
     ·cases hc
 | fieldAddr t x f=>
   simp only[hop,qtI]at hc
   split at hc
   ·rename_i fs hu
    simp only[qtE]at hc
    obtain⟨fd,hf,sz,hs,hc⟩:=hc
    split at hc
    ·rename_i h0
     cases hc
     exact(RR hop hu hf hs h0 (hev x (by simp[hop,Op.operands])) hv).toN
    ·cases hc
   ·cases hc
 | field t x f=>
   simp only[hop,qtI]at hc
   split at hc
   ·rename_i fs hu
    simp only[qtE]at hc
    obtain⟨fd,hf,agg,ha,sz,hs,hc⟩:=hc
    split at hc
    ·rename_i h1
     cases hc
     exact(Zz hop hu hf ha hs (by simpa using h1) (hev x (by simp[hop,Op.operands])) hv).toN
    ·cases hc
   ·cases hc
 | indexAddr t x i=>
   simp only[hop,qtI]at hc
   split at hc
   ·rename_i el hu
    simp only[qtE,qtT]at hc
    obtain⟨n,hn,rfl⟩:=hc
    exact(RQ hop hu hn (hev x (by simp[hop,Op.operands])) (hev i (by simp[hop,Op.operands])) hle hsat hv).toN
   ·rename_i len el hu
    split at hc
    ·simp only[qtE]at hc
     obtain⟨sz,hs,hc⟩:=hc
     split at hc
     ·rename_i h0
      cases hc
      exact(RU hop hu hs h0 (hev x (by simp[hop,Op.operands])) hv).toN
     ·cases hc
    ·simp only[qtE,qtT]at hc
     obtain⟨sz,hs,rfl⟩:=hc
     exact(Wn hop hu hs (hev x (by simp[hop,Op.operands])) (hev i (by simp[hop,Op.operands])) hv).toN
   ·cases hc
 | index t x i=>
   simp only[hop]at hc
   split at hc
   ·rename_i hu
    cases hc
    exact(Wb hop hu (hev x (by simp[hop,Op.operands])) (hev i (by simp[hop,Op.operands])) hv).toN
   ·cases hc
 | lookup t x i b=>
   simp only[hop]at hc
   split at hc
   ·rename_i kt et hu
    simp only[qtI,qtE]at hc
    obtain⟨⟨ka,ks⟩,hkt,z,hz,agg,ha,hc⟩:=hc
    split at hc
    ·rename_i hag
     cases hc
     exact(Wh hop hu (Ei hkt) hz hag (hev x (by simp[hop,Op.operands])) (hev i (by simp[hop,Op.operands])) hle hsat hv).toN
    ·cases hc
   ·cases hc
 | mapUpdate t m k v=>
   simp only[hop]at hc
   split at hc
   ·simp only[qtI,qtE]at hc
    obtain⟨⟨ka,ks⟩,hkt,hc⟩:=hc
    cases hc
    simp[COp.isRead,MOp.isRead]at hro
   ·cases hc
 | mapEntry t m k=>simp[hop]at hc
 | entryStore t m k v=>simp[hop]at hc
 | range t x=>
   simp only[hop]at hc
   split at hc
   ·cases hc;simp[COp.isRead]at hro
   ·cases hc;simp[COp.isRead,MOp.isRead]at hro
   ·cases hc
 | next x b=>
   cases b with
   | false=>simp only[hop]at hc;cases hc;simp[COp.isRead,MOp.isRead]at hro
   | true=>
     simp only[hop]at hc
     cases hc
     simp[COp.isRead]at hro
 | entry x=>
   simp only[hop]at hc
   cases hc
   exact(RS hop (hev x (by simp[hop,Op.operands])) hle hsat hv).toN
 | typeAssert x s t b=>simp[hop]at hc
 | extract x i=>
   simp only[hop]at hc;cases hc
   exact(ZA hop (hev x (by simp[hop,Op.operands])) hv).toN
 | call q=>
   have hargs:∀x∈q.args.toList,R tp (aM E.O tp H w) w (a.eval x) (ev σ x):=fun x hx=>hev x (by
    simp only[hop,Op.operands,Call.operands]
    simp;right;simpa using hx)
   simp only[hop]at hc
   split at hc
   ·split at hc <;> cases hc
    rw[P8]at hro
    cases hro
   ·cases hc;simp[COp.isRead]at hro
   ·rename_i hcal
    split at hc
    ·rename_i t x hat har
     split at hc
     ·rename_i el hu
      cases hc
      exact(Zy hop hcal hat har hu (hargs x (by rw[har];simp)) hle hsat hv).toN
     ·rename_i hu
      cases hc
      exact(V9 hop hcal hat har hu (hargs x (by rw[har];simp)) hv).toN
     ·rename_i kt et hu
      cases hc
      exact(Wf hop hcal hat har hu (hargs x (by rw[har];simp)) hle hsat hv).toN
     ·cases hc
    ·cases hc
   ·rename_i hcal
    cases hc
    exact(TG (mx:=false) hop (by simpa using hcal) hargs hv).toN
   ·rename_i hcal
    cases hc
    exact(TG (mx:=true) hop (by simpa using hcal) hargs hv).toN
   ·split at hc
    ·split at hc
     ·split at hc
      ·simp only[qtI,qtE]at hc
       obtain⟨n,hn,z,hz,hc⟩:=hc
       split at hc
       ·cases hc;simp[COp.isRead]at hro
       ·cases hc
      ·cases hc
     ·split at hc
      ·simp only[qtI,qtE]at hc
       obtain⟨n,hn,z,hz,agg,ha,hc⟩:=hc
       split at hc
       ·cases hc;simp[COp.isRead]at hro
       ·cases hc
      ·simp only[qtI,qtE]at hc
       obtain⟨n,hn,z,hz,hc⟩:=hc
       split at hc
       ·cases hc;simp[COp.isRead]at hro
       ·cases hc
      ·cases hc
    ·cases hc
   ·split at hc
    ·split at hc
     ·simp only[qtI,qtE]at hc
      obtain⟨n,hn,z,hz,agg,ha,hc⟩:=hc
      split at hc
      ·cases hc;simp[COp.isRead]at hro
      ·cases hc
     ·cases hc
    ·cases hc
   ·split at hc
    ·split at hc
     ·split at hc
      ·simp only[qtI,qtE]at hc
       obtain⟨n,hn,hc⟩:=hc
       split at hc
       ·cases hc;simp[COp.isRead]at hro
       ·cases hc
      ·cases hc
     ·cases hc
    ·cases hc
   ·rename_i hcal
    split at hc
    ·rename_i t x hat har
     split at hc
     ·rename_i el hu
      cases hc
      exact(ZC hop hcal hat har hu (hargs x (by rw[har];simp)) hv).toN
     ·cases hc
    ·cases hc
   ·cases hc
 | go q=>simp[hop]at hc
 | defer q=>simp[hop]at hc
 | panic x=>
   simp only[hop]at hc
   split at hc
   ·cases hc;simp[COp.isRead]at hro
   ·cases hc;exact False.elim hv
 | send x y=>simp[hop]at hc
 | recv t x b=>simp[hop]at hc
 | select cs b=>simp[hop]at hc
theorem Vo{K:D->ab->Prop}(hro:c.isRead=true)(hv:bi c o.dst σ H K):ak c σ H fun d=>K d H:=by
 cases c <;> first|exact hv|(simp[COp.isRead]at hro;done)|skip
 ·rename_i el im x
  cases im
  ·simp[COp.isRead]at hro
  ·exact hv
 ·rename_i mo xs
  cases mo <;> first|(simp[COp.isRead,MOp.isRead]at hro;done)|exact hv
theorem YI{K:D->ab->Prop}(hc:ca P im o=some c)(hnc:c.isCall=false)(hst:StW E tp H w)(hr:∀t,R tp (aM E.O tp H w) w (a.tmps.getD t undef) (σ t))
 (hv:bi c o.dst σ H K):dm P o a E tp H w K:=by
 by_cases hro:c.isRead=true
 ·exact GoodN.og hst (Rt hc hro hst hr (fun _ _ h=>h) (Vo hro hv)) (fun d h=>h)
 ·have hops:=lJ hc
  unfold ca at hc
  rw[if_neg (by simpa using hops)]at hc
  have hev:∀x,x∈o.op.operands->R tp (aM E.O tp H w) w (a.eval x) (ev σ x):=fun x hx=>R2 hr x (qtL.1 hops x (by simpa using hx))
  cases hop:o.op with
  | alloc el=>
    simp only[hop,qtI,qtE,qtT]at hc
    obtain⟨z,hz,rfl⟩:=hc
    simp only[bi]at hv
    split at hv
    ·exact YT hst hop hz hv
    ·exact hv.elim
  | box el x=>
    simp only[hop]at hc
    split at hc
    ·cases hc
     simp only[bi]at hv
     split at hv
     ·exact qf1 hst hop (hev x (by simp[hop,Op.operands])) hv.1 hv.2
     ·exact hv.elim
    cases hc
    cases hcon:Z6 im o.dst with
    | true=>rw[hcon]at hro;exact absurd rfl hro
    | false=>
    rw[hcon]at hv
    simp only[bi]at hv
    split at hv
    ·exact qf3 hst hop (hev x (by simp[hop,Op.operands])) hv.1 hv.2
    ·exact hv.elim
  | buildSlice t len parts=>
    simp only[hop,qtI]at hc
    split at hc
    ·rename_i el hu
     simp only[qtE]at hc
     obtain⟨n,hn,z,hz,ps,hps,hc⟩:=hc
     split at hc
     ·rename_i hcond
      split at hc
      ·rename_i hl0
       subst hl0
       cases hc
       simp only[bi]at hv
       have:ps=[]:=by
        unfold uy at hps
        split at hps
        ·rename_i h
         have h':parts.toList=[]:=by simpa using h
         rw[h']at hps
         simpa using hps.symm
        ·cases hps
       subst this
       split at hv
       ·exact Vw hst hop hu hn hz hps hv
       ·exact hv.elim
      ·rename_i hl0
       simp only[qtN,decide_eq_true_eq]at hcond
       split at hc
       ·cases hc
        simp only[bi]at hv
        split at hv
        ·refine Vx hst hop hu hn hz hps hcond.1 hcond.2 hl0 (fun x hx=>hev x ?_) hv.1 hv.2
         unfold uy at hps
         split at hps
         ·cases hps
          simp only[hop,Op.operands]
          simpa using hx
         ·cases hps
        ·exact hv.elim
       ·cases hc;simp[COp.isRead]at hro
     ·cases hc
    ·cases hc
  | store t x y=>
    simp only[hop,qtI,qtE,qtT]at hc
    obtain⟨sz,hs,rfl⟩:=hc
    exact YP hst hop hs (hev x (by simp[hop,Op.operands])) (hev y (by simp[hop,Op.operands])) hv
  | makeSlice t l k=>
    simp only[hop,qtI]at hc
    split at hc
    ·rename_i el hu
     simp only[qtE]at hc
     obtain⟨n,hn,z,hz,agg,ha,hc⟩:=hc
     split at hc
     ·rename_i hcond
      simp only[qtN,decide_eq_true_eq]at hcond
      cases hc
      simp only[bi]at hv
      split at hv
      ·split at hv
       ·rename_i e1 e2
        have h1:=hev l (by simp[hop,Op.operands])
        have h2:=hev k (by simp[hop,Op.operands])
        rw[zz e1]at h1
        rw[zz e2]at h2
        obtain⟨h0,hlc,hb,h63,hk⟩:=hv
        exact RC hst hop hu hn hz hcond.1 (by simpa using hcond.2) h1.inv_v h2.inv_v h0 hlc hb h63 hk
       ·exact hv.elim
      ·exact hv.elim
     ·cases hc
    ·cases hc
  | call q=>
    have hargs:∀x∈q.args.toList,R tp (aM E.O tp H w) w (a.eval x) (ev σ x):=fun x hx=>hev x (by
     simp only[hop,Op.operands,Call.operands]
     simp;right;simpa using hx)
    simp only[hop]at hc
    split at hc
    ·split at hc <;> cases hc
     rw[P9]at hnc
     cases hnc
    ·cases hc;simp[COp.isCall]at hnc
    ·split at hc
     ·split at hc
      ·cases hc;simp[COp.isRead]at hro
      ·cases hc;simp[COp.isRead]at hro
      ·cases hc;simp[COp.isRead,MOp.isRead]at hro
      ·cases hc
     ·cases hc
    ·cases hc;simp[COp.isRead]at hro
    ·cases hc;simp[COp.isRead]at hro
    ·rename_i hcal
     split at hc
     ·rename_i t u x y hat har
      split at hc
      ·rename_i htu
       subst htu
       split at hc
       ·rename_i el hu
        simp only[qtI,qtE]at hc
        obtain⟨n,hn,z,hz,hc⟩:=hc
        split at hc
        ·rename_i h0
         cases hc
         exact KG hst hop hcal hat har hu (.inl ⟨_,hu⟩) hn hz rfl h0 (hargs x (by rw[har];simp)) (hargs y (by rw[har];simp)) hv
        ·cases hc
       ·cases hc
      ·split at hc
       ·rename_i el kn hu hu2
        simp only[qtI,qtE]at hc
        obtain⟨n,hn,z,hz,agg,ha,hc⟩:=hc
        split at hc
        ·rename_i hcond
         simp only[qtN,decide_eq_true_eq]at hcond
         cases hc
         exact YS hst hop hcal hat har hu hu2 hn hz hcond.1 (by simpa using hcond.2) (hargs x (by rw[har];simp)) (hargs y (by rw[har];simp)) hv
        ·cases hc
       ·rename_i el hu hu2
        simp only[qtI,qtE]at hc
        obtain⟨n,hn,z,hz,hc⟩:=hc
        split at hc
        ·rename_i h0
         cases hc
         exact KG hst hop hcal hat har hu (.inr hu2) hn hz rfl (by omega) (hargs x (by rw[har];simp)) (hargs y (by rw[har];simp)) hv
        ·cases hc
       ·cases hc
     ·cases hc
    ·rename_i hcal
     split at hc
     ·rename_i t x hat har
      split at hc
      ·rename_i el hu
       simp only[qtI,qtE]at hc
       obtain⟨n,hn,z,hz,agg,ha,hc⟩:=hc
       split at hc
       ·rename_i hcond
        simp only[qtN,decide_eq_true_eq]at hcond
        cases hc
        exact YR hst hop hcal hat har hu hn hz hcond.1 (by simpa using hcond.2) (hargs x (by rw[har];simp)) hv
       ·cases hc
      ·cases hc
     ·cases hc
    ·rename_i hcal
     split at hc
     ·rename_i t u x y hat har
      split at hc
      ·rename_i htu
       subst htu
       split at hc
       ·rename_i el hu
        simp only[qtI,qtE]at hc
        obtain⟨n,hn,hc⟩:=hc
        split at hc
        ·rename_i h0
         cases hc
         exact qcq hst hop hcal hat har hu hn h0 (hargs x (by rw[har];simp)) (hargs y (by rw[har];simp)) hv
        ·cases hc
       ·cases hc
      ·cases hc
     ·cases hc
    ·split at hc
     ·split at hc
      ·cases hc;simp[COp.isRead]at hro
      ·cases hc
     ·cases hc
    ·cases hc
  | move x=>simp only[hop]at hc;cases hc;simp[COp.isRead]at hro
  | assign x=>simp only[hop]at hc;cases hc;simp[COp.isRead]at hro
  | pick q x y=>simp only[hop]at hc;cases hc;simp[COp.isRead]at hro
  | build t parts=>
    simp only[hop,qtI,qtE]at hc
    obtain⟨z,hz,hc⟩:=hc
    split at hc
    ·obtain⟨ps,hps,hc⟩:=qtE.1 hc
     split at hc
     ·cases hc;simp[COp.isRead]at hro
     ·cases hc
    ·simp only[qtE]at hc
     obtain⟨sz,hs,ps,hps,hc⟩:=hc
     cases hc;simp[COp.isRead]at hro
    ·cases hc
  | insert t m k v=>
    simp only[hop]at hc
    split at hc
    ·rename_i kt et hu
     simp only[qtI,qtE]at hc
     obtain⟨⟨ka,ks⟩,hkt,hc⟩:=hc
     cases hc
     exact YO hst (.inr hop) hu (Ei hkt) (hev m (by simp[hop,Op.operands])) (hev k (by simp[hop,Op.operands])) (hev v (by simp[hop,Op.operands])) hv
    ·cases hc
  | load t x=>
    simp only[hop,qtI,qtE]at hc
    obtain⟨agg,ha,sz,hs,hc⟩:=hc
    split at hc
    ·cases hc;simp[COp.isRead]at hro
    ·cases hc
  | ready g=>simp[hop]at hc
  | waits g=>simp[hop]at hc
  | nilCheck x=>simp only[hop]at hc;cases hc;simp[COp.isRead]at hro
  | binOp op t x y u=>
    exfalso
    simp only[hop]at hc
    unfold lK at hc
    (repeat' split at hc) <;> first
      | (cases hc;done)
      | (cases hc;simp[COp.isRead]at hro;done)
      | (cases hks:wx P t with
         | none=>simp[hks]at hc
         | some ks=>simp[hks]at hc;subst hc;simp[COp.isRead]at hro)
  | unOp op t x=>
    exfalso
    cases op <;> simp only[hop]at hc <;> first|(cases hc;done)|(cases hc;simp[COp.isRead]at hro;done)
  | convert s t x=>
    simp only[hop]at hc
    split at hc
    ·cases hc;simp[COp.isRead]at hro
    ·cases hc;simp[COp.isRead]at hro
    ·split at hc
     ·cases hc;simp[COp.isRead]at hro
     ·cases hc
    ·split at hc
     ·cases hc;simp[COp.isRead]at hro
     ·cases hc
    ·cases hc
  | sliceToArrayPointer t x=>simp[hop]at hc
  | makeInterface t x=>
    simp only[hop]at hc
    split at hc
    ·split at hc
     ·cases hc;simp[COp.isRead]at hro
     ·cases hc
    ·cases hc;simp[COp.isRead]at hro
  | makeFunc fn first caps=>
    cases fn <;> simp only[hop]at hc <;> try (cases hc;done)
    split at hc
    ·cases hc;simp[COp.isRead]at hro
    ·cases hc
  | makeMap t r=>
    cases r with
    | some r=>simp[hop]at hc
    | none=>
      simp only[hop]at hc
      cases hc
      simp only[bi,ib,quU]at hv
      split at hv
      ·exact qjh hst hop hv
      ·exact hv.elim
  | makeChan t r=>simp[hop]at hc
  | slice t x lo hi mx=>
    cases mx with
    | some m=>simp[hop]at hc
    | none=>
      simp only[hop,qtI]at hc
      split at hc
      ·simp only[qtE,qtT]at hc
       obtain⟨n,hn,rfl⟩:=hc
       simp[COp.isRead]at hro
      ·cases hc;simp[COp.isRead]at hro
      ·cases hc
  | fieldAddr t x f=>
    simp only[hop,qtI]at hc
    split at hc
    ·simp only[qtE]at hc
     obtain⟨fd,hf,sz,hs,hc⟩:=hc
     split at hc
     ·cases hc;simp[COp.isRead]at hro
     ·cases hc
    ·cases hc
  | field t x f=>
    simp only[hop,qtI]at hc
    split at hc
    ·simp only[qtE]at hc
     obtain⟨fd,hf,agg,ha,sz,hs,hc⟩:=hc
     split at hc
     ·cases hc;simp[COp.isRead]at hro
     ·cases hc
    ·cases hc
  | indexAddr t x i=>
    simp only[hop,qtI]at hc
    split at hc
    ·simp only[qtE,qtT]at hc
     obtain⟨n,hn,rfl⟩:=hc
     simp[COp.isRead]at hro
    ·split at hc
     ·simp only[qtE]at hc
      obtain⟨sz,hs,hc⟩:=hc
      split at hc
      ·cases hc;simp[COp.isRead]at hro
      ·cases hc
     ·simp only[qtE,qtT]at hc
      obtain⟨sz,hs,rfl⟩:=hc
      simp[COp.isRead,MOp.isRead]at hro
    ·cases hc
  | index t x i=>
    simp only[hop]at hc
    split at hc
    ·cases hc;simp[COp.isRead]at hro
    ·cases hc
  | lookup t x i b=>
    simp only[hop]at hc
    split at hc
    ·simp only[qtI,qtE]at hc
     obtain⟨⟨ka,ks⟩,hkt,z,hz,agg,ha,hc⟩:=hc
     split at hc
     ·cases hc;simp[COp.isRead,MOp.isRead]at hro
     ·cases hc
    ·cases hc
  | mapUpdate t m k v=>
    simp only[hop]at hc
    split at hc
    ·rename_i kt et hu
     simp only[qtI,qtE]at hc
     obtain⟨⟨ka,ks⟩,hkt,hc⟩:=hc
     cases hc
     exact YO hst (.inl hop) hu (Ei hkt) (hev m (by simp[hop,Op.operands])) (hev k (by simp[hop,Op.operands])) (hev v (by simp[hop,Op.operands])) hv
    ·cases hc
  | mapEntry t m k=>simp[hop]at hc
  | entryStore t m k v=>simp[hop]at hc
  | range t x=>
    simp only[hop]at hc
    split at hc
    ·rename_i h1
     cases hc
     simp only[bi]at hv
     split at hv
     ·rename_i t' s e1 e2
      have hx:=hev x (by simp[hop,Op.operands])
      rw[e2]at hx
      exact Vv hst hop h1 hx.inv_v hv
     ·exact hv.elim
    ·rename_i h1
     cases hc
     cases hd:o.dst with
     | none=>
       rw[hd]at hv
       simp only[bi,ib,qt7,quU]at hv
     | some t'=>exact qf2 hst hop h1 (hev x (by simp[hop,Op.operands])) hd hv
    ·cases hc
  | next x b=>
    cases b with
    | false=>
      simp only[hop]at hc
      cases hc
      exact qcp hst hop (hev x (by simp[hop,Op.operands])) hv
    | true=>
      simp only[hop]at hc
      cases hc
      exact YQ hst hop (hev x (by simp[hop,Op.operands])) hv
  | entry x=>simp only[hop]at hc;cases hc;simp[COp.isRead,MOp.isRead]at hro
  | typeAssert x s t b=>simp[hop]at hc
  | extract x i=>simp only[hop]at hc;cases hc;simp[COp.isRead]at hro
  | go q=>simp[hop]at hc
  | defer q=>simp[hop]at hc
  | panic x=>
    simp only[hop]at hc
    split at hc
    ·cases hc;simp[COp.isCall]at hnc
    ·cases hc;simp[COp.isRead]at hro
  | send x y=>simp[hop]at hc
  | recv t x b=>simp[hop]at hc
  | select cs b=>simp[hop]at hc
end
end Go.Gv
