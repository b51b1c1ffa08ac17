/- A part of the framework and of the walks: S7. -/
import Derived.Test.YtphdikcommfnhaaGreatDoorGe08
set_option linter.unusedSimpArgs false
set_option linter.unusedVariables false
set_option linter.unusedSectionVars false

namespace Go.Gv
section
variable {P:Program}{im:List Nat}{o:Oper}{c:COp}{a:Act}{E:zd}{tp:Nat->Prop}{H:ab}{w:World}{σ:Sg}
theorem mP(hc:cz P im o=some c):o.op.operands.toList.all yV=true:=by
 unfold cz at hc
 split at hc
 ·cases hc
 ·rename_i h;simpa using h
theorem Us{K:D->Prop}{Hr:ab}(hc:cz P im o=some c)(hro:c.isRead=true)(hst:StW E tp H w)(hr:∀t,R tp (aN E.O tp H w) w (a.tmps.getD t undef) (σ t))
 (hle:∀i r,Hr i=some r->H i=some r) (hv:am c σ Hr K):GoodN P o a E tp H w K:=by
 have hops:=mP hc
 have hsat:∀i r,H i=some r->ResOk (R tp (aN E.O tp H w) w) w r:=hst.sat.ok
 unfold cz at hc
 rw[if_neg (by simpa using hops)]at hc
 have hev:∀x,x∈o.op.operands->R tp (aN E.O tp H w) w (a.eval x) (ev σ x):=fun x hx=>UW hr x (qxF.1 hops x (by simpa using hx))
 cases hop:o.op with
 | move x=>
   simp only[hop]at hc;cases hc
   exact(WQ (.inl hop) (hev x (by simp[hop,Op.operands])) hv).toN
 | assign x=>
   simp only[hop]at hc;cases hc
   exact(WQ (.inr hop) (hev x (by simp[hop,Op.operands])) hv).toN
 | pick q x y=>
   simp only[hop]at hc;cases hc
   exact(Zj hop (hev q (by simp[hop,Op.operands])) (hev x (by simp[hop,Op.operands])) (hev y (by simp[hop,Op.operands])) hv).toN
 | alloc el=>
   simp only[hop,qxB,qxx,qxN]at hc
   obtain⟨z,_,rfl⟩:=hc
   simp[COp.isRead]at hro
 | box el x=>
   simp only[hop]at hc
   split at hc
   ·cases hc;cases hro
   cases hc
   cases hcon:qdf im o.dst with
   | false=>rw[hcon]at hro;cases hro
   | true=>
     rw[hcon]at hv
     exact Zq hst hop (hev x (by simp[hop,Op.operands])) hv
 | build t parts=>
   simp only[hop,qxB,qxx]at hc
   obtain⟨z,hz,hc⟩:=hc
   split at hc
   ·rename_i fs hu
    obtain⟨ps,hps,hc⟩:=qxx.1 hc
    split at hc
    ·rename_i hall
     cases hc
     exact(UO hop hz hu (by simpa using hps) hall (fun p hp=>hev p.2 (by
      simp only[hop,Op.operands]
      simp only[List.mem_toArray,qxL]
      exact⟨p,hp,rfl⟩)) hv).toN
    ·cases hc
   ·rename_i len el hu
    simp only[qxx]at hc
    obtain⟨sz,hs,ps,hps,hc⟩:=hc
    cases hc
    exact(RZ hop hz hu hs hps (fun p hp=>hev p.2 (by
     simp only[hop,Op.operands]
     simp only[List.mem_toArray,qxL]
     exact⟨p,hp,rfl⟩)) hv).toN
   ·cases hc
 | buildSlice t len parts=>
   simp only[hop,qxB]at hc
   split at hc
   ·rename_i el hu
    simp only[qxx]at hc
    obtain⟨n,hn,z,hz,ps,hps,hc⟩:=hc
    split at hc
    ·rename_i hcond
     simp only[qxH,decide_eq_true_eq]at hcond
     split at hc
     ·cases hc;simp[COp.isRead]at hro
     ·rename_i hl0
      split at hc
      ·cases hc;simp[COp.isRead]at hro
      cases hc
      refine R1 hst hop hu hn hz hps hcond.1 hcond.2 hl0 (fun x hx=>hev x ?_) hv
      unfold wn at hps
      split at hps
      ·cases hps
       simp only[hop,Op.operands]
       simpa using hx
      ·cases hps
    ·cases hc
   ·cases hc
 | insert t m k v=>
   simp only[hop]at hc
   split at hc
   ·simp only[qxB,qxx]at hc
    obtain⟨⟨ka,ks⟩,hkt,hc⟩:=hc
    cases hc
    simp[COp.isRead,MOp.isRead]at hro
   ·cases hc
 | load t x=>
   simp only[hop,qxB,qxx]at hc
   obtain⟨agg,ha,sz,hs,hc⟩:=hc
   split at hc
   ·rename_i h1
    cases hc
    exact(Nf hop ha hs (by simpa using h1) (hev x (by simp[hop,Op.operands])) hle hsat hv).toN
   ·cases hc
 | store t x y=>
   simp only[hop,qxB,qxx,qxN]at hc
   obtain⟨z,_,rfl⟩:=hc
   simp[COp.isRead]at hro
 | ready g=>simp[hop]at hc
 | waits g=>simp[hop]at hc
 | nilCheck x=>
   simp only[hop]at hc;cases hc
   exact(UK hop (hev x (by simp[hop,Op.operands])) hv).toN
 | binOp op t x y u=>
   simp only[hop]at hc
   have hx:=hev x (by simp[hop,Op.operands])
   have hy:=hev y (by simp[hop,Op.operands])
   split at hc
   ·split at hc
    ·cases hc;exact(gK hop (.inl rfl) hx hy hv).toN
    ·split at hc
     ·cases hc;exact(Zh hop hx hy hv).toN
     ·cases hc
   ·split at hc
    ·cases hc;exact(gK hop (by simp) hx hy hv).toN
    ·cases hc
   ·split at hc
    ·cases hc;exact(gK hop (by simp) hx hy hv).toN
    ·cases hc
   ·split at hc
    ·cases hc;exact(gK hop (by simp) hx hy hv).toN
    ·cases hc
   ·split at hc
    ·cases hc;exact(gK hop (by simp) hx hy hv).toN
    ·cases hc
   ·split at hc
    ·cases hc;exact(gK hop (by simp) hx hy hv).toN
    ·cases hc
   ·split at hc
    ·cases hc;exact(gK hop (by simp) hx hy hv).toN
    ·cases hc
   ·split at hc
    ·cases hc;exact(gK hop (by simp) hx hy hv).toN
    ·cases hc
   ·split at hc
    ·cases hc;exact(gK hop (by simp) hx hy hv).toN
    ·cases hc
   iterate 4
    ·split at hc
     ·cases hc;exact(RY hop hx hy hv).toN
     ·split at hc
      ·cases hc;exact(RY hop hx hy hv).toN
      ·cases hc
   ·exact(RX (neg:=false) (by simpa using hop) hc hx hy hv).toN
   ·exact(RX (neg:=true) (by simpa using hop) hc hx hy hv).toN
   ·cases hc
 | unOp op t x=>
   cases op <;> simp only[hop]at hc <;> cases hc
   ·exact(qcD hop (hev x (by simp[hop,Op.operands])) hv).toN
   ·exact(qcC hop (hev x (by simp[hop,Op.operands])) hv).toN
 | convert s t x=>
   simp only[hop]at hc
   split at hc
   ·rename_i k0 k h1 h2
    cases hc
    exact(Zo hop h1 h2 (hev x (by simp[hop,Op.operands])) hv).toN
   ·rename_i k0 h1 h2
    cases hc
    exact(Zi hop h1 h2 (hev x (by simp[hop,Op.operands])) hv).toN
   ·rename_i el h1 h2
    split at hc
    ·rename_i h3
     cases hc
     exact RU hst hop h1 h2 h3 (hev x (by simp[hop,Op.operands])) hv
    ·cases hc
   ·rename_i el h1 h2
    split at hc
    ·rename_i h3
     cases hc
     exact(Zp hop h1 h2 h3 (hev x (by simp[hop,Op.operands])) hle hsat hv).toN
    ·cases hc
   ·cases hc
 | sliceToArrayPointer t x=>simp[hop]at hc
 | makeInterface t x=>
   simp only[hop]at hc
   split at hc
   ·split at hc
    ·rename_i fs ht
     cases hc
     exact(Zl hop ht (hev x (by simp[hop,Op.operands])) hv).toN
    ·cases hc
   ·cases hc;exact False.elim hv
 | makeFunc fn first caps=>
   cases fn <;> simp only[hop]at hc <;> try (cases hc;done)
   split at hc
   ·rename_i hf
    cases hc
    exact(qcH hop hf (fun x hx=>hev x (by simp only[hop,Op.operands];simp;right;simpa using hx)) hv).toN
   ·cases hc
 | makeMap t r=>
   cases r with
   | some r=>simp[hop]at hc
   | none=>simp only[hop]at hc;cases hc;simp[COp.isRead,MOp.isRead]at hro
 | makeChan t r=>simp[hop]at hc
 | makeSlice t l k=>
   simp only[hop,qxB]at hc
   split at hc
   ·simp only[qxx]at hc
    obtain⟨n,hn,z,hz,agg,ha,hc⟩:=hc
    split at hc
    ·cases hc;simp[COp.isRead]at hro
    ·cases hc
   ·cases hc
 | slice t x lo hi mx=>
   cases mx with
   | some m=>simp[hop]at hc
   | none=>
     simp only[hop,qxB]at hc
     have hx:=hev x (by simp[hop,Op.operands])
     have hlo:∀y,lo=some y->R tp (aN E.O tp H w) w (a.eval y) (ev σ y):=fun y hy=>hev y (by subst hy;simp[hop,Op.operands])
     have hhi:∀y,hi=some y->R tp (aN E.O tp H w) w (a.eval y) (ev σ y):=fun y hy=>hev y (by subst hy;simp[hop,Op.operands])
     split at hc
     ·rename_i el hu
      simp only[qxx,qxN]at hc
      obtain⟨n,hn,rfl⟩:=hc
      exact(UJ hop hu hn hx hlo hhi hle hsat hv).toN
     ·rename_i hu
      cases hc
      exact(RT hop hu hx hlo hhi hv).toN
     ·cases hc
 | fieldAddr t x f=>
   simp only[hop,qxB]at hc
   split at hc
   ·rename_i fs hu
    simp only[qxx]at hc
    obtain⟨fd,hf,sz,hs,hc⟩:=hc
    split at hc
    ·rename_i h0
     cases hc
     exact(UM hop hu hf hs h0 (hev x (by simp[hop,Op.operands])) hv).toN
    ·cases hc
   ·cases hc
 | field t x f=>
   simp only[hop,qxB]at hc
   split at hc
   ·rename_i fs hu
    simp only[qxx]at hc
    obtain⟨fd,hf,agg,ha,sz,hs,hc⟩:=hc
    split at hc
    ·rename_i h1
     cases hc
     exact(qcF hop hu hf ha hs (by simpa using h1) (hev x (by simp[hop,Op.operands])) hv).toN
    ·cases hc
   ·cases hc
 | indexAddr t x i=>
   simp only[hop,qxB]at hc
   split at hc
   ·rename_i el hu
    simp only[qxx,qxN]at hc
    obtain⟨n,hn,rfl⟩:=hc
    exact(UL hop hu hn (hev x (by simp[hop,Op.operands])) (hev i (by simp[hop,Op.operands])) hle hsat hv).toN
   ·rename_i len el hu
    split at hc
    ·simp only[qxx]at hc
     obtain⟨sz,hs,hc⟩:=hc
     split at hc
     ·rename_i h0
      cases hc
      exact(UP hop hu hs h0 (hev x (by simp[hop,Op.operands])) hv).toN
     ·cases hc
    ·simp only[qxx,qxN]at hc
     obtain⟨sz,hs,rfl⟩:=hc
     exact(Zr hop hu hs (hev x (by simp[hop,Op.operands])) (hev i (by simp[hop,Op.operands])) hv).toN
   ·cases hc
 | index t x i=>
   simp only[hop]at hc
   split at hc
   ·rename_i hu
    cases hc
    exact(Zg hop hu (hev x (by simp[hop,Op.operands])) (hev i (by simp[hop,Op.operands])) hv).toN
   ·cases hc
 | lookup t x i b=>
   simp only[hop]at hc
   split at hc
   ·rename_i kt et hu
    simp only[qxB,qxx]at hc
    obtain⟨⟨ka,ks⟩,hkt,z,hz,agg,ha,hc⟩:=hc
    split at hc
    ·rename_i hag
     cases hc
     exact(Zm hop hu (F8 hkt) hz hag (hev x (by simp[hop,Op.operands])) (hev i (by simp[hop,Op.operands])) hle hsat hv).toN
    ·cases hc
   ·cases hc
 | mapUpdate t m k v=>
   simp only[hop]at hc
   split at hc
   ·simp only[qxB,qxx]at hc
    obtain⟨⟨ka,ks⟩,hkt,hc⟩:=hc
    cases hc
    simp[COp.isRead,MOp.isRead]at hro
   ·cases hc
 | mapEntry t m k=>simp[hop]at hc
 | entryStore t m k v=>simp[hop]at hc
 | range t x=>
   simp only[hop]at hc
   split at hc
   ·cases hc;simp[COp.isRead]at hro
   ·cases hc;simp[COp.isRead,MOp.isRead]at hro
   ·cases hc
 | next x b=>
   cases b with
   | false=>simp only[hop]at hc;cases hc;simp[COp.isRead,MOp.isRead]at hro
   | true=>
     simp only[hop]at hc
     cases hc
     simp[COp.isRead]at hro
 | entry x=>
   simp only[hop]at hc
   cases hc
   exact(UN hop (hev x (by simp[hop,Op.operands])) hle hsat hv).toN
 | typeAssert x s t b=>simp[hop]at hc
 | extract x i=>
   simp only[hop]at hc;cases hc
   exact(qcG hop (hev x (by simp[hop,Op.operands])) hv).toN
 | call q=>
   have hargs:∀x∈q.args.toList,R tp (aN E.O tp H w) w (a.eval x) (ev σ x):=fun x hx=>hev x (by
    simp only[hop,Op.operands,Call.operands]
    simp;right;simpa using hx)
   simp only[hop]at hc
   split at hc
   ·split at hc <;> cases hc
    rw[SN]at hro
    cases hro
   ·cases hc;simp[COp.isRead]at hro
   ·rename_i hcal
    split at hc
    ·rename_i t x hat har
     split at hc
     ·rename_i el hu
      cases hc
      exact(qcE hop hcal hat har hu (hargs x (by rw[har];simp)) hle hsat hv).toN
     ·rename_i hu
      cases hc
      exact(Zf hop hcal hat har hu (hargs x (by rw[har];simp)) hv).toN
     ·rename_i kt et hu
      cases hc
      exact(Zk hop hcal hat har hu (hargs x (by rw[har];simp)) hle hsat hv).toN
     ·cases hc
    ·cases hc
   ·rename_i hcal
    cases hc
    exact(WR (mx:=false) hop (by simpa using hcal) hargs hv).toN
   ·rename_i hcal
    cases hc
    exact(WR (mx:=true) hop (by simpa using hcal) hargs hv).toN
   ·split at hc
    ·split at hc
     ·split at hc
      ·simp only[qxB,qxx]at hc
       obtain⟨n,hn,z,hz,hc⟩:=hc
       split at hc
       ·cases hc;simp[COp.isRead]at hro
       ·cases hc
      ·cases hc
     ·split at hc
      ·simp only[qxB,qxx]at hc
       obtain⟨n,hn,z,hz,agg,ha,hc⟩:=hc
       split at hc
       ·cases hc;simp[COp.isRead]at hro
       ·cases hc
      ·simp only[qxB,qxx]at hc
       obtain⟨n,hn,z,hz,hc⟩:=hc
       split at hc
       ·cases hc;simp[COp.isRead]at hro
       ·cases hc
      ·cases hc
    ·cases hc
   ·split at hc
    ·split at hc
     ·simp only[qxB,qxx]at hc
      obtain⟨n,hn,z,hz,agg,ha,hc⟩:=hc
      split at hc
      ·cases hc;simp[COp.isRead]at hro
      ·cases hc
     ·cases hc
    ·cases hc
   ·split at hc
    ·split at hc
     ·split at hc
      ·simp only[qxB,qxx]at hc
       obtain⟨n,hn,hc⟩:=hc
       split at hc
       ·cases hc;simp[COp.isRead]at hro
       ·cases hc
      ·cases hc
     ·cases hc
    ·cases hc
   ·rename_i hcal
    split at hc
    ·rename_i t x hat har
     split at hc
     ·rename_i el hu
      cases hc
      exact(qcI hop hcal hat har hu (hargs x (by rw[har];simp)) hv).toN
     ·cases hc
    ·cases hc
   ·cases hc
 | go q=>simp[hop]at hc
 | defer q=>simp[hop]at hc
 | panic x=>
   simp only[hop]at hc
   split at hc
   ·cases hc;simp[COp.isRead]at hro
   ·cases hc;exact False.elim hv
 | send x y=>simp[hop]at hc
 | recv t x b=>simp[hop]at hc
 | select cs b=>simp[hop]at hc
theorem YD{K:D->ab->Prop}(hro:c.isRead=true)(hv:bz c o.dst σ H K):am c σ H fun d=>K d H:=by
 cases c <;> first|exact hv|(simp[COp.isRead]at hro;done)|skip
 ·rename_i el im x
  cases im
  ·simp[COp.isRead]at hro
  ·exact hv
 ·rename_i mo xs
  cases mo <;> first|(simp[COp.isRead,MOp.isRead]at hro;done)|exact hv
theorem qbL{K:D->ab->Prop}(hc:cz P im o=some c)(hnc:c.isCall=false)(hst:StW E tp H w)(hr:∀t,R tp (aN E.O tp H w) w (a.tmps.getD t undef) (σ t))
 (hv:bz c o.dst σ H K):dL P o a E tp H w K:=by
 by_cases hro:c.isRead=true
 ·exact GoodN.og hst (Us hc hro hst hr (fun _ _ h=>h) (YD hro hv)) (fun d h=>h)
 ·have hops:=mP hc
  unfold cz at hc
  rw[if_neg (by simpa using hops)]at hc
  have hev:∀x,x∈o.op.operands->R tp (aN E.O tp H w) w (a.eval x) (ev σ x):=fun x hx=>UW hr x (qxF.1 hops x (by simpa using hx))
  cases hop:o.op with
  | alloc el=>
    simp only[hop,qxB,qxx,qxN]at hc
    obtain⟨z,hz,rfl⟩:=hc
    simp only[bz]at hv
    split at hv
    ·exact qbW hst hop hz hv
    ·exact hv.elim
  | box el x=>
    simp only[hop]at hc
    split at hc
    ·cases hc
     simp only[bz]at hv
     split at hv
     ·exact qjC hst hop (hev x (by simp[hop,Op.operands])) hv.1 hv.2
     ·exact hv.elim
    cases hc
    cases hcon:qdf im o.dst with
    | true=>rw[hcon]at hro;exact absurd rfl hro
    | false=>
    rw[hcon]at hv
    simp only[bz]at hv
    split at hv
    ·exact qjE hst hop (hev x (by simp[hop,Op.operands])) hv.1 hv.2
    ·exact hv.elim
  | buildSlice t len parts=>
    simp only[hop,qxB]at hc
    split at hc
    ·rename_i el hu
     simp only[qxx]at hc
     obtain⟨n,hn,z,hz,ps,hps,hc⟩:=hc
     split at hc
     ·rename_i hcond
      split at hc
      ·rename_i hl0
       subst hl0
       cases hc
       simp only[bz]at hv
       have:ps=[]:=by
        unfold wn at hps
        split at hps
        ·rename_i h
         have h':parts.toList=[]:=by simpa using h
         rw[h']at hps
         simpa using hps.symm
        ·cases hps
       subst this
       split at hv
       ·exact YM hst hop hu hn hz hps hv
       ·exact hv.elim
      ·rename_i hl0
       simp only[qxH,decide_eq_true_eq]at hcond
       split at hc
       ·cases hc
        simp only[bz]at hv
        split at hv
        ·refine YN hst hop hu hn hz hps hcond.1 hcond.2 hl0 (fun x hx=>hev x ?_) hv.1 hv.2
         unfold wn at hps
         split at hps
         ·cases hps
          simp only[hop,Op.operands]
          simpa using hx
         ·cases hps
        ·exact hv.elim
       ·cases hc;simp[COp.isRead]at hro
     ·cases hc
    ·cases hc
  | store t x y=>
    simp only[hop,qxB,qxx,qxN]at hc
    obtain⟨sz,hs,rfl⟩:=hc
    exact qbS hst hop hs (hev x (by simp[hop,Op.operands])) (hev y (by simp[hop,Op.operands])) hv
  | makeSlice t l k=>
    simp only[hop,qxB]at hc
    split at hc
    ·rename_i el hu
     simp only[qxx]at hc
     obtain⟨n,hn,z,hz,agg,ha,hc⟩:=hc
     split at hc
     ·rename_i hcond
      simp only[qxH,decide_eq_true_eq]at hcond
      cases hc
      simp only[bz]at hv
      split at hv
      ·split at hv
       ·rename_i e1 e2
        have h1:=hev l (by simp[hop,Op.operands])
        have h2:=hev k (by simp[hop,Op.operands])
        rw[A7 e1]at h1
        rw[A7 e2]at h2
        obtain⟨h0,hlc,hb,h63,hk⟩:=hv
        exact UB hst hop hu hn hz hcond.1 (by simpa using hcond.2) h1.inv_v h2.inv_v h0 hlc hb h63 hk
       ·exact hv.elim
      ·exact hv.elim
     ·cases hc
    ·cases hc
  | call q=>
    have hargs:∀x∈q.args.toList,R tp (aN E.O tp H w) w (a.eval x) (ev σ x):=fun x hx=>hev x (by
     simp only[hop,Op.operands,Call.operands]
     simp;right;simpa using hx)
    simp only[hop]at hc
    split at hc
    ·split at hc <;> cases hc
     rw[SO]at hnc
     cases hnc
    ·cases hc;simp[COp.isCall]at hnc
    ·split at hc
     ·split at hc
      ·cases hc;simp[COp.isRead]at hro
      ·cases hc;simp[COp.isRead]at hro
      ·cases hc;simp[COp.isRead,MOp.isRead]at hro
      ·cases hc
     ·cases hc
    ·cases hc;simp[COp.isRead]at hro
    ·cases hc;simp[COp.isRead]at hro
    ·rename_i hcal
     split at hc
     ·rename_i t u x y hat har
      split at hc
      ·rename_i htu
       subst htu
       split at hc
       ·rename_i el hu
        simp only[qxB,qxx]at hc
        obtain⟨n,hn,z,hz,hc⟩:=hc
        split at hc
        ·rename_i h0
         cases hc
         exact M2 hst hop hcal hat har hu (.inl ⟨_,hu⟩) hn hz rfl h0 (hargs x (by rw[har];simp)) (hargs y (by rw[har];simp)) hv
        ·cases hc
       ·cases hc
      ·split at hc
       ·rename_i el kn hu hu2
        simp only[qxB,qxx]at hc
        obtain⟨n,hn,z,hz,agg,ha,hc⟩:=hc
        split at hc
        ·rename_i hcond
         simp only[qxH,decide_eq_true_eq]at hcond
         cases hc
         exact qbV hst hop hcal hat har hu hu2 hn hz hcond.1 (by simpa using hcond.2) (hargs x (by rw[har];simp)) (hargs y (by rw[har];simp)) hv
        ·cases hc
       ·rename_i el hu hu2
        simp only[qxB,qxx]at hc
        obtain⟨n,hn,z,hz,hc⟩:=hc
        split at hc
        ·rename_i h0
         cases hc
         exact M2 hst hop hcal hat har hu (.inr hu2) hn hz rfl (by omega) (hargs x (by rw[har];simp)) (hargs y (by rw[har];simp)) hv
        ·cases hc
       ·cases hc
     ·cases hc
    ·rename_i hcal
     split at hc
     ·rename_i t x hat har
      split at hc
      ·rename_i el hu
       simp only[qxB,qxx]at hc
       obtain⟨n,hn,z,hz,agg,ha,hc⟩:=hc
       split at hc
       ·rename_i hcond
        simp only[qxH,decide_eq_true_eq]at hcond
        cases hc
        exact qbU hst hop hcal hat har hu hn hz hcond.1 (by simpa using hcond.2) (hargs x (by rw[har];simp)) hv
       ·cases hc
      ·cases hc
     ·cases hc
    ·rename_i hcal
     split at hc
     ·rename_i t u x y hat har
      split at hc
      ·rename_i htu
       subst htu
       split at hc
       ·rename_i el hu
        simp only[qxB,qxx]at hc
        obtain⟨n,hn,hc⟩:=hc
        split at hc
        ·rename_i h0
         cases hc
         exact qfP hst hop hcal hat har hu hn h0 (hargs x (by rw[har];simp)) (hargs y (by rw[har];simp)) hv
        ·cases hc
       ·cases hc
      ·cases hc
     ·cases hc
    ·split at hc
     ·split at hc
      ·cases hc;simp[COp.isRead]at hro
      ·cases hc
     ·cases hc
    ·cases hc
  | move x=>simp only[hop]at hc;cases hc;simp[COp.isRead]at hro
  | assign x=>simp only[hop]at hc;cases hc;simp[COp.isRead]at hro
  | pick q x y=>simp only[hop]at hc;cases hc;simp[COp.isRead]at hro
  | build t parts=>
    simp only[hop,qxB,qxx]at hc
    obtain⟨z,hz,hc⟩:=hc
    split at hc
    ·obtain⟨ps,hps,hc⟩:=qxx.1 hc
     split at hc
     ·cases hc;simp[COp.isRead]at hro
     ·cases hc
    ·simp only[qxx]at hc
     obtain⟨sz,hs,ps,hps,hc⟩:=hc
     cases hc;simp[COp.isRead]at hro
    ·cases hc
  | insert t m k v=>
    simp only[hop]at hc
    split at hc
    ·rename_i kt et hu
     simp only[qxB,qxx]at hc
     obtain⟨⟨ka,ks⟩,hkt,hc⟩:=hc
     cases hc
     exact qbR hst (.inr hop) hu (F8 hkt) (hev m (by simp[hop,Op.operands])) (hev k (by simp[hop,Op.operands])) (hev v (by simp[hop,Op.operands])) hv
    ·cases hc
  | load t x=>
    simp only[hop,qxB,qxx]at hc
    obtain⟨agg,ha,sz,hs,hc⟩:=hc
    split at hc
    ·cases hc;simp[COp.isRead]at hro
    ·cases hc
  | ready g=>simp[hop]at hc
  | waits g=>simp[hop]at hc
  | nilCheck x=>simp only[hop]at hc;cases hc;simp[COp.isRead]at hro
  | binOp op t x y u=>
    exfalso
    simp only[hop]at hc
    unfold mQ at hc
    (repeat' split at hc) <;> first
      | (cases hc;done)
      | (cases hc;simp[COp.isRead]at hro;done)
      | (cases hks:yk P t with
         | none=>simp[hks]at hc
         | some ks=>simp[hks]at hc;subst hc;simp[COp.isRead]at hro)
  | unOp op t x=>
    exfalso
    cases op <;> simp only[hop]at hc <;> first|(cases hc;done)|(cases hc;simp[COp.isRead]at hro;done)
  | convert s t x=>
    simp only[hop]at hc
    split at hc
    ·cases hc;simp[COp.isRead]at hro
    ·cases hc;simp[COp.isRead]at hro
    ·split at hc
     ·cases hc;simp[COp.isRead]at hro
     ·cases hc
    ·split at hc
     ·cases hc;simp[COp.isRead]at hro
     ·cases hc
    ·cases hc
  | sliceToArrayPointer t x=>simp[hop]at hc
  | makeInterface t x=>
    simp only[hop]at hc
    split at hc
    ·split at hc
     ·cases hc;simp[COp.isRead]at hro
     ·cases hc
    ·cases hc;simp[COp.isRead]at hro
  | makeFunc fn first caps=>
    cases fn <;> simp only[hop]at hc <;> try (cases hc;done)
    split at hc
    ·cases hc;simp[COp.isRead]at hro
    ·cases hc
  | makeMap t r=>
    cases r with
    | some r=>simp[hop]at hc
    | none=>
      simp only[hop]at hc
      cases hc
      simp only[bz,iX,qyL]at hv
      split at hv
      ·exact qm1 hst hop hv
      ·exact hv.elim
  | makeChan t r=>simp[hop]at hc
  | slice t x lo hi mx=>
    cases mx with
    | some m=>simp[hop]at hc
    | none=>
      simp only[hop,qxB]at hc
      split at hc
      ·simp only[qxx,qxN]at hc
       obtain⟨n,hn,rfl⟩:=hc
       simp[COp.isRead]at hro
      ·cases hc;simp[COp.isRead]at hro
      ·cases hc
  | fieldAddr t x f=>
    simp only[hop,qxB]at hc
    split at hc
    ·simp only[qxx]at hc
     obtain⟨fd,hf,sz,hs,hc⟩:=hc
     split at hc
     ·cases hc;simp[COp.isRead]at hro
     ·cases hc
    ·cases hc
  | field t x f=>
    simp only[hop,qxB]at hc
    split at hc
    ·simp only[qxx]at hc
     obtain⟨fd,hf,agg,ha,sz,hs,hc⟩:=hc
     split at hc
     ·cases hc;simp[COp.isRead]at hro
     ·cases hc
    ·cases hc
  | indexAddr t x i=>
    simp only[hop,qxB]at hc
    split at hc
    ·simp only[qxx,qxN]at hc
     obtain⟨n,hn,rfl⟩:=hc
     simp[COp.isRead]at hro
    ·split at hc
     ·simp only[qxx]at hc
      obtain⟨sz,hs,hc⟩:=hc
      split at hc
      ·cases hc;simp[COp.isRead]at hro
      ·cases hc
     ·simp only[qxx,qxN]at hc
      obtain⟨sz,hs,rfl⟩:=hc
      simp[COp.isRead,MOp.isRead]at hro
    ·cases hc
  | index t x i=>
    simp only[hop]at hc
    split at hc
    ·cases hc;simp[COp.isRead]at hro
    ·cases hc
  | lookup t x i b=>
    simp only[hop]at hc
    split at hc
    ·simp only[qxB,qxx]at hc
     obtain⟨⟨ka,ks⟩,hkt,z,hz,agg,ha,hc⟩:=hc
     split at hc
     ·cases hc;simp[COp.isRead,MOp.isRead]at hro
     ·cases hc
    ·cases hc
  | mapUpdate t m k v=>
    simp only[hop]at hc
    split at hc
    ·rename_i kt et hu
     simp only[qxB,qxx]at hc
     obtain⟨⟨ka,ks⟩,hkt,hc⟩:=hc
     cases hc
     exact qbR hst (.inl hop) hu (F8 hkt) (hev m (by simp[hop,Op.operands])) (hev k (by simp[hop,Op.operands])) (hev v (by simp[hop,Op.operands])) hv
    ·cases hc
  | mapEntry t m k=>simp[hop]at hc
  | entryStore t m k v=>simp[hop]at hc
  | range t x=>
    simp only[hop]at hc
    split at hc
    ·rename_i h1
     cases hc
     simp only[bz]at hv
     split at hv
     ·rename_i t' s e1 e2
      have hx:=hev x (by simp[hop,Op.operands])
      rw[e2]at hx
      exact YL hst hop h1 hx.inv_v hv
     ·exact hv.elim
    ·rename_i h1
     cases hc
     cases hd:o.dst with
     | none=>
       rw[hd]at hv
       simp only[bz,iX,qxZ,qyL]at hv
     | some t'=>exact qjD hst hop h1 (hev x (by simp[hop,Op.operands])) hd hv
    ·cases hc
  | next x b=>
    cases b with
    | false=>
      simp only[hop]at hc
      cases hc
      exact qfO hst hop (hev x (by simp[hop,Op.operands])) hv
    | true=>
      simp only[hop]at hc
      cases hc
      exact qbT hst hop (hev x (by simp[hop,Op.operands])) hv
  | entry x=>simp only[hop]at hc;cases hc;simp[COp.isRead,MOp.isRead]at hro
  | typeAssert x s t b=>simp[hop]at hc
  | extract x i=>simp only[hop]at hc;cases hc;simp[COp.isRead]at hro
  | go q=>simp[hop]at hc
  | defer q=>simp[hop]at hc
  | panic x=>
    simp only[hop]at hc
    split at hc
    ·cases hc;simp[COp.isCall]at hnc
    ·cases hc;simp[COp.isRead]at hro
  | send x y=>simp[hop]at hc
  | recv t x b=>simp[hop]at hc
  | select cs b=>simp[hop]at hc
end
end Go.Gv
