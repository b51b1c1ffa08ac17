/- S7 -/
import Derived.Test.YtnffegdacbdhmaaGreatDoorGd06
set_option linter.all false
namespace Go.Gv
section
variable {P:Program}{im:List Nat}{o:Oper}{c:COp}{a:Act}{E:AD}{tp:Nat->Prop}{H:ab}{w:World}{σ:Sg}
def nK(hc:cN P im o=some c):o.op.operands.toList.all Ay=true:=by
 unfold cN at hc;split at hc
 ·cases hc
 ·rename_i h;simpa using h
theorem YK{K:D->Prop}{Hr:ab}(hc:cN P im o=some c)(hro:c.isRead=true)(hst:StW E tp H w)(hr:∀t,R tp (bh E.O tp H w) w (a.tmps.getD t undef) (σ t))
 (hle:∀i r,Hr i=some r->H i=some r) (hv:aj c σ Hr K):GoodN P o a E tp H w K:=by
 have hops:=nK hc;have hsat:∀i r,H i=some r->ResOk (R tp (bh E.O tp H w) w) w r:=hst.sat.ok;unfold cN at hc;rw[if_neg (by simpa using hops)]at hc;have hev:∀x,x∈o.op.operands->R tp (bh E.O tp H w) w (a.eval x) (ev σ x):=λx hx=>Zi hr x (qz4.1 hops x (by simpa using hx))
 cases hop:o.op with
 | move x=>
   simp only[hop]at hc;cases hc;exact(qaO (.inl hop) (hev x (by simp[hop,Op.operands])) hv).toN
 | assign x=>
   simp only[hop]at hc;cases hc;exact(qaO (.inr hop) (hev x (by simp[hop,Op.operands])) hv).toN
 | pick q x y=>
   simp only[hop]at hc;cases hc;exact(qcI hop (hev q (by simp[hop,Op.operands])) (hev x (by simp[hop,Op.operands])) (hev y (by simp[hop,Op.operands])) hv).toN
 | alloc el=>
   simp only[hop,qzW,qzU,qAa]at hc;obtain⟨z,_,rfl⟩:=hc;simp[COp.isRead]at hro
 | box el x=>
   simp only[hop]at hc;split at hc
   ·cases hc;cases hro
   cases hc;cases hcon:qgG im o.dst with
   |false=>rw[hcon]at hro;cases hro
   | true=>
     rw[hcon]at hv;exact qcO hst hop (hev x (by simp[hop,Op.operands])) hv
 | build t parts=>
   simp only[hop,qzW,qzU]at hc;obtain⟨z,hz,hc⟩:=hc;split at hc
   ·rename_i fs hu;obtain⟨ps,hps,hc⟩:=qzU.1 hc;split at hc
    ·rename_i hall;cases hc;exact(Za hop hz hu (by simpa using hps) hall (λp hp=>hev p.2 (by
      simp only[hop,Op.operands];simp only[List.mem_toArray,qz1];exact⟨p,hp,rfl⟩)) hv).toN
    ·cases hc
   ·rename_i len el hu;simp only[qzU]at hc;obtain⟨sz,hs,ps,hps,hc⟩:=hc;cases hc;exact(Wn hop hz hu hs hps (λp hp=>hev p.2 (by
     simp only[hop,Op.operands];simp only[List.mem_toArray,qz1];exact⟨p,hp,rfl⟩)) hv).toN
   ·cases hc
 | buildSlice t len parts=>
   simp only[hop,qzW]at hc;split at hc
   ·rename_i el hu;simp only[qzU]at hc;obtain⟨n,hn,z,hz,ps,hps,hc⟩:=hc;split at hc
    ·rename_i hcond;simp only[qzZ,decide_eq_true_eq]at hcond;split at hc
     ·cases hc;simp[COp.isRead]at hro
     ·rename_i hl0;split at hc
      ·cases hc;simp[COp.isRead]at hro
      cases hc;refine Wo hst hop hu hn hz hps hcond.1 hcond.2 hl0 (λx hx=>hev x ?_) hv;unfold xt at hps;split at hps
      ·cases hps;simp only[hop,Op.operands];simpa using hx
      ·cases hps
    ·cases hc
   ·cases hc
 | insert t m k v=>
   simp only[hop]at hc;split at hc
   ·simp only[qzW,qzU]at hc;obtain⟨⟨ka,ks⟩,hkt,hc⟩:=hc;cases hc;simp[COp.isRead,MOp.isRead]at hro
   ·cases hc
 | load t x=>
   simp only[hop,qzW,qzU]at hc;obtain⟨agg,ha,sz,hs,hc⟩:=hc;split at hc
   ·rename_i h1;cases hc;exact(Qh hop ha hs (by simpa using h1) (hev x (by simp[hop,Op.operands])) hle hsat hv).toN
   ·cases hc
 | store t x y=>
   simp only[hop,qzW,qzU,qAa]at hc;obtain⟨z,_,rfl⟩:=hc;simp[COp.isRead]at hro
 |ready g=>simp[hop]at hc
 |waits g=>simp[hop]at hc
 | nilCheck x=>
   simp only[hop]at hc;cases hc;exact(Y6 hop (hev x (by simp[hop,Op.operands])) hv).toN
 | binOp op t x y u=>
   simp only[hop]at hc;have hx:=hev x (by simp[hop,Op.operands]);have hy:=hev y (by simp[hop,Op.operands]);split at hc
   ·split at hc
    ·cases hc;exact(iP hop (.inl rfl) hx hy hv).toN
    ·split at hc
     ·cases hc;exact(qcG hop hx hy hv).toN
     ·cases hc
   ·split at hc
    ·cases hc;exact(iP hop (by simp) hx hy hv).toN
    ·cases hc
   ·split at hc
    ·cases hc;exact(iP hop (by simp) hx hy hv).toN
    ·cases hc
   ·split at hc
    ·cases hc;exact(iP hop (by simp) hx hy hv).toN
    ·cases hc
   ·split at hc
    ·cases hc;exact(iP hop (by simp) hx hy hv).toN
    ·cases hc
   ·split at hc
    ·cases hc;exact(iP hop (by simp) hx hy hv).toN
    ·cases hc
   ·split at hc
    ·cases hc;exact(iP hop (by simp) hx hy hv).toN
    ·cases hc
   ·split at hc
    ·cases hc;exact(iP hop (by simp) hx hy hv).toN
    ·cases hc
   ·split at hc
    ·cases hc;exact(iP hop (by simp) hx hy hv).toN
    ·cases hc
   iterate 4
    ·split at hc
     ·cases hc;exact(Wm hop hx hy hv).toN
     ·split at hc
      ·cases hc;exact(Wm hop hx hy hv).toN
      ·cases hc
   ·exact(Wl (neg:=false) (by simpa using hop) hc hx hy hv).toN
   ·exact(Wl (neg:=true) (by simpa using hop) hc hx hy hv).toN
   ·cases hc
 | unOp op t x=>
   cases op<;>simp only[hop]at hc<;>cases hc
   ·exact(qfY hop (hev x (by simp[hop,Op.operands])) hv).toN
   ·exact(qfX hop (hev x (by simp[hop,Op.operands])) hv).toN
 | convert s t x=>
   simp only[hop]at hc;split at hc
   ·rename_i k0 k h1 h2;cases hc;exact(qcM hop h1 h2 (hev x (by simp[hop,Op.operands])) hv).toN
   ·rename_i k0 h1 h2;cases hc;exact(qcH hop h1 h2 (hev x (by simp[hop,Op.operands])) hv).toN
   ·rename_i el h1 h2;split at hc
    ·rename_i h3;cases hc;exact Wj hst hop h1 h2 h3 (hev x (by simp[hop,Op.operands])) hv
    ·rename_i h3;cases hc;exact Wi hst hop h1 h2 h3 (hev x (by simp[hop,Op.operands])) hv
    ·cases hc
   ·rename_i el h1 h2;split at hc
    ·rename_i h3;cases hc;exact(qcN hop h1 h2 h3 (hev x (by simp[hop,Op.operands])) hle hsat hv).toN
    ·cases hc
   ·cases hc
 |sliceToArrayPointer t x=>simp[hop]at hc
 | makeInterface t x=>
   simp only[hop]at hc;split at hc
   ·split at hc
    ·rename_i fs ht;cases hc;exact(qcK hop ht (hev x (by simp[hop,Op.operands])) hv).toN
    ·cases hc
   ·cases hc;exact False.elim hv
 | makeFunc fn first caps=>
   cases fn<;>simp only[hop]at hc<;>try (cases hc;done)
   split at hc
   ·rename_i hf;cases hc;exact(qf2 hop hf (λx hx=>hev x (by simp only[hop,Op.operands];simp;right;simpa using hx)) hv).toN
   ·cases hc
 | makeMap t r=>
   cases r with
   |some r=>simp[hop]at hc
   |none=>simp only[hop]at hc;cases hc;simp[COp.isRead,MOp.isRead]at hro
 |makeChan t r=>simp[hop]at hc
 | makeSlice t l k=>
   simp only[hop,qzW]at hc;split at hc
   ·simp only[qzU]at hc;obtain⟨n,hn,z,hz,agg,ha,hc⟩:=hc;split at hc
    ·cases hc;simp[COp.isRead]at hro
    ·cases hc
   ·cases hc
 | slice t x lo hi mx=>
   cases mx with
   |some m=>simp[hop]at hc
   | none=>
     simp only[hop,qzW]at hc;have hx:=hev x (by simp[hop,Op.operands]);have hlo:∀y,lo=some y->R tp (bh E.O tp H w) w (a.eval y) (ev σ y):=λy hy=>hev y (by subst hy;simp[hop,Op.operands])
     have hhi:∀y,hi=some y->R tp (bh E.O tp H w) w (a.eval y) (ev σ y):=λy hy=>hev y (by subst hy;simp[hop,Op.operands])
     split at hc
     ·rename_i el hu;simp only[qzU,qAa]at hc;obtain⟨n,hn,rfl⟩:=hc;exact(Y5 hop hu hn hx hlo hhi hle hsat hv).toN
     ·rename_i hu;cases hc;exact(Wh hop hu hx hlo hhi hv).toN
     ·cases hc
 | fieldAddr t x f=>
   simp only[hop,qzW]at hc;split at hc
   ·rename_i fs hu;simp only[qzU]at hc;obtain⟨fd,hf,sz,hs,hc⟩:=hc;split at hc
    ·rename_i h0;cases hc;exact(Y8 hop hu hf hs h0 (hev x (by simp[hop,Op.operands])) hv).toN
    ·cases hc
   ·cases hc
 | field t x f=>
   simp only[hop,qzW]at hc;split at hc
   ·rename_i fs hu;simp only[qzU]at hc;obtain⟨fd,hf,agg,ha,sz,hs,hc⟩:=hc;split at hc
    ·rename_i h1;cases hc;exact(qf0 hop hu hf ha hs (by simpa using h1) (hev x (by simp[hop,Op.operands])) hv).toN
    ·cases hc
   ·cases hc
 | indexAddr t x i=>
   simp only[hop,qzW]at hc;split at hc
   ·rename_i el hu;simp only[qzU,qAa]at hc;obtain⟨n,hn,rfl⟩:=hc;exact(Y7 hop hu hn (hev x (by simp[hop,Op.operands])) (hev i (by simp[hop,Op.operands])) hle hsat hv).toN
   ·rename_i len el hu;split at hc
    ·simp only[qzU]at hc;obtain⟨sz,hs,hc⟩:=hc;split at hc
     ·rename_i h0;cases hc;exact(Zb hop hu hs h0 (hev x (by simp[hop,Op.operands])) hv).toN
     ·cases hc
    ·simp only[qzU,qAa]at hc;obtain⟨sz,hs,rfl⟩:=hc;exact(qcP hop hu hs (hev x (by simp[hop,Op.operands])) (hev i (by simp[hop,Op.operands])) hv).toN
   ·cases hc
 | index t x i=>
   simp only[hop]at hc;split at hc
   ·rename_i hu;cases hc;exact(qcF hop hu (hev x (by simp[hop,Op.operands])) (hev i (by simp[hop,Op.operands])) hv).toN
   ·cases hc
 | lookup t x i b=>
   simp only[hop]at hc;split at hc
   ·rename_i kt et hu;simp only[qzW,qzU]at hc;obtain⟨⟨ka,ks⟩,hkt,z,hz,agg,ha,hc⟩:=hc;split at hc
    ·rename_i hag;cases hc;exact(qcL hop hu (CH hkt) hz hag (hev x (by simp[hop,Op.operands])) (hev i (by simp[hop,Op.operands])) hle hsat hv).toN
    ·cases hc
   ·cases hc
 | mapUpdate t m k v=>
   simp only[hop]at hc;split at hc
   ·simp only[qzW,qzU]at hc;obtain⟨⟨ka,ks⟩,hkt,hc⟩:=hc;cases hc;simp[COp.isRead,MOp.isRead]at hro
   ·cases hc
 |mapEntry t m k=>simp[hop]at hc
 |entryStore t m k v=>simp[hop]at hc
 | range t x=>
   simp only[hop]at hc;split at hc
   ·cases hc;simp[COp.isRead]at hro
   ·cases hc;simp[COp.isRead,MOp.isRead]at hro
   ·cases hc
 | next x b=>
   cases b with
   |false=>simp only[hop]at hc;cases hc;simp[COp.isRead,MOp.isRead]at hro
   | true=>
     simp only[hop]at hc;cases hc;simp[COp.isRead]at hro
 | entry x=>
   simp only[hop]at hc;cases hc;exact(Y9 hop (hev x (by simp[hop,Op.operands])) hle hsat hv).toN
 |typeAssert x s t b=>simp[hop]at hc
 | extract x i=>
   simp only[hop]at hc;cases hc;exact(qf1 hop (hev x (by simp[hop,Op.operands])) hv).toN
 | call q=>
   have hargs:∀x∈q.args.toList,R tp (bh E.O tp H w) w (a.eval x) (ev σ x):=λx hx=>hev x (by
    simp only[hop,Op.operands,Call.operands];simp;right;simpa using hx)
   simp only[hop]at hc;split at hc
   ·split at hc<;>cases hc;rw[Xg]at hro;cases hro
   ·cases hc;simp[COp.isRead]at hro
   ·rename_i hcal;split at hc
    ·rename_i t x hat har;split at hc
     ·rename_i el hu;cases hc;exact(qfZ hop hcal hat har hu (hargs x (by rw[har];simp)) hle hsat hv).toN
     ·rename_i hu;cases hc;exact(qcE hop hcal hat har hu (hargs x (by rw[har];simp)) hv).toN
     ·rename_i kt et hu;cases hc;exact(qcJ hop hcal hat har hu (hargs x (by rw[har];simp)) hle hsat hv).toN
     ·cases hc
    ·cases hc
   ·rename_i hcal;cases hc;exact(qaP (mx:=false) hop (by simpa using hcal) hargs hv).toN
   ·rename_i hcal;cases hc;exact(qaP (mx:=true) hop (by simpa using hcal) hargs hv).toN
   ·split at hc
    ·split at hc
     ·split at hc
      ·simp only[qzW,qzU]at hc;obtain⟨n,hn,z,hz,hc⟩:=hc;split at hc
       ·cases hc;simp[COp.isRead]at hro
       ·cases hc
      ·cases hc
     ·split at hc
      ·simp only[qzW,qzU]at hc;obtain⟨n,hn,z,hz,agg,ha,hc⟩:=hc;split at hc
       ·cases hc;simp[COp.isRead]at hro
       ·cases hc
      ·simp only[qzW,qzU]at hc;obtain⟨n,hn,z,hz,hc⟩:=hc;split at hc
       ·cases hc;simp[COp.isRead]at hro
       ·cases hc
      ·cases hc
    ·cases hc
   ·split at hc
    ·split at hc
     ·simp only[qzW,qzU]at hc;obtain⟨n,hn,z,hz,agg,ha,hc⟩:=hc;split at hc
      ·cases hc;simp[COp.isRead]at hro
      ·cases hc
     ·cases hc
    ·cases hc
   ·split at hc
    ·split at hc
     ·split at hc
      ·simp only[qzW,qzU]at hc;obtain⟨n,hn,hc⟩:=hc;split at hc
       ·cases hc;simp[COp.isRead]at hro
       ·cases hc
      ·cases hc
     ·cases hc
    ·cases hc
   ·rename_i hcal;split at hc
    ·rename_i t x hat har;split at hc
     ·rename_i el hu;cases hc;exact(qf3 hop hcal hat har hu (hargs x (by rw[har];simp)) hv).toN
     ·cases hc
    ·cases hc
   ·split at hc
    ·split at hc
     ·simp only[qzW,qzU]at hc;obtain⟨⟨ka,ks⟩,hkt,hc⟩:=hc;cases hc;simp[COp.isRead,MOp.isRead]at hro
     ·cases hc
    ·cases hc
   ·cases hc
 |go q=>simp[hop]at hc
 |defer q=>simp[hop]at hc
 | panic x=>
   simp only[hop]at hc;split at hc
   ·cases hc;simp[COp.isRead]at hro
   ·cases hc;exact False.elim hv
 |send x y=>simp[hop]at hc
 |recv t x b=>simp[hop]at hc
 |select cs b=>simp[hop]at hc
def qb7{K:D->ab->Prop}(hro:c.isRead=true)(hv:bk c o.dst σ H K):aj c σ H λd=>K d H:=by
 cases c<;>first|exact hv|(simp[COp.isRead]at hro;done)|skip
 ·rename_i el im x;cases im
  ·simp[COp.isRead]at hro
  ·exact hv
 ·rename_i mo xs;cases mo<;>first|(simp[COp.isRead,MOp.isRead]at hro;done)|exact hv
theorem qe7{K:D->ab->Prop}(hc:cN P im o=some c)(hnc:c.isCall=false)(hst:StW E tp H w)(hr:∀t,R tp (bh E.O tp H w) w (a.tmps.getD t undef) (σ t))
 (hv:bk c o.dst σ H K):dB P o a E tp H w K:=by
 by_cases hro:c.isRead=true
 ·exact GoodN.og hst (YK hc hro hst hr (λ_ _ h=>h) (qb7 hro hv)) (λd h=>h)
 ·have hops:=nK hc;unfold cN at hc;rw[if_neg (by simpa using hops)]at hc;have hev:∀x,x∈o.op.operands->R tp (bh E.O tp H w) w (a.eval x) (ev σ x):=λx hx=>Zi hr x (qz4.1 hops x (by simpa using hx))
  cases hop:o.op with
  | alloc el=>
    simp only[hop,qzW,qzU,qAa]at hc;obtain⟨z,hz,rfl⟩:=hc;simp only[bk]at hv;split at hv
    ·exact qfj hst hop hz hv
    ·exact hv.elim
  | box el x=>
    simp only[hop]at hc;split at hc
    ·cases hc;simp only[bk]at hv;split at hv
     ·exact qmo hst hop (hev x (by simp[hop,Op.operands])) hv.1 hv.2
     ·exact hv.elim
    cases hc;cases hcon:qgG im o.dst with
    |true=>rw[hcon]at hro;exact absurd rfl hro
    |false=>
    rw[hcon]at hv;simp only[bk]at hv;split at hv
    ·exact qmr hst hop (hev x (by simp[hop,Op.operands])) hv.1 hv.2
    ·exact hv.elim
  | buildSlice t len parts=>
    simp only[hop,qzW]at hc;split at hc
    ·rename_i el hu;simp only[qzU]at hc;obtain⟨n,hn,z,hz,ps,hps,hc⟩:=hc;split at hc
     ·rename_i hcond;split at hc
      ·rename_i hl0;subst hl0;cases hc;simp only[bk]at hv;have:ps=[]:=by
        unfold xt at hps;split at hps
        ·rename_i h;have h':parts.toList=[]:=by simpa using h
         rw[h']at hps;simpa using hps.symm
        ·cases hps
       subst this;split at hv
       ·exact qce hst hop hu hn hz hps hv
       ·exact hv.elim
      ·rename_i hl0;simp only[qzZ,decide_eq_true_eq]at hcond;split at hc
       ·cases hc;simp only[bk]at hv;split at hv
        ·refine qcf hst hop hu hn hz hps hcond.1 hcond.2 hl0 (λx hx=>hev x ?_) hv.1 hv.2;unfold xt at hps;split at hps
         ·cases hps;simp only[hop,Op.operands];simpa using hx
         ·cases hps
        ·exact hv.elim
       ·cases hc;simp[COp.isRead]at hro
     ·cases hc
    ·cases hc
  | store t x y=>
    simp only[hop,qzW,qzU,qAa]at hc;obtain⟨sz,hs,rfl⟩:=hc;exact qff hst hop hs (hev x (by simp[hop,Op.operands])) (hev y (by simp[hop,Op.operands])) hv
  | makeSlice t l k=>
    simp only[hop,qzW]at hc;split at hc
    ·rename_i el hu;simp only[qzU]at hc;obtain⟨n,hn,z,hz,agg,ha,hc⟩:=hc;split at hc
     ·rename_i hcond;simp only[qzZ,decide_eq_true_eq]at hcond;cases hc;simp only[bk]at hv;split at hv
      ·split at hv
       ·rename_i e1 e2;have h1:=hev l (by simp[hop,Op.operands]);have h2:=hev k (by simp[hop,Op.operands]);rw[Cp e1]at h1;rw[Cp e2]at h2;obtain⟨h0,hlc,hb,h63,hk⟩:=hv;exact YU hst hop hu hn hz hcond.1 (by simpa using hcond.2) h1.inv_v h2.inv_v h0 hlc hb h63 hk
       ·exact hv.elim
      ·exact hv.elim
     ·cases hc
    ·cases hc
  | call q=>
    have hargs:∀x∈q.args.toList,R tp (bh E.O tp H w) w (a.eval x) (ev σ x):=λx hx=>hev x (by
     simp only[hop,Op.operands,Call.operands];simp;right;simpa using hx)
    simp only[hop]at hc;split at hc
    ·split at hc<;>cases hc;rw[Xh]at hnc;cases hnc
    ·cases hc;simp[COp.isCall]at hnc
    ·split at hc
     ·split at hc
      ·cases hc;simp[COp.isRead]at hro
      ·cases hc;simp[COp.isRead]at hro
      ·cases hc;simp[COp.isRead,MOp.isRead]at hro
      ·cases hc
     ·cases hc
    ·cases hc;simp[COp.isRead]at hro
    ·cases hc;simp[COp.isRead]at hro
    ·rename_i hcal;split at hc
     ·rename_i t u x y hat har;split at hc
      ·rename_i htu;subst htu;split at hc
       ·rename_i el hu;simp only[qzW,qzU]at hc;obtain⟨n,hn,z,hz,hc⟩:=hc;split at hc
        ·rename_i h0;cases hc;exact P2 hst hop hcal hat har hu (.inl ⟨_,hu⟩) hn hz rfl h0 (hargs x (by rw[har];simp)) (hargs y (by rw[har];simp)) hv
        ·cases hc
       ·cases hc
      ·split at hc
       ·rename_i el kn hu hu2;simp only[qzW,qzU]at hc;obtain⟨n,hn,z,hz,agg,ha,hc⟩:=hc;split at hc
        ·rename_i hcond;simp only[qzZ,decide_eq_true_eq]at hcond;cases hc;exact qfi hst hop hcal hat har hu hu2 hn hz hcond.1 (by simpa using hcond.2) (hargs x (by rw[har];simp)) (hargs y (by rw[har];simp)) hv
        ·cases hc
       ·rename_i el hu hu2;simp only[qzW,qzU]at hc;obtain⟨n,hn,z,hz,hc⟩:=hc;split at hc
        ·rename_i h0;cases hc;exact P2 hst hop hcal hat har hu (.inr hu2) hn hz rfl (by omega) (hargs x (by rw[har];simp)) (hargs y (by rw[har];simp)) hv
        ·cases hc
       ·cases hc
     ·cases hc
    ·rename_i hcal;split at hc
     ·rename_i t x hat har;split at hc
      ·rename_i el hu;simp only[qzW,qzU]at hc;obtain⟨n,hn,z,hz,agg,ha,hc⟩:=hc;split at hc
       ·rename_i hcond;simp only[qzZ,decide_eq_true_eq]at hcond;cases hc;exact qfh hst hop hcal hat har hu hn hz hcond.1 (by simpa using hcond.2) (hargs x (by rw[har];simp)) hv
       ·cases hc
      ·cases hc
     ·cases hc
    ·rename_i hcal;split at hc
     ·rename_i t u x y hat har;split at hc
      ·rename_i htu;subst htu;split at hc
       ·rename_i el hu;simp only[qzW,qzU]at hc;obtain⟨n,hn,hc⟩:=hc;split at hc
        ·rename_i h0;cases hc;exact qi7 hst hop hcal hat har hu hn h0 (hargs x (by rw[har];simp)) (hargs y (by rw[har];simp)) hv
        ·cases hc
       ·cases hc
      ·cases hc
     ·cases hc
    ·split at hc
     ·split at hc
      ·cases hc;simp[COp.isRead]at hro
      ·cases hc
     ·cases hc
    ·rename_i hcal;split at hc
     ·rename_i t u x y hat har;split at hc
      ·rename_i kt et hu;simp only[qzW,qzU]at hc;obtain⟨⟨ka,ks⟩,hkt,hc⟩:=hc;cases hc;exact qmq hst hop hcal hat har hu (CH hkt) (hargs x (by rw[har];simp)) (hargs y (by rw[har];simp)) hv
      ·cases hc
     ·cases hc
    ·cases hc
  |move x=>simp only[hop]at hc;cases hc;simp[COp.isRead]at hro
  |assign x=>simp only[hop]at hc;cases hc;simp[COp.isRead]at hro
  |pick q x y=>simp only[hop]at hc;cases hc;simp[COp.isRead]at hro
  | build t parts=>
    simp only[hop,qzW,qzU]at hc;obtain⟨z,hz,hc⟩:=hc;split at hc
    ·obtain⟨ps,hps,hc⟩:=qzU.1 hc;split at hc
     ·cases hc;simp[COp.isRead]at hro
     ·cases hc
    ·simp only[qzU]at hc;obtain⟨sz,hs,ps,hps,hc⟩:=hc;cases hc;simp[COp.isRead]at hro
    ·cases hc
  | insert t m k v=>
    simp only[hop]at hc;split at hc
    ·rename_i kt et hu;simp only[qzW,qzU]at hc;obtain⟨⟨ka,ks⟩,hkt,hc⟩:=hc;cases hc;exact qfe hst (.inr hop) hu (CH hkt) (hev m (by simp[hop,Op.operands])) (hev k (by simp[hop,Op.operands])) (hev v (by simp[hop,Op.operands])) hv
    ·cases hc
  | load t x=>
    simp only[hop,qzW,qzU]at hc;obtain⟨agg,ha,sz,hs,hc⟩:=hc;split at hc
    ·cases hc;simp[COp.isRead]at hro
    ·cases hc
  |ready g=>simp[hop]at hc
  |waits g=>simp[hop]at hc
  |nilCheck x=>simp only[hop]at hc;cases hc;simp[COp.isRead]at hro
  | binOp op t x y u=>
    exfalso;simp only[hop]at hc;unfold nL at hc
    (repeat' split at hc)<;>first
      |(cases hc;done)
      |(cases hc;simp[COp.isRead]at hro;done)
      | (cases hks:zN P t with
         |none=>simp[hks]at hc
         |some ks=>simp[hks]at hc;subst hc;simp[COp.isRead]at hro)
  | unOp op t x=>
    exfalso;cases op<;>simp only[hop]at hc<;>first|(cases hc;done)|(cases hc;simp[COp.isRead]at hro;done)
  | convert s t x=>
    simp only[hop]at hc;split at hc
    ·cases hc;simp[COp.isRead]at hro
    ·cases hc;simp[COp.isRead]at hro
    ·split at hc
     ·cases hc;simp[COp.isRead]at hro
     ·cases hc;simp[COp.isRead]at hro
     ·cases hc
    ·split at hc
     ·cases hc;simp[COp.isRead]at hro
     ·cases hc
    ·cases hc
  |sliceToArrayPointer t x=>simp[hop]at hc
  | makeInterface t x=>
    simp only[hop]at hc;split at hc
    ·split at hc
     ·cases hc;simp[COp.isRead]at hro
     ·cases hc
    ·cases hc;simp[COp.isRead]at hro
  | makeFunc fn first caps=>
    cases fn<;>simp only[hop]at hc<;>try (cases hc;done)
    split at hc
    ·cases hc;simp[COp.isRead]at hro
    ·cases hc
  | makeMap t r=>
    cases r with
    |some r=>simp[hop]at hc
    | none=>
      simp only[hop]at hc;cases hc;simp only[bk,gM,qBb]at hv;split at hv
      ·exact qpy hst hop hv
      ·exact hv.elim
  |makeChan t r=>simp[hop]at hc
  | slice t x lo hi mx=>
    cases mx with
    |some m=>simp[hop]at hc
    | none=>
      simp only[hop,qzW]at hc;split at hc
      ·simp only[qzU,qAa]at hc;obtain⟨n,hn,rfl⟩:=hc;simp[COp.isRead]at hro
      ·cases hc;simp[COp.isRead]at hro
      ·cases hc
  | fieldAddr t x f=>
    simp only[hop,qzW]at hc;split at hc
    ·simp only[qzU]at hc;obtain⟨fd,hf,sz,hs,hc⟩:=hc;split at hc
     ·cases hc;simp[COp.isRead]at hro
     ·cases hc
    ·cases hc
  | field t x f=>
    simp only[hop,qzW]at hc;split at hc
    ·simp only[qzU]at hc;obtain⟨fd,hf,agg,ha,sz,hs,hc⟩:=hc;split at hc
     ·cases hc;simp[COp.isRead]at hro
     ·cases hc
    ·cases hc
  | indexAddr t x i=>
    simp only[hop,qzW]at hc;split at hc
    ·simp only[qzU,qAa]at hc;obtain⟨n,hn,rfl⟩:=hc;simp[COp.isRead]at hro
    ·split at hc
     ·simp only[qzU]at hc;obtain⟨sz,hs,hc⟩:=hc;split at hc
      ·cases hc;simp[COp.isRead]at hro
      ·cases hc
     ·simp only[qzU,qAa]at hc;obtain⟨sz,hs,rfl⟩:=hc;simp[COp.isRead,MOp.isRead]at hro
    ·cases hc
  | index t x i=>
    simp only[hop]at hc;split at hc
    ·cases hc;simp[COp.isRead]at hro
    ·cases hc
  | lookup t x i b=>
    simp only[hop]at hc;split at hc
    ·simp only[qzW,qzU]at hc;obtain⟨⟨ka,ks⟩,hkt,z,hz,agg,ha,hc⟩:=hc;split at hc
     ·cases hc;simp[COp.isRead,MOp.isRead]at hro
     ·cases hc
    ·cases hc
  | mapUpdate t m k v=>
    simp only[hop]at hc;split at hc
    ·rename_i kt et hu;simp only[qzW,qzU]at hc;obtain⟨⟨ka,ks⟩,hkt,hc⟩:=hc;cases hc;exact qfe hst (.inl hop) hu (CH hkt) (hev m (by simp[hop,Op.operands])) (hev k (by simp[hop,Op.operands])) (hev v (by simp[hop,Op.operands])) hv
    ·cases hc
  |mapEntry t m k=>simp[hop]at hc
  |entryStore t m k v=>simp[hop]at hc
  | range t x=>
    simp only[hop]at hc;split at hc
    ·rename_i h1;cases hc;simp only[bk]at hv;split at hv
     ·rename_i t' s e1 e2;have hx:=hev x (by simp[hop,Op.operands]);rw[e2]at hx;exact qcd hst hop h1 hx.inv_v hv
     ·exact hv.elim
    ·rename_i h1;cases hc;cases hd:o.dst with
     | none=>
       rw[hd]at hv;simp only[bk,gM,qAo,qBb]at hv
     |some t'=>exact qmp hst hop h1 (hev x (by simp[hop,Op.operands])) hd hv
    ·cases hc
  | next x b=>
    cases b with
    | false=>
      simp only[hop]at hc;cases hc;exact qi6 hst hop (hev x (by simp[hop,Op.operands])) hv
    | true=>
      simp only[hop]at hc;cases hc;exact qfg hst hop (hev x (by simp[hop,Op.operands])) hv
  |entry x=>simp only[hop]at hc;cases hc;simp[COp.isRead,MOp.isRead]at hro
  |typeAssert x s t b=>simp[hop]at hc
  |extract x i=>simp only[hop]at hc;cases hc;simp[COp.isRead]at hro
  |go q=>simp[hop]at hc
  |defer q=>simp[hop]at hc
  | panic x=>
    simp only[hop]at hc;split at hc
    ·cases hc;simp[COp.isCall]at hnc
    ·cases hc;simp[COp.isRead]at hro
  |send x y=>simp[hop]at hc
  |recv t x b=>simp[hop]at hc
  |select cs b=>simp[hop]at hc
end
variable {dq:Prop}
def ee(P:Program)(f:Nat):Prop:=∀(args:Array Value) (w:World),(callFunc f args).run P w= .ok (.enter f args) w
def ZJ(dq:Prop)(O tp:Nat->Prop)(H:ab)(w:World)(K:D->ab->Prop)(e:Ending)(w':World):Prop:=
 ∃x r H' tp',e= .returned x/\K r H'/\(∀b,tp b->tp' b)/\(∀b,tp' b->tp b\/w.heap.size<=b)/\(∀b,tp' b->b<w'.heap.size)/\
  Step dq tp (bL H) w w'/\(∀b,bL H' b->bL H b\/w.heap.size<=b)/\qoK O tp' H' w'/\R tp' (bh O tp' H' w') w' x r
def Tri(dq:Prop)(P:Program)(f:Nat)(A:PT):Prop:=
 ∀ (O tp:Nat->Prop) (w:World) (vs:List Value) (ds:List D) (H:ab) (d:Nat) (K:D->ab->Prop),
  (∀b,O b->b<w.heap.size)->TpG tp (bL H) w->qoK O tp H w->vs.length=ds.length->
  (∀(k:Nat) (x:Value) (c:D),vs[k]? =some x->ds[k]? =some c->R tp (bh O tp H w) w x c)->A d ds H K->
  ee P f/\Calls P f vs.toArray w (ZJ dq O tp H w K)
def qrl(dq:Prop)(z:List PanicEntry->Prop)(O tp:Nat->Prop)(H:ab)(w:World)(K:D->ab->Prop)(e:Ending)(w':World):Prop:=
 ZJ dq O tp H w K e w'\/ ∃c,e= .panicked c/\z c/\Step dq tp (bL H) w w'
def TriZ(dq:Prop)(z:List PanicEntry->Prop)(P:Program)(f:Nat)(A:PT):Prop:=
 ∀ (O tp:Nat->Prop) (w:World) (vs:List Value) (ds:List D) (H:ab) (d:Nat) (K:D->ab->Prop),
  (∀b,O b->b<w.heap.size)->TpG tp (bL H) w->qoK O tp H w->vs.length=ds.length->
  (∀(k:Nat) (x:Value) (c:D),vs[k]? =some x->ds[k]? =some c->R tp (bh O tp H w) w x c)->A d ds H K->
  ee P f/\Calls P f vs.toArray w (qrl dq z O tp H w K)
def VM:List PanicEntry->Prop:=λ_=>False
def Tri.z{z:List PanicEntry->Prop}{P:Program}{f:Nat}{A:PT}(h:Tri dq P f A):TriZ dq z P f A:=λO tp w vs ds H d K h1 h2 h3 h4 h5 h6=>
 ⟨(h O tp w vs ds H d K h1 h2 h3 h4 h5 h6).1,(h O tp w vs ds H d K h1 h2 h3 h4 h5 h6).2.mono λ_ _ h=> .inl h⟩
def TriZ.no{P:Program}{f:Nat}{A:PT}(h:TriZ dq VM P f A):Tri dq P f A:=λO tp w vs ds H d K h1 h2 h3 h4 h5 h6=>
 ⟨(h O tp w vs ds H d K h1 h2 h3 h4 h5 h6).1,(h O tp w vs ds H d K h1 h2 h3 h4 h5 h6).2.mono λ_ _ h=>h.elim id λ⟨_,_,h,_⟩=>h.elim⟩
def ZE(E:AD)(z:List PanicEntry->Prop)(c:List PanicEntry)(w':World):Prop:=z c/\Step E.dq E.tp0 E.own0 E.w0 w'
def StW.stepTo{E:AD}{tp:Nat->Prop}{H:ab}{w w':World}(h:StW E tp H w)(hs:Step E.dq tp (bL H) w w'):Step E.dq E.tp0 E.own0 E.w0 w':=by
 have hw:E.w0.heap.size<=w.heap.size:=h.step.size;refine⟨hs.os.trans h.step.os,hs.tape.trans h.step.tape,hs.output.trans h.step.output,qAx hw hs.size,λb hb ho htp=>?_,λb hb=>(h.step.tapes b hb).trans (hs.tapes b (h.tpx b hb)),λq=>qAx (h.step.drawn q) (hs.drawn q)⟩;rw[hs.same b (by omega) (λhown=>?_) (λhT=>?_)]
 ·exact h.step.same b hb ho htp
 ·rcases h.loc b hown with h1|h1
  ·exact ho h1
  ·omega
 ·rcases h.tpn b hT with h1|h1
  ·exact htp h1
  ·omega
def aI(S:Nat->Spc)(c:COp)(dst:Option Nat)(σ:Sg)(H:ab)(K:D->ab->Prop):Prop:=
 match c with
 | .call f args=>(S f).pt (dst.getD 0) (args.map (ev σ)) H K
 | .callb _ f args=>(S f).pt (dst.getD 0) (args.map (ev σ)) H K
 | .callv f args=>match ev σ f with
   | .clo g caps=>(S g).pt (dst.getD 0) (args.map (ev σ) ++caps) H K
   | _=>False
 |c=>bk c dst σ H K
def qre(z:List PanicEntry->Prop)(P:Program)(A:PT):Prop:=P.funcs.size<=Dq->∀(O tp:Nat->Prop) (w:World) (v:Value) (e:D) (H:ab) (d:Nat) (K:D->ab->Prop),
 (∀b,O b->b<w.heap.size)->TpG tp (bL H) w->qoK O tp H w->R tp (bh O tp H w) w v e->A d [e] H K->(∃t x,v= .iface t x)/\z [{ v:=v,recovered:=false }]
def CallOk(dq:Prop)(P:Program)(z:List PanicEntry->Prop)(S:Nat->Spc):COp->Prop
 | .call f _=>if f=Dq then qre z P (S Dq).pt else TriZ dq z P f (S f).pt
 | .callv _ _=>∀g,TriZ dq z P g (S g).pt
 | .callb _ f _=>TriZ dq z P f (S f).pt
 | _=>True
def TriZ.up{z:List PanicEntry->Prop}{P:Program}{f:Nat}{A:PT}(h:TriZ dq VM P f A):TriZ dq z P f A:=h.no.z
def CallOk.up{z:List PanicEntry->Prop}{P:Program}{S:Nat->Spc}{c:COp}(h:CallOk dq P VM S c):CallOk dq P z S c:=by
 cases c<;>try exact trivial
 ·simp only[CallOk]at h ⊢;split
  ·rename_i e;rw[if_pos e]at h;exactλa O tp w v e' H d K h1 h2 h3 h4 h5=>((h a O tp w v e' H d K h1 h2 h3 h4 h5).2).elim
  ·rename_i e;rw[if_neg e]at h;exact h.up
 ·exactλg=>(h g).up
 ·exact TriZ.up h
def qc5{P:Program}{S:Nat->Spc}(h:∀f,Tri dq P f (S f).pt)(c:COp):CallOk dq P VM S c:=by
 cases c<;>try exact trivial
 ·rename_i f args;simp only[CallOk];split
  ·intro hsz O tp w v e H d K h1 h2 h3 h4 h5;obtain⟨_,hc⟩:=h Dq O tp w [v] [e] H d K h1 h2 h3 rfl (λk x c hx hc=>by
    rcases k with _|k
    ·cases hx;cases hc;exact h4
    ·simp at hx) h5
   obtain⟨e',w',fr,hR,_,hfn,hl⟩:=hc [];obtain⟨x,r,H',tp',rfl,_⟩:=hR;obtain⟨_,_,_,fn,hf,_⟩:=hl;rw[hfn]at hf;have:=(qz3.1 hf).1;omega
  ·exact(h f).z
 ·exactλg=>(h g).z
 ·exact(h _).z
section
variable {P:Program}{im:List Nat}{o:Oper}{c:COp}{a:Act}{E:AD}{tp:Nat->Prop}{H:ab}{w:World}{σ:Sg}{S:Nat->Spc}
theorem Td{A:PT}{f:Nat}{vs:List Value}{ds:List D}{d:Nat}{K:D->ab->Prop}{z:List PanicEntry->Prop}(hS:TriZ E.dq z P f A)(hst:StW E tp H w)(hd:a.defers=E.ds)(hN:a.tmps.size=E.N)(hr:∀t,R tp (bh E.O tp H w) w (a.tmps.getD t undef) (σ t))
 (hrun:∀(g:Array Value) (w':World),(ee P f)->(execOp a.eval o).run P w= .ok (.enter f vs.toArray) w) (hlen:vs.length=ds.length)
 (hargs:∀(k:Nat) (x:Value) (e:D),vs[k]? =some x->ds[k]? =some e->R tp (bh E.O tp H w) w x e) (hA:A d ds H K) (hdst:∀t,o.dst=some t->t<E.N)
 {next:Act->World->Prop} {Q:Exit->Act->World->Prop} (hpan:∀c w',ZE E z c w'->Q (.panic c) a w') (hnext:∀r H' x w',K r H'->St E (fq σ o.dst r) H' (a.put o.dst x) w'->next (a.put o.dst x) w'):o.wp P a w next Q:=by
 obtain⟨hce,hc⟩:=hS E.O tp w vs ds H d K (λb hb=>qAj (hst.hO b hb) hst.step.size) hst.tpg hst.sat hlen hargs hA;unfold Oper.wp;rw[hrun #[] w hce];simp only[Oper.upon];refine hc.mono ?_;rintro e w' (⟨x,r,H',tp',rfl,hk,h1,h2,h3,h4,h5,h6,h7⟩|⟨c,rfl,hz,hs⟩)
 rotate_left
 ·exact hpan c w' ⟨hz,hst.stepTo hs⟩
 have hm:=hst.move h4 h1 h2 h3 h5 h6;exact hnext r H' x w' hk (St.put hd hN hr hm o.dst hdst h7)
def Zw(hr:∀t,R tp (bh E.O tp H w) w (a.tmps.getD t undef) (σ t)){args:List Operand}(hargs:∀x∈args,Ay x=true):
 ∀(k:Nat) (x:Value) (e:D),(args.map a.eval)[k]? =some x->(args.map (ev σ))[k]? =some e->R tp (bh E.O tp H w) w x e:=by
 intro k x e h1 h2;rw[qz7]at h1 h2;obtain⟨q,hq,rfl⟩:=aN h1;rw[hq]at h2;cases h2;exact Zi hr q (hargs q (qzY hq))
theorem SZ{f:Nat}{args:List Operand}(hc:cN P im o=some (.call f args)):(∃q:Call,o.op= .call q/\q.callee= .value (.func f)/\q.args.toList=args/\f≠Dq)\/ ∃x,o.op= .panic x/\f=Dq/\args=[x]/\P.funcs.size<=Dq:=by
 have hops:=nK hc;unfold cN at hc;rw[if_neg (by simpa using hops)]at hc;cases hop:o.op with
 | call q=>
   simp only[hop]at hc;split at hc
   ·rename_i g hcal;split at hc
    ·cases hc
    ·rename_i hne;cases hb:qbc im o.dst with
     |some r=>rw[hb]at hc;cases hc
     | none=>
       rw[hb]at hc;cases hc;exact .inl ⟨q,rfl,hcal,rfl,hne⟩
   ·cases hc
   ·(repeat' split at hc)<;>cases hc
   ·cases hc
   ·cases hc
   all_goals
    exfalso
    (repeat' split at hc)<;>first
      |(cases hc;done)
      | (simp only[qzW,qzU]at hc
         obtain⟨n,hn,z,hz,agg,ha,hc⟩:=hc;split at hc<;>cases hc;done)
      | (simp only[qzW,qzU]at hc
         obtain⟨n,hn,z,hz,hc⟩:=hc;split at hc<;>cases hc;done)
      | (simp only[qzW,qzU]at hc
         obtain⟨n,hn,hc⟩:=hc;split at hc<;>cases hc;done)
      | (simp only[qzW,qzU]at hc
         obtain⟨n,hn,hc⟩:=hc;cases hc;done)
 | binOp op t x y u=>
   exfalso;simp only[hop]at hc;unfold nL at hc
   (repeat' split at hc)<;>first
     |(cases hc;done)
     |(cases hks:zN P t<;>simp[hks]at hc)
 |alloc el=>simp only[hop,qzW,qzU]at hc;obtain⟨z,hz,hc⟩:=hc;cases hc
 |box el x=>simp only[hop]at hc;split at hc<;>cases hc
 | build t parts=>
   simp only[hop,qzW,qzU]at hc;obtain⟨z,hz,hc⟩:=hc;split at hc
   ·obtain⟨ps,hps,hc⟩:=qzU.1 hc;split at hc<;>cases hc
   ·simp only[qzU]at hc;obtain⟨sz,hs,ps,hps,hc⟩:=hc;cases hc
   ·cases hc
 | buildSlice t len parts=>
   simp only[hop,qzW]at hc;split at hc
   ·simp only[qzU]at hc;obtain⟨n,hn,z,hz,ps,hps,hc⟩:=hc
    (repeat' split at hc)<;>cases hc
   ·cases hc
 | load t x=>
   simp only[hop,qzW,qzU]at hc;obtain⟨agg,ha,sz,hs,hc⟩:=hc;split at hc<;>cases hc
 |store t x y=>simp only[hop,qzW,qzU]at hc;obtain⟨z,hz,hc⟩:=hc;cases hc
 |unOp op t x=>cases op<;>simp only[hop]at hc<;>cases hc
 | convert s t x=>
   simp only[hop]at hc;split at hc
   ·cases hc
   ·cases hc
   ·split at hc<;>cases hc
   ·split at hc<;>cases hc
   ·cases hc
 |range t x=>simp only[hop]at hc;split at hc<;>cases hc
 |next x b=>cases b<;>simp only[hop]at hc<;>cases hc
 |entry x=>simp only[hop]at hc;cases hc
 |makeMap t r=>cases r<;>simp only[hop]at hc<;>cases hc
 | insert t m k v=>
   simp only[hop]at hc;split at hc
   ·simp only[qzW,qzU]at hc;obtain⟨q,hq,hc⟩:=hc;cases hc
   ·cases hc
 | mapUpdate t m k v=>
   simp only[hop]at hc;split at hc
   ·simp only[qzW,qzU]at hc;obtain⟨q,hq,hc⟩:=hc;cases hc
   ·cases hc
 | lookup t x k b=>
   simp only[hop]at hc;split at hc
   ·simp only[qzW,qzU]at hc;obtain⟨q,hq,z,hz,agg,ha,hc⟩:=hc;split at hc<;>cases hc
   ·cases hc
 |makeFunc fn first caps=>cases fn<;>simp only[hop]at hc<;>first|(cases hc;done)|(split at hc<;>cases hc)
 | makeSlice t l k=>
   simp only[hop,qzW]at hc;split at hc
   ·simp only[qzU]at hc;obtain⟨n,hn,z,hz,agg,ha,hc⟩:=hc;split at hc<;>cases hc
   ·cases hc
 | slice t x lo hi mx=>
   cases mx with
   |some m=>simp[hop]at hc
   | none=>
     simp only[hop,qzW]at hc;split at hc
     ·simp only[qzU]at hc;obtain⟨n,hn,hc⟩:=hc;cases hc
     ·cases hc
     ·cases hc
 | fieldAddr t x f=>
   simp only[hop,qzW]at hc;split at hc
   ·simp only[qzU]at hc;obtain⟨fd,hf,sz,hs,hc⟩:=hc;split at hc<;>cases hc
   ·cases hc
 | field t x f=>
   simp only[hop,qzW]at hc;split at hc
   ·simp only[qzU]at hc;obtain⟨fd,hf,agg,ha,sz,hs,hc⟩:=hc;split at hc<;>cases hc
   ·cases hc
 | indexAddr t x i=>
   simp only[hop,qzW]at hc;split at hc
   ·simp only[qzU]at hc;obtain⟨n,hn,hc⟩:=hc;cases hc
   ·split at hc
    ·simp only[qzU]at hc;obtain⟨sz,hs,hc⟩:=hc;split at hc<;>cases hc
    ·simp only[qzU]at hc;obtain⟨sz,hs,hc⟩:=hc;cases hc
   ·cases hc
 |index t x i=>simp only[hop]at hc;split at hc<;>cases hc
 | makeInterface t x=>
   simp only[hop]at hc;split at hc
   ·split at hc<;>cases hc
   ·cases hc
 | panic x=>
   simp only[hop]at hc;split at hc
   ·rename_i h;cases hc;simp only[qzZ,decide_eq_true_eq]at h;exact .inr ⟨x,rfl,rfl,rfl,h.2⟩
   ·cases hc
 | _=>simp[hop]at hc
theorem Pa{f:Operand}{args:List Operand}(hc:cN P im o=some (.callv f args)):∃q:Call,o.op= .call q/\q.callee= .value f/\q.args.toList=args:=by
 have hops:=nK hc;unfold cN at hc;rw[if_neg (by simpa using hops)]at hc;cases hop:o.op with
 | call q=>
   simp only[hop]at hc;split at hc
   ·split at hc
    ·cases hc
    ·cases hb:qbc im o.dst<;>rw[hb]at hc<;>cases hc
   ·rename_i g _ hcal;cases hc;exact⟨q,rfl,hcal,rfl⟩
   ·(repeat' split at hc)<;>cases hc
   ·cases hc
   ·cases hc
   all_goals
    exfalso
    (repeat' split at hc)<;>first
      |(cases hc;done)
      | (simp only[qzW,qzU]at hc
         obtain⟨n,hn,z,hz,agg,ha,hc⟩:=hc;split at hc<;>cases hc;done)
      | (simp only[qzW,qzU]at hc
         obtain⟨n,hn,z,hz,hc⟩:=hc;split at hc<;>cases hc;done)
      | (simp only[qzW,qzU]at hc
         obtain⟨n,hn,hc⟩:=hc;split at hc<;>cases hc;done)
      | (simp only[qzW,qzU]at hc
         obtain⟨n,hn,hc⟩:=hc;cases hc;done)
 | binOp op t x y u=>
   exfalso;simp only[hop]at hc;unfold nL at hc
   (repeat' split at hc)<;>first
     |(cases hc;done)
     |(cases hks:zN P t<;>simp[hks]at hc)
 |alloc el=>simp only[hop,qzW,qzU]at hc;obtain⟨z,hz,hc⟩:=hc;cases hc
 |box el x=>simp only[hop]at hc;split at hc<;>cases hc
 | build t parts=>
   simp only[hop,qzW,qzU]at hc;obtain⟨z,hz,hc⟩:=hc;split at hc
   ·obtain⟨ps,hps,hc⟩:=qzU.1 hc;split at hc<;>cases hc
   ·simp only[qzU]at hc;obtain⟨sz,hs,ps,hps,hc⟩:=hc;cases hc
   ·cases hc
 | buildSlice t len parts=>
   simp only[hop,qzW]at hc;split at hc
   ·simp only[qzU]at hc;obtain⟨n,hn,z,hz,ps,hps,hc⟩:=hc
    (repeat' split at hc)<;>cases hc
   ·cases hc
 | load t x=>
   simp only[hop,qzW,qzU]at hc;obtain⟨agg,ha,sz,hs,hc⟩:=hc;split at hc<;>cases hc
 |store t x y=>simp only[hop,qzW,qzU]at hc;obtain⟨z,hz,hc⟩:=hc;cases hc
 |unOp op t x=>cases op<;>simp only[hop]at hc<;>cases hc
 | convert s t x=>
   simp only[hop]at hc;split at hc
   ·cases hc
   ·cases hc
   ·split at hc<;>cases hc
   ·split at hc<;>cases hc
   ·cases hc
 |range t x=>simp only[hop]at hc;split at hc<;>cases hc
 |next x b=>cases b<;>simp only[hop]at hc<;>cases hc
 |entry x=>simp only[hop]at hc;cases hc
 |makeMap t r=>cases r<;>simp only[hop]at hc<;>cases hc
 | insert t m k v=>
   simp only[hop]at hc;split at hc
   ·simp only[qzW,qzU]at hc;obtain⟨q,hq,hc⟩:=hc;cases hc
   ·cases hc
 | mapUpdate t m k v=>
   simp only[hop]at hc;split at hc
   ·simp only[qzW,qzU]at hc;obtain⟨q,hq,hc⟩:=hc;cases hc
   ·cases hc
 | lookup t x k b=>
   simp only[hop]at hc;split at hc
   ·simp only[qzW,qzU]at hc;obtain⟨q,hq,z,hz,agg,ha,hc⟩:=hc;split at hc<;>cases hc
   ·cases hc
 |makeFunc fn first caps=>cases fn<;>simp only[hop]at hc<;>first|(cases hc;done)|(split at hc<;>cases hc)
 | makeSlice t l k=>
   simp only[hop,qzW]at hc;split at hc
   ·simp only[qzU]at hc;obtain⟨n,hn,z,hz,agg,ha,hc⟩:=hc;split at hc<;>cases hc
   ·cases hc
 | slice t x lo hi mx=>
   cases mx with
   |some m=>simp[hop]at hc
   | none=>
     simp only[hop,qzW]at hc;split at hc
     ·simp only[qzU]at hc;obtain⟨n,hn,hc⟩:=hc;cases hc
     ·cases hc
     ·cases hc
 | fieldAddr t x f=>
   simp only[hop,qzW]at hc;split at hc
   ·simp only[qzU]at hc;obtain⟨fd,hf,sz,hs,hc⟩:=hc;split at hc<;>cases hc
   ·cases hc
 | field t x f=>
   simp only[hop,qzW]at hc;split at hc
   ·simp only[qzU]at hc;obtain⟨fd,hf,agg,ha,sz,hs,hc⟩:=hc;split at hc<;>cases hc
   ·cases hc
 | indexAddr t x i=>
   simp only[hop,qzW]at hc;split at hc
   ·simp only[qzU]at hc;obtain⟨n,hn,hc⟩:=hc;cases hc
   ·split at hc
    ·simp only[qzU]at hc;obtain⟨sz,hs,hc⟩:=hc;split at hc<;>cases hc
    ·simp only[qzU]at hc;obtain⟨sz,hs,hc⟩:=hc;cases hc
   ·cases hc
 |index t x i=>simp only[hop]at hc;split at hc<;>cases hc
 | makeInterface t x=>
   simp only[hop]at hc;split at hc
   ·split at hc<;>cases hc
   ·cases hc
 |panic x=>simp only[hop]at hc;split at hc<;>cases hc
 | _=>simp[hop]at hc
theorem Pb{r f:Nat}{args:List Operand}(hc:cN P im o=some (.callb r f args)):∃q:Call,o.op= .call q/\q.callee= .value (.func f)/\q.args.toList=args:=by
 have hops:=nK hc;unfold cN at hc;rw[if_neg (by simpa using hops)]at hc;cases hop:o.op with
 | call q=>
   simp only[hop]at hc;split at hc
   ·rename_i g hcal;split at hc
    ·cases hc
    ·cases hb:qbc im o.dst with
     |none=>rw[hb]at hc;cases hc
     | some r'=>
       rw[hb]at hc;cases hc;exact⟨q,rfl,hcal,rfl⟩
   ·cases hc
   ·(repeat' split at hc)<;>cases hc
   ·cases hc
   ·cases hc
   all_goals
    exfalso
    (repeat' split at hc)<;>first
      |(cases hc;done)
      | (simp only[qzW,qzU]at hc
         obtain⟨n,hn,z,hz,agg,ha,hc⟩:=hc;split at hc<;>cases hc;done)
      | (simp only[qzW,qzU]at hc
         obtain⟨n,hn,z,hz,hc⟩:=hc;split at hc<;>cases hc;done)
      | (simp only[qzW,qzU]at hc
         obtain⟨n,hn,hc⟩:=hc;split at hc<;>cases hc;done)
      | (simp only[qzW,qzU]at hc
         obtain⟨n,hn,hc⟩:=hc;cases hc;done)
 | binOp op t x y u=>
   exfalso;simp only[hop]at hc;unfold nL at hc
   (repeat' split at hc)<;>first
     |(cases hc;done)
     |(cases hks:zN P t<;>simp[hks]at hc)
 |alloc el=>simp only[hop,qzW,qzU]at hc;obtain⟨z,hz,hc⟩:=hc;cases hc
 |box el x=>simp only[hop]at hc;split at hc<;>cases hc
 | build t parts=>
   simp only[hop,qzW,qzU]at hc;obtain⟨z,hz,hc⟩:=hc;split at hc
   ·obtain⟨ps,hps,hc⟩:=qzU.1 hc;split at hc<;>cases hc
   ·simp only[qzU]at hc;obtain⟨sz,hs,ps,hps,hc⟩:=hc;cases hc
   ·cases hc
 | buildSlice t len parts=>
   simp only[hop,qzW]at hc;split at hc
   ·simp only[qzU]at hc;obtain⟨n,hn,z,hz,ps,hps,hc⟩:=hc
    (repeat' split at hc)<;>cases hc
   ·cases hc
 | load t x=>
   simp only[hop,qzW,qzU]at hc;obtain⟨agg,ha,sz,hs,hc⟩:=hc;split at hc<;>cases hc
 |store t x y=>simp only[hop,qzW,qzU]at hc;obtain⟨z,hz,hc⟩:=hc;cases hc
 |unOp op t x=>cases op<;>simp only[hop]at hc<;>cases hc
 | convert s t x=>
   simp only[hop]at hc;split at hc
   ·cases hc
   ·cases hc
   ·split at hc<;>cases hc
   ·split at hc<;>cases hc
   ·cases hc
 |range t x=>simp only[hop]at hc;split at hc<;>cases hc
 |next x b=>cases b<;>simp only[hop]at hc<;>cases hc
 |entry x=>simp only[hop]at hc;cases hc
 |makeMap t r=>cases r<;>simp only[hop]at hc<;>cases hc
 | insert t m k v=>
   simp only[hop]at hc;split at hc
   ·simp only[qzW,qzU]at hc;obtain⟨q,hq,hc⟩:=hc;cases hc
   ·cases hc
 | mapUpdate t m k v=>
   simp only[hop]at hc;split at hc
   ·simp only[qzW,qzU]at hc;obtain⟨q,hq,hc⟩:=hc;cases hc
   ·cases hc
 | lookup t x k b=>
   simp only[hop]at hc;split at hc
   ·simp only[qzW,qzU]at hc;obtain⟨q,hq,z,hz,agg,ha,hc⟩:=hc;split at hc<;>cases hc
   ·cases hc
 |makeFunc fn first caps=>cases fn<;>simp only[hop]at hc<;>first|(cases hc;done)|(split at hc<;>cases hc)
 | makeSlice t l k=>
   simp only[hop,qzW]at hc;split at hc
   ·simp only[qzU]at hc;obtain⟨n,hn,z,hz,agg,ha,hc⟩:=hc;split at hc<;>cases hc
   ·cases hc
 | slice t x lo hi mx=>
   cases mx with
   |some m=>simp[hop]at hc
   | none=>
     simp only[hop,qzW]at hc;split at hc
     ·simp only[qzU]at hc;obtain⟨n,hn,hc⟩:=hc;cases hc
     ·cases hc
     ·cases hc
 | fieldAddr t x f=>
   simp only[hop,qzW]at hc;split at hc
   ·simp only[qzU]at hc;obtain⟨fd,hf,sz,hs,hc⟩:=hc;split at hc<;>cases hc
   ·cases hc
 | field t x f=>
   simp only[hop,qzW]at hc;split at hc
   ·simp only[qzU]at hc;obtain⟨fd,hf,agg,ha,sz,hs,hc⟩:=hc;split at hc<;>cases hc
   ·cases hc
 | indexAddr t x i=>
   simp only[hop,qzW]at hc;split at hc
   ·simp only[qzU]at hc;obtain⟨n,hn,hc⟩:=hc;cases hc
   ·split at hc
    ·simp only[qzU]at hc;obtain⟨sz,hs,hc⟩:=hc;split at hc<;>cases hc
    ·simp only[qzU]at hc;obtain⟨sz,hs,hc⟩:=hc;cases hc
   ·cases hc
 |index t x i=>simp only[hop]at hc;split at hc<;>cases hc
 | makeInterface t x=>
   simp only[hop]at hc;split at hc
   ·split at hc<;>cases hc
   ·cases hc
 |panic x=>simp only[hop]at hc;split at hc<;>cases hc
 | _=>simp[hop]at hc
theorem Ja{K:D->ab->Prop}{z:List PanicEntry->Prop}(hS:CallOk E.dq P z S c)(hc:cN P im o=some c)(hst:StW E tp H w)(hd:a.defers=E.ds)(hN:a.tmps.size=E.N)(hr:∀t,R tp (bh E.O tp H w) w (a.tmps.getD t undef) (σ t))
 (hdst:∀t,o.dst=some t->t<E.N) (hv:aI S c o.dst σ H K)
 {next:Act->World->Prop} {Q:Exit->Act->World->Prop} (hpan:∀c w',ZE E z c w'->Q (.panic c) a w') (hnext:∀r H' x w',K r H'->St E (fq σ o.dst r) H' (a.put o.dst x) w'->next (a.put o.dst x) w'):o.wp P a w next Q:=by
 by_cases hcall:c.isCall=true
 ·have hops:=nK hc;cases c<;>simp[COp.isCall]at hcall
  ·rename_i f args;rcases SZ hc with⟨q,hop,hcal,hargs,hne⟩|⟨x,hop,hf,ha,hsz⟩
   rotate_left
   ·subst ha;subst hf;have hxo:Ay x=true:=qz4.1 hops x (by simp[hop,Op.operands]);have hxR:=Zi hr x hxo;simp only[CallOk,if_true]at hS;have hz:=hS hsz E.O tp w (a.eval x) (ev σ x) H (o.dst.getD 0) K (λb hb=>qAj (hst.hO b hb) hst.step.size) hst.tpg hst.sat hxR hv;obtain⟨⟨t,v,hv1⟩,hz⟩:=hz;unfold Oper.wp;have:(execOp a.eval o).run P w= .halt (.panic (a.eval x)) w:=by
     simp[execOp,hop,hv1,Instr.panic,goPanic]
    rw[this];exact hpan _ _ ⟨hz,hst.stepTo (.refl _ _ _)⟩
   simp only[CallOk,if_neg hne]at hS;have hao:∀x∈args,Ay x=true:=λx hx=>qz4.1 hops x (by
    simp only[hop,Op.operands,Call.operands];rw[<-hargs]at hx;simp;right;simpa using hx)
   simp only[aI]at hv;refine Td (vs:=args.map a.eval) (ds:=args.map (ev σ)) hS hst hd hN hr (λ_ _ hce=>?_) (by rw[qAs,qAs]) (Zw hr hao) hv hdst hpan hnext;have he:q.args.map a.eval=(args.map a.eval).toArray:=by rw[<-hargs];exact qBy.1 (by rw[qBM])
   simp[execOp,hop,resolve,hcal,Act.eval,Deferred.ofValue,invoke,he,hce _ w]
  ·rename_i f args;obtain⟨q,hop,hcal,hargs⟩:=Pa hc;have hao:∀x∈args,Ay x=true:=λx hx=>qz4.1 hops x (by
    simp only[hop,Op.operands,Call.operands];rw[<-hargs]at hx;simp;right;simpa using hx)
   have hfo:Ay f=true:=qz4.1 hops f (by
    simp only[hop,Op.operands,Call.operands,hcal];simp)
   have hfR:=Zi hr f hfo;simp only[aI]at hv;split at hv
   ·rename_i g caps e1;rw[e1]at hfR;generalize hq:a.eval f=fv at hfR;cases hfR with
    | clo _ xs _ hl h=>
      refine Td (vs:=args.map a.eval++xs) (ds:=args.map (ev σ) ++caps) (hS g) hst hd hN hr (λ_ _ hce=>?_) (by rw[qAm,qAm,qAs,qAs,hl]) ?_ hv hdst hpan hnext
      ·have he:q.args.map a.eval=(args.map a.eval).toArray:=by rw[<-hargs];exact qBy.1 (by rw[qBM])
       simp[execOp,hop,resolve,hcal,hq,Deferred.ofValue,invoke,he,hce _ w]
      ·intro k x e h1 h2;by_cases hk:k<args.length
       ·rw[qAe (by simpa using hk)]at h1 h2;exact Zw hr hao k x e h1 h2
       ·rw[qz9 (by simp;omega)]at h1 h2;simp only[qAs]at h1 h2;exact h _ x e h1 h2
   ·exact hv.elim
  ·rename_i r f args;obtain⟨q,hop,hcal,hargs⟩:=Pb hc;have hao:∀x∈args,Ay x=true:=λx hx=>qz4.1 hops x (by
    simp only[hop,Op.operands,Call.operands];rw[<-hargs]at hx;simp;right;simpa using hx)
   simp only[aI]at hv;have hS:TriZ E.dq z P f (S f).pt:=hS;refine Td (vs:=args.map a.eval) (ds:=args.map (ev σ)) hS hst hd hN hr (λ_ _ hce=>?_) (by rw[qAs,qAs]) (Zw hr hao) hv hdst hpan hnext;have he:q.args.map a.eval=(args.map a.eval).toArray:=by rw[<-hargs];exact qBy.1 (by rw[qBM])
   simp[execOp,hop,resolve,hcal,Act.eval,Deferred.ofValue,invoke,he,hce _ w]
 ·have hnc:c.isCall=false:=by simpa using hcall
  have hv':bk c o.dst σ H K:=by
   cases c<;>first|exact hv|(simp[COp.isCall]at hnc)
  obtain⟨nx,x,d,H',w',hrun,hnx,hm,hR,hk⟩:=qe7 hc hnc hst hr hv';have hst':=St.put hd hN hr hm o.dst hdst hR;unfold Oper.wp;rw[hrun];rcases hnx with rfl|⟨rfl,rfl⟩
  ·exact hnext d H' x w' hk hst'
  ·exact hnext d H' Go.undef w' hk hst'
end
end Go.Gv
