/- A part of the framework and of the walks: S7. -/
import Derived.Test.YtfbleenmepoodaaGreatDoorGa08
set_option linter.unusedSimpArgs false
set_option linter.unusedVariables false
set_option linter.unusedSectionVars false
set_option linter.defProp false
namespace Go.Gv
section
variable {P:Program}{im:List Nat}{o:Oper}{c:COp}{a:Act}{E:sw}{tp:Nat->Prop}{H:aa}{w:World}{σ:Sg}
def jg(hc:bP P im o=some c):o.op.operands.toList.all sq=true:=by
 unfold bP at hc;split at hc
 ·cases hc
 ·rename_i h;simpa using h
theorem LN{K:D->Prop}{Hr:aa}(hc:bP P im o=some c)(hro:c.isRead=true)(hst:StW E tp H w)(hr:∀t,R tp (aI E.O tp H w) w (a.tmps.getD t undef) (σ t))
 (hle:∀i r,Hr i=some r->H i=some r) (hv:ah c σ Hr K):GoodN P o a E tp H w K:=by
 have hops:=jg hc;have hsat:∀i r,H i=some r->ResOk (R tp (aI E.O tp H w) w) w r:=hst.sat.ok;unfold bP at hc;rw[if_neg (by simpa using hops)]at hc;have hev:∀x,x∈o.op.operands->R tp (aI E.O tp H w) w (a.eval x) (ev σ x):=λx hx=>Mj hr x (qjF.1 hops x (by simpa using hx))
 cases hop:o.op with
 | move x=>
   simp only[hop]at hc;cases hc;exact(Nn (.inl hop) (hev x (by simp[hop,Op.operands])) hv).toN
 | assign x=>
   simp only[hop]at hc;cases hc;exact(Nn (.inr hop) (hev x (by simp[hop,Op.operands])) hv).toN
 | pick q x y=>
   simp only[hop]at hc;cases hc;exact(O3 hop (hev q (by simp[hop,Op.operands])) (hev x (by simp[hop,Op.operands])) (hev y (by simp[hop,Op.operands])) hv).toN
 | alloc el=>
   simp only[hop,qjB,qjy,qjO]at hc;obtain⟨z,_,rfl⟩:=hc;simp[COp.isRead]at hro
 | box el x=>
   simp only[hop]at hc;split at hc
   ·cases hc;cases hro
   cases hc;cases hcon:Sd im o.dst with
   | false=>rw[hcon]at hro;cases hro
   | true=>
     rw[hcon]at hv;exact O9 hst hop (hev x (by simp[hop,Op.operands])) hv
 | build t parts=>
   simp only[hop,qjB,qjy]at hc;obtain⟨z,hz,hc⟩:=hc;split at hc
   ·rename_i fs hu;obtain⟨ps,hps,hc⟩:=qjy.1 hc;split at hc
    ·rename_i hall;cases hc;exact(L9 hop hz hu (by simpa using hps) hall (λp hp=>hev p.2 (by
      simp only[hop,Op.operands];simp only[List.mem_toArray,qjN];exact⟨p,hp,rfl⟩)) hv).toN
    ·cases hc
   ·rename_i len el hu;simp only[qjy]at hc;obtain⟨sz,hs,ps,hps,hc⟩:=hc;cases hc;exact(J5 hop hz hu hs hps (λp hp=>hev p.2 (by
     simp only[hop,Op.operands];simp only[List.mem_toArray,qjN];exact⟨p,hp,rfl⟩)) hv).toN
   ·cases hc
 | buildSlice t len parts=>
   simp only[hop,qjB]at hc;split at hc
   ·rename_i el hu;simp only[qjy]at hc;obtain⟨n,hn,z,hz,ps,hps,hc⟩:=hc;split at hc
    ·rename_i hcond;simp only[qjE,decide_eq_true_eq]at hcond;split at hc
     ·cases hc;simp[COp.isRead]at hro
     ·rename_i hl0;split at hc
      ·cases hc;simp[COp.isRead]at hro
      cases hc;refine J6 hst hop hu hn hz hps hcond.1 hcond.2 hl0 (λx hx=>hev x ?_) hv;unfold pX at hps;split at hps
      ·cases hps;simp only[hop,Op.operands];simpa using hx
      ·cases hps
    ·cases hc
   ·cases hc
 | insert t m k v=>
   simp only[hop]at hc;split at hc
   ·simp only[qjB,qjy]at hc;obtain⟨⟨ka,ks⟩,hkt,hc⟩:=hc;cases hc;simp[COp.isRead,MOp.isRead]at hro
   ·cases hc
 | load t x=>
   simp only[hop,qjB,qjy]at hc;obtain⟨agg,ha,sz,hs,hc⟩:=hc;split at hc
   ·rename_i h1;cases hc;exact(Fq hop ha hs (by simpa using h1) (hev x (by simp[hop,Op.operands])) hle hsat hv).toN
   ·cases hc
 | store t x y=>
   simp only[hop,qjB,qjy,qjO]at hc;obtain⟨z,_,rfl⟩:=hc;simp[COp.isRead]at hro
 | ready g=>simp[hop]at hc
 | waits g=>simp[hop]at hc
 | nilCheck x=>
   simp only[hop]at hc;cases hc;exact(L5 hop (hev x (by simp[hop,Op.operands])) hv).toN
 | binOp op t x y u=>
   simp only[hop]at hc;have hx:=hev x (by simp[hop,Op.operands]);have hy:=hev y (by simp[hop,Op.operands]);split at hc
   ·split at hc
    ·cases hc;exact(eY hop (.inl rfl) hx hy hv).toN
    ·split at hc
     ·cases hc;exact(O0 hop hx hy hv).toN
     ·cases hc
   ·split at hc
    ·cases hc;exact(eY hop (by simp) hx hy hv).toN
    ·cases hc
   ·split at hc
    ·cases hc;exact(eY hop (by simp) hx hy hv).toN
    ·cases hc
   ·split at hc
    ·cases hc;exact(eY hop (by simp) hx hy hv).toN
    ·cases hc
   ·split at hc
    ·cases hc;exact(eY hop (by simp) hx hy hv).toN
    ·cases hc
   ·split at hc
    ·cases hc;exact(eY hop (by simp) hx hy hv).toN
    ·cases hc
   ·split at hc
    ·cases hc;exact(eY hop (by simp) hx hy hv).toN
    ·cases hc
   ·split at hc
    ·cases hc;exact(eY hop (by simp) hx hy hv).toN
    ·cases hc
   ·split at hc
    ·cases hc;exact(eY hop (by simp) hx hy hv).toN
    ·cases hc
   iterate 4
    ·split at hc
     ·cases hc;exact(J4 hop hx hy hv).toN
     ·split at hc
      ·cases hc;exact(J4 hop hx hy hv).toN
      ·cases hc
   ·exact(J3 (neg:=false) (by simpa using hop) hc hx hy hv).toN
   ·exact(J3 (neg:=true) (by simpa using hop) hc hx hy hv).toN
   ·cases hc
 | unOp op t x=>
   cases op <;> simp only[hop]at hc <;> cases hc
   ·exact(Rz hop (hev x (by simp[hop,Op.operands])) hv).toN
   ·exact(Ry hop (hev x (by simp[hop,Op.operands])) hv).toN
 | convert s t x=>
   simp only[hop]at hc;split at hc
   ·rename_i k0 k h1 h2;cases hc;exact(O7 hop h1 h2 (hev x (by simp[hop,Op.operands])) hv).toN
   ·rename_i k0 h1 h2;cases hc;exact(O1 hop h1 h2 (hev x (by simp[hop,Op.operands])) hv).toN
   ·rename_i el h1 h2;split at hc
    ·rename_i h3;cases hc;exact J2 hst hop h1 h2 h3 (hev x (by simp[hop,Op.operands])) hv
    ·rename_i h3;cases hc;exact J1 hst hop h1 h2 h3 (hev x (by simp[hop,Op.operands])) hv
    ·cases hc
   ·rename_i el h1 h2;split at hc
    ·rename_i h3;cases hc;exact(O8 hop h1 h2 h3 (hev x (by simp[hop,Op.operands])) hle hsat hv).toN
    ·cases hc
   ·cases hc
 | sliceToArrayPointer t x=>simp[hop]at hc
 | makeInterface t x=>
   simp only[hop]at hc;split at hc
   ·split at hc
    ·rename_i fs ht;cases hc;exact(O5 hop ht (hev x (by simp[hop,Op.operands])) hv).toN
    ·cases hc
   ·cases hc;exact False.elim hv
 | makeFunc fn first caps=>
   cases fn <;> simp only[hop]at hc <;> try (cases hc;done)
   split at hc
   ·rename_i hf;cases hc;exact(RD hop hf (λx hx=>hev x (by simp only[hop,Op.operands];simp;right;simpa using hx)) hv).toN
   ·cases hc
 | makeMap t r=>
   cases r with
   | some r=>simp[hop]at hc
   | none=>simp only[hop]at hc;cases hc;simp[COp.isRead,MOp.isRead]at hro
 | makeChan t r=>simp[hop]at hc
 | makeSlice t l k=>
   simp only[hop,qjB]at hc;split at hc
   ·simp only[qjy]at hc;obtain⟨n,hn,z,hz,agg,ha,hc⟩:=hc;split at hc
    ·cases hc;simp[COp.isRead]at hro
    ·cases hc
   ·cases hc
 | slice t x lo hi mx=>
   cases mx with
   | some m=>simp[hop]at hc
   | none=>
     simp only[hop,qjB]at hc;have hx:=hev x (by simp[hop,Op.operands]);have hlo:∀y,lo=some y->R tp (aI E.O tp H w) w (a.eval y) (ev σ y):=λy hy=>hev y (by subst hy;simp[hop,Op.operands])
     have hhi:∀y,hi=some y->R tp (aI E.O tp H w) w (a.eval y) (ev σ y):=λy hy=>hev y (by subst hy;simp[hop,Op.operands])
     split at hc
     ·rename_i el hu;simp only[qjy,qjO]at hc;obtain⟨n,hn,rfl⟩:=hc;exact(L4 hop hu hn hx hlo hhi hle hsat hv).toN
     ·rename_i hu;cases hc;exact(J0 hop hu hx hlo hhi hv).toN
     ·cases hc
 | fieldAddr t x f=>
   simp only[hop,qjB]at hc;split at hc
   ·rename_i fs hu;simp only[qjy]at hc;obtain⟨fd,hf,sz,hs,hc⟩:=hc;split at hc
    ·rename_i h0;cases hc;exact(L7 hop hu hf hs h0 (hev x (by simp[hop,Op.operands])) hv).toN
    ·cases hc
   ·cases hc
 | field t x f=>
   simp only[hop,qjB]at hc;split at hc
   ·rename_i fs hu;simp only[qjy]at hc;obtain⟨fd,hf,agg,ha,sz,hs,hc⟩:=hc;split at hc
    ·rename_i h1;cases hc;exact(RB hop hu hf ha hs (by simpa using h1) (hev x (by simp[hop,Op.operands])) hv).toN
    ·cases hc
   ·cases hc
 | indexAddr t x i=>
   simp only[hop,qjB]at hc;split at hc
   ·rename_i el hu;simp only[qjy,qjO]at hc;obtain⟨n,hn,rfl⟩:=hc;exact(L6 hop hu hn (hev x (by simp[hop,Op.operands])) (hev i (by simp[hop,Op.operands])) hle hsat hv).toN
   ·rename_i len el hu;split at hc
    ·simp only[qjy]at hc;obtain⟨sz,hs,hc⟩:=hc;split at hc
     ·rename_i h0;cases hc;exact(Ma hop hu hs h0 (hev x (by simp[hop,Op.operands])) hv).toN
     ·cases hc
    ·simp only[qjy,qjO]at hc;obtain⟨sz,hs,rfl⟩:=hc;exact(Pa hop hu hs (hev x (by simp[hop,Op.operands])) (hev i (by simp[hop,Op.operands])) hv).toN
   ·cases hc
 | index t x i=>
   simp only[hop]at hc;split at hc
   ·rename_i hu;cases hc;exact(OZ hop hu (hev x (by simp[hop,Op.operands])) (hev i (by simp[hop,Op.operands])) hv).toN
   ·cases hc
 | lookup t x i b=>
   simp only[hop]at hc;split at hc
   ·rename_i kt et hu;simp only[qjB,qjy]at hc;obtain⟨⟨ka,ks⟩,hkt,z,hz,agg,ha,hc⟩:=hc;split at hc
    ·rename_i hag;cases hc;exact(O6 hop hu (uB hkt) hz hag (hev x (by simp[hop,Op.operands])) (hev i (by simp[hop,Op.operands])) hle hsat hv).toN
    ·cases hc
   ·cases hc
 | mapUpdate t m k v=>
   simp only[hop]at hc;split at hc
   ·simp only[qjB,qjy]at hc;obtain⟨⟨ka,ks⟩,hkt,hc⟩:=hc;cases hc;simp[COp.isRead,MOp.isRead]at hro
   ·cases hc
 | mapEntry t m k=>simp[hop]at hc
 | entryStore t m k v=>simp[hop]at hc
 | range t x=>
   simp only[hop]at hc;split at hc
   ·cases hc;simp[COp.isRead]at hro
   ·cases hc;simp[COp.isRead,MOp.isRead]at hro
   ·cases hc
 | next x b=>
   cases b with
   | false=>simp only[hop]at hc;cases hc;simp[COp.isRead,MOp.isRead]at hro
   | true=>
     simp only[hop]at hc;cases hc;simp[COp.isRead]at hro
 | entry x=>
   simp only[hop]at hc;cases hc;exact(L8 hop (hev x (by simp[hop,Op.operands])) hle hsat hv).toN
 | typeAssert x s t b=>simp[hop]at hc
 | extract x i=>
   simp only[hop]at hc;cases hc;exact(RC hop (hev x (by simp[hop,Op.operands])) hv).toN
 | call q=>
   have hargs:∀x∈q.args.toList,R tp (aI E.O tp H w) w (a.eval x) (ev σ x):=λx hx=>hev x (by
    simp only[hop,Op.operands,Call.operands];simp;right;simpa using hx)
   simp only[hop]at hc;split at hc
   ·split at hc <;> cases hc;rw[KH]at hro;cases hro
   ·cases hc;simp[COp.isRead]at hro
   ·rename_i hcal;split at hc
    ·rename_i t x hat har;split at hc
     ·rename_i el hu;cases hc;exact(RA hop hcal hat har hu (hargs x (by rw[har];simp)) hle hsat hv).toN
     ·rename_i hu;cases hc;exact(OY hop hcal hat har hu (hargs x (by rw[har];simp)) hv).toN
     ·rename_i kt et hu;cases hc;exact(O4 hop hcal hat har hu (hargs x (by rw[har];simp)) hle hsat hv).toN
     ·cases hc
    ·cases hc
   ·rename_i hcal;cases hc;exact(Np (mx:=false) hop (by simpa using hcal) hargs hv).toN
   ·rename_i hcal;cases hc;exact(Np (mx:=true) hop (by simpa using hcal) hargs hv).toN
   ·split at hc
    ·split at hc
     ·split at hc
      ·simp only[qjB,qjy]at hc;obtain⟨n,hn,z,hz,hc⟩:=hc;split at hc
       ·cases hc;simp[COp.isRead]at hro
       ·cases hc
      ·cases hc
     ·split at hc
      ·simp only[qjB,qjy]at hc;obtain⟨n,hn,z,hz,agg,ha,hc⟩:=hc;split at hc
       ·cases hc;simp[COp.isRead]at hro
       ·cases hc
      ·simp only[qjB,qjy]at hc;obtain⟨n,hn,z,hz,hc⟩:=hc;split at hc
       ·cases hc;simp[COp.isRead]at hro
       ·cases hc
      ·cases hc
    ·cases hc
   ·split at hc
    ·split at hc
     ·simp only[qjB,qjy]at hc;obtain⟨n,hn,z,hz,agg,ha,hc⟩:=hc;split at hc
      ·cases hc;simp[COp.isRead]at hro
      ·cases hc
     ·cases hc
    ·cases hc
   ·split at hc
    ·split at hc
     ·split at hc
      ·simp only[qjB,qjy]at hc;obtain⟨n,hn,hc⟩:=hc;split at hc
       ·cases hc;simp[COp.isRead]at hro
       ·cases hc
      ·cases hc
     ·cases hc
    ·cases hc
   ·rename_i hcal;split at hc
    ·rename_i t x hat har;split at hc
     ·rename_i el hu;cases hc;exact(RE hop hcal hat har hu (hargs x (by rw[har];simp)) hv).toN
     ·cases hc
    ·cases hc
   ·split at hc
    ·split at hc
     ·simp only[qjB,qjy]at hc;obtain⟨⟨ka,ks⟩,hkt,hc⟩:=hc;cases hc;simp[COp.isRead,MOp.isRead]at hro
     ·cases hc
    ·cases hc
   ·cases hc
 | go q=>simp[hop]at hc
 | defer q=>simp[hop]at hc
 | panic x=>
   simp only[hop]at hc;split at hc
   ·cases hc;simp[COp.isRead]at hro
   ·cases hc;exact False.elim hv
 | send x y=>simp[hop]at hc
 | recv t x b=>simp[hop]at hc
 | select cs b=>simp[hop]at hc
def OC{K:D->aa->Prop}(hro:c.isRead=true)(hv:aP c o.dst σ H K):ah c σ H λd=>K d H:=by
 cases c <;> first|exact hv|(simp[COp.isRead]at hro;done)|skip
 ·rename_i el im x;cases im
  ·simp[COp.isRead]at hro
  ·exact hv
 ·rename_i mo xs;cases mo <;> first|(simp[COp.isRead,MOp.isRead]at hro;done)|exact hv
theorem QW{K:D->aa->Prop}(hc:bP P im o=some c)(hnc:c.isCall=false)(hst:StW E tp H w)(hr:∀t,R tp (aI E.O tp H w) w (a.tmps.getD t undef) (σ t))
 (hv:aP c o.dst σ H K):cq P o a E tp H w K:=by
 by_cases hro:c.isRead=true
 ·exact GoodN.og hst (LN hc hro hst hr (λ_ _ h=>h) (OC hro hv)) (λd h=>h)
 ·have hops:=jg hc;unfold bP at hc;rw[if_neg (by simpa using hops)]at hc;have hev:∀x,x∈o.op.operands->R tp (aI E.O tp H w) w (a.eval x) (ev σ x):=λx hx=>Mj hr x (qjF.1 hops x (by simpa using hx))
  cases hop:o.op with
  | alloc el=>
    simp only[hop,qjB,qjy,qjO]at hc;obtain⟨z,hz,rfl⟩:=hc;simp only[aP]at hv;split at hv
    ·exact Q8 hst hop hz hv
    ·exact hv.elim
  | box el x=>
    simp only[hop]at hc;split at hc
    ·cases hc;simp only[aP]at hv;split at hv
     ·exact Xh hst hop (hev x (by simp[hop,Op.operands])) hv.1 hv.2
     ·exact hv.elim
    cases hc;cases hcon:Sd im o.dst with
    | true=>rw[hcon]at hro;exact absurd rfl hro
    | false=>
    rw[hcon]at hv;simp only[aP]at hv;split at hv
    ·exact Xk hst hop (hev x (by simp[hop,Op.operands])) hv.1 hv.2
    ·exact hv.elim
  | buildSlice t len parts=>
    simp only[hop,qjB]at hc;split at hc
    ·rename_i el hu;simp only[qjy]at hc;obtain⟨n,hn,z,hz,ps,hps,hc⟩:=hc;split at hc
     ·rename_i hcond;split at hc
      ·rename_i hl0;subst hl0;cases hc;simp only[aP]at hv;have:ps=[]:=by
        unfold pX at hps;split at hps
        ·rename_i h;have h':parts.toList=[]:=by simpa using h
         rw[h']at hps;simpa using hps.symm
        ·cases hps
       subst this;split at hv
       ·exact OL hst hop hu hn hz hps hv
       ·exact hv.elim
      ·rename_i hl0;simp only[qjE,decide_eq_true_eq]at hcond;split at hc
       ·cases hc;simp only[aP]at hv;split at hv
        ·refine OM hst hop hu hn hz hps hcond.1 hcond.2 hl0 (λx hx=>hev x ?_) hv.1 hv.2;unfold pX at hps;split at hps
         ·cases hps;simp only[hop,Op.operands];simpa using hx
         ·cases hps
        ·exact hv.elim
       ·cases hc;simp[COp.isRead]at hro
     ·cases hc
    ·cases hc
  | store t x y=>
    simp only[hop,qjB,qjy,qjO]at hc;obtain⟨sz,hs,rfl⟩:=hc;exact Q4 hst hop hs (hev x (by simp[hop,Op.operands])) (hev y (by simp[hop,Op.operands])) hv
  | makeSlice t l k=>
    simp only[hop,qjB]at hc;split at hc
    ·rename_i el hu;simp only[qjy]at hc;obtain⟨n,hn,z,hz,agg,ha,hc⟩:=hc;split at hc
     ·rename_i hcond;simp only[qjE,decide_eq_true_eq]at hcond;cases hc;simp only[aP]at hv;split at hv
      ·split at hv
       ·rename_i e1 e2;have h1:=hev l (by simp[hop,Op.operands]);have h2:=hev k (by simp[hop,Op.operands]);rw[ul e1]at h1;rw[ul e2]at h2;obtain⟨h0,hlc,hb,h63,hk⟩:=hv;exact LV hst hop hu hn hz hcond.1 (by simpa using hcond.2) h1.inv_v h2.inv_v h0 hlc hb h63 hk
       ·exact hv.elim
      ·exact hv.elim
     ·cases hc
    ·cases hc
  | call q=>
    have hargs:∀x∈q.args.toList,R tp (aI E.O tp H w) w (a.eval x) (ev σ x):=λx hx=>hev x (by
     simp only[hop,Op.operands,Call.operands];simp;right;simpa using hx)
    simp only[hop]at hc;split at hc
    ·split at hc <;> cases hc;rw[KI]at hnc;cases hnc
    ·cases hc;simp[COp.isCall]at hnc
    ·split at hc
     ·split at hc
      ·cases hc;simp[COp.isRead]at hro
      ·cases hc;simp[COp.isRead]at hro
      ·cases hc;simp[COp.isRead,MOp.isRead]at hro
      ·cases hc
     ·cases hc
    ·cases hc;simp[COp.isRead]at hro
    ·cases hc;simp[COp.isRead]at hro
    ·rename_i hcal;split at hc
     ·rename_i t u x y hat har;split at hc
      ·rename_i htu;subst htu;split at hc
       ·rename_i el hu;simp only[qjB,qjy]at hc;obtain⟨n,hn,z,hz,hc⟩:=hc;split at hc
        ·rename_i h0;cases hc;exact Fg hst hop hcal hat har hu (.inl ⟨_,hu⟩) hn hz rfl h0 (hargs x (by rw[har];simp)) (hargs y (by rw[har];simp)) hv
        ·cases hc
       ·cases hc
      ·split at hc
       ·rename_i el kn hu hu2;simp only[qjB,qjy]at hc;obtain⟨n,hn,z,hz,agg,ha,hc⟩:=hc;split at hc
        ·rename_i hcond;simp only[qjE,decide_eq_true_eq]at hcond;cases hc;exact Q7 hst hop hcal hat har hu hu2 hn hz hcond.1 (by simpa using hcond.2) (hargs x (by rw[har];simp)) (hargs y (by rw[har];simp)) hv
        ·cases hc
       ·rename_i el hu hu2;simp only[qjB,qjy]at hc;obtain⟨n,hn,z,hz,hc⟩:=hc;split at hc
        ·rename_i h0;cases hc;exact Fg hst hop hcal hat har hu (.inr hu2) hn hz rfl (by omega) (hargs x (by rw[har];simp)) (hargs y (by rw[har];simp)) hv
        ·cases hc
       ·cases hc
     ·cases hc
    ·rename_i hcal;split at hc
     ·rename_i t x hat har;split at hc
      ·rename_i el hu;simp only[qjB,qjy]at hc;obtain⟨n,hn,z,hz,agg,ha,hc⟩:=hc;split at hc
       ·rename_i hcond;simp only[qjE,decide_eq_true_eq]at hcond;cases hc;exact Q6 hst hop hcal hat har hu hn hz hcond.1 (by simpa using hcond.2) (hargs x (by rw[har];simp)) hv
       ·cases hc
      ·cases hc
     ·cases hc
    ·rename_i hcal;split at hc
     ·rename_i t u x y hat har;split at hc
      ·rename_i htu;subst htu;split at hc
       ·rename_i el hu;simp only[qjB,qjy]at hc;obtain⟨n,hn,hc⟩:=hc;split at hc
        ·rename_i h0;cases hc;exact Un hst hop hcal hat har hu hn h0 (hargs x (by rw[har];simp)) (hargs y (by rw[har];simp)) hv
        ·cases hc
       ·cases hc
      ·cases hc
     ·cases hc
    ·split at hc
     ·split at hc
      ·cases hc;simp[COp.isRead]at hro
      ·cases hc
     ·cases hc
    ·rename_i hcal;split at hc
     ·rename_i t u x y hat har;split at hc
      ·rename_i kt et hu;simp only[qjB,qjy]at hc;obtain⟨⟨ka,ks⟩,hkt,hc⟩:=hc;cases hc;exact Xj hst hop hcal hat har hu (uB hkt) (hargs x (by rw[har];simp)) (hargs y (by rw[har];simp)) hv
      ·cases hc
     ·cases hc
    ·cases hc
  | move x=>simp only[hop]at hc;cases hc;simp[COp.isRead]at hro
  | assign x=>simp only[hop]at hc;cases hc;simp[COp.isRead]at hro
  | pick q x y=>simp only[hop]at hc;cases hc;simp[COp.isRead]at hro
  | build t parts=>
    simp only[hop,qjB,qjy]at hc;obtain⟨z,hz,hc⟩:=hc;split at hc
    ·obtain⟨ps,hps,hc⟩:=qjy.1 hc;split at hc
     ·cases hc;simp[COp.isRead]at hro
     ·cases hc
    ·simp only[qjy]at hc;obtain⟨sz,hs,ps,hps,hc⟩:=hc;cases hc;simp[COp.isRead]at hro
    ·cases hc
  | insert t m k v=>
    simp only[hop]at hc;split at hc
    ·rename_i kt et hu;simp only[qjB,qjy]at hc;obtain⟨⟨ka,ks⟩,hkt,hc⟩:=hc;cases hc;exact Q3 hst (.inr hop) hu (uB hkt) (hev m (by simp[hop,Op.operands])) (hev k (by simp[hop,Op.operands])) (hev v (by simp[hop,Op.operands])) hv
    ·cases hc
  | load t x=>
    simp only[hop,qjB,qjy]at hc;obtain⟨agg,ha,sz,hs,hc⟩:=hc;split at hc
    ·cases hc;simp[COp.isRead]at hro
    ·cases hc
  | ready g=>simp[hop]at hc
  | waits g=>simp[hop]at hc
  | nilCheck x=>simp only[hop]at hc;cases hc;simp[COp.isRead]at hro
  | binOp op t x y u=>
    exfalso;simp only[hop]at hc;unfold jh at hc
    (repeat' split at hc) <;> first
      | (cases hc;done)
      | (cases hc;simp[COp.isRead]at hro;done)
      | (cases hks:rH P t with
         | none=>simp[hks]at hc
         | some ks=>simp[hks]at hc;subst hc;simp[COp.isRead]at hro)
  | unOp op t x=>
    exfalso;cases op <;> simp only[hop]at hc <;> first|(cases hc;done)|(cases hc;simp[COp.isRead]at hro;done)
  | convert s t x=>
    simp only[hop]at hc;split at hc
    ·cases hc;simp[COp.isRead]at hro
    ·cases hc;simp[COp.isRead]at hro
    ·split at hc
     ·cases hc;simp[COp.isRead]at hro
     ·cases hc;simp[COp.isRead]at hro
     ·cases hc
    ·split at hc
     ·cases hc;simp[COp.isRead]at hro
     ·cases hc
    ·cases hc
  | sliceToArrayPointer t x=>simp[hop]at hc
  | makeInterface t x=>
    simp only[hop]at hc;split at hc
    ·split at hc
     ·cases hc;simp[COp.isRead]at hro
     ·cases hc
    ·cases hc;simp[COp.isRead]at hro
  | makeFunc fn first caps=>
    cases fn <;> simp only[hop]at hc <;> try (cases hc;done)
    split at hc
    ·cases hc;simp[COp.isRead]at hro
    ·cases hc
  | makeMap t r=>
    cases r with
    | some r=>simp[hop]at hc
    | none=>
      simp only[hop]at hc;cases hc;simp only[aP,jy,qkB]at hv;split at hv
      ·exact qag hst hop hv
      ·exact hv.elim
  | makeChan t r=>simp[hop]at hc
  | slice t x lo hi mx=>
    cases mx with
    | some m=>simp[hop]at hc
    | none=>
      simp only[hop,qjB]at hc;split at hc
      ·simp only[qjy,qjO]at hc;obtain⟨n,hn,rfl⟩:=hc;simp[COp.isRead]at hro
      ·cases hc;simp[COp.isRead]at hro
      ·cases hc
  | fieldAddr t x f=>
    simp only[hop,qjB]at hc;split at hc
    ·simp only[qjy]at hc;obtain⟨fd,hf,sz,hs,hc⟩:=hc;split at hc
     ·cases hc;simp[COp.isRead]at hro
     ·cases hc
    ·cases hc
  | field t x f=>
    simp only[hop,qjB]at hc;split at hc
    ·simp only[qjy]at hc;obtain⟨fd,hf,agg,ha,sz,hs,hc⟩:=hc;split at hc
     ·cases hc;simp[COp.isRead]at hro
     ·cases hc
    ·cases hc
  | indexAddr t x i=>
    simp only[hop,qjB]at hc;split at hc
    ·simp only[qjy,qjO]at hc;obtain⟨n,hn,rfl⟩:=hc;simp[COp.isRead]at hro
    ·split at hc
     ·simp only[qjy]at hc;obtain⟨sz,hs,hc⟩:=hc;split at hc
      ·cases hc;simp[COp.isRead]at hro
      ·cases hc
     ·simp only[qjy,qjO]at hc;obtain⟨sz,hs,rfl⟩:=hc;simp[COp.isRead,MOp.isRead]at hro
    ·cases hc
  | index t x i=>
    simp only[hop]at hc;split at hc
    ·cases hc;simp[COp.isRead]at hro
    ·cases hc
  | lookup t x i b=>
    simp only[hop]at hc;split at hc
    ·simp only[qjB,qjy]at hc;obtain⟨⟨ka,ks⟩,hkt,z,hz,agg,ha,hc⟩:=hc;split at hc
     ·cases hc;simp[COp.isRead,MOp.isRead]at hro
     ·cases hc
    ·cases hc
  | mapUpdate t m k v=>
    simp only[hop]at hc;split at hc
    ·rename_i kt et hu;simp only[qjB,qjy]at hc;obtain⟨⟨ka,ks⟩,hkt,hc⟩:=hc;cases hc;exact Q3 hst (.inl hop) hu (uB hkt) (hev m (by simp[hop,Op.operands])) (hev k (by simp[hop,Op.operands])) (hev v (by simp[hop,Op.operands])) hv
    ·cases hc
  | mapEntry t m k=>simp[hop]at hc
  | entryStore t m k v=>simp[hop]at hc
  | range t x=>
    simp only[hop]at hc;split at hc
    ·rename_i h1;cases hc;simp only[aP]at hv;split at hv
     ·rename_i t' s e1 e2;have hx:=hev x (by simp[hop,Op.operands]);rw[e2]at hx;exact OK hst hop h1 hx.inv_v hv
     ·exact hv.elim
    ·rename_i h1;cases hc;cases hd:o.dst with
     | none=>
       rw[hd]at hv;simp only[aP,jy,qj2,qkB]at hv
     | some t'=>exact Xi hst hop h1 (hev x (by simp[hop,Op.operands])) hd hv
    ·cases hc
  | next x b=>
    cases b with
    | false=>
      simp only[hop]at hc;cases hc;exact Um hst hop (hev x (by simp[hop,Op.operands])) hv
    | true=>
      simp only[hop]at hc;cases hc;exact Q5 hst hop (hev x (by simp[hop,Op.operands])) hv
  | entry x=>simp only[hop]at hc;cases hc;simp[COp.isRead,MOp.isRead]at hro
  | typeAssert x s t b=>simp[hop]at hc
  | extract x i=>simp only[hop]at hc;cases hc;simp[COp.isRead]at hro
  | go q=>simp[hop]at hc
  | defer q=>simp[hop]at hc
  | panic x=>
    simp only[hop]at hc;split at hc
    ·cases hc;simp[COp.isCall]at hnc
    ·cases hc;simp[COp.isRead]at hro
  | send x y=>simp[hop]at hc
  | recv t x b=>simp[hop]at hc
  | select cs b=>simp[hop]at hc
end
end Go.Gv
