/- S7 -/
import Derived.Test.YtfpmgnnippjblaaGreatDoorGc05
set_option linter.all false
namespace Go.Gv
section
variable {P:Program}{im:List Nat}{o:Oper}{c:COp}{a:Act}{E:BU}{tp:Nat->Prop}{H:ab}{w:World}{σ:Sg}
def nZ(hc:cV P im o=some c):o.op.operands.toList.all BO=true:=by
 grind [cV]
theorem qcE{K:D->Prop}{Hr:ab}(hc:cV P im o=some c)(A:c.isRead=true)(W:StW E tp H w)(hr:∀t,R tp (be E.O tp H w) w (a.tmps.getD t undef) (σ t))
 (S:∀i r,Hr i=some r->H i=some r) (j:ak c σ Hr K):GoodN P o a E tp H w K:=by
 have hops:=nZ hc;have J:∀i r,H i=some r->ResOk (R tp (be E.O tp H w) w) w r:=W.sat.ok;unfold cV at hc;rw[if_neg (by grind)]at hc;have h:∀x,x∈o.op.operands->R tp (be E.O tp H w) w (a.eval x) (ev σ x):=λx L=>qdj hr x (qGa.1 hops x (by grind))
 cases d:o.op with
 | move x=>
   simp[d]at hc;cases hc;exact(qeX (.inl d) (h x (by grind [StW,Op.operands])) j).toN
 | assign x=>
   simp[d]at hc;cases hc;exact(qeX (.inr d) (h x (by grind [StW,Op.operands])) j).toN
 | pick q x y=>
   simp[d]at hc;cases hc;exact(qgX d (h q (by simp[d,Op.operands])) (h x (by simp[d,Op.operands])) (h y (by simp[d,Op.operands])) j).toN
 | alloc el=>
   simp[d,qF5,qF3,qGh]at hc;obtain⟨z,_,rfl⟩:=hc;simp[COp.isRead]at A
 | box el x=>
   simp[d]at hc;split at hc
   ·cases hc;cases A
   cases hc;cases hcon:qk8 im o.dst with
   |false=>rw[hcon]at A;cases A
   | true=>
     rw[hcon]at j;exact qg3 W d (h x (by simp[d,Op.operands])) j
 | build t parts=>
   simp only[d,qF5,qF3]at hc;obtain⟨z,hz,hc⟩:=hc;split at hc
   ·rename_i fs C;obtain⟨ps,M,hc⟩:=qF3.1 hc;split at hc
    ·rename_i hall;cases hc;exact(qc5 d hz C (by simpa using M) hall (λp hp=>h p.2 (by
      simp only[d,Op.operands];simp only[List.mem_toArray,qGd];exact⟨p,hp,rfl⟩)) j).toN
    ·cases hc
   ·rename_i len el C;simp[qF3]at hc;obtain⟨sz,hs,ps,M,hc⟩:=hc;cases hc;exact(qar d hz C hs M (λp hp=>h p.2 (by
     simp only[d,Op.operands];simp only[List.mem_toArray,qGd];exact⟨p,hp,rfl⟩)) j).toN
   ·cases hc
 | buildSlice t len parts=>
   simp only[d,qF5]at hc;split at hc
   ·rename_i el C;simp only[qF3]at hc;obtain⟨n,hn,z,hz,ps,M,hc⟩:=hc;split at hc
    ·rename_i U;simp only[qF9,decide_eq_true_eq]at U;split at hc
     ·cases hc;simp[COp.isRead]at A
     ·rename_i hl0;split at hc
      ·cases hc;simp[COp.isRead]at A
      cases hc;refine qas W d C hn hz M U.1 U.2 hl0 (λx L=>h x ?_) j;unfold yD at M;split at M
      ·cases M;simp only[d,Op.operands];simpa using L
      ·cases M
    ·cases hc
   ·cases hc
 | insert t m k v=>
   simp only[d]at hc;split at hc
   ·simp only[qF5,qF3]at hc;obtain⟨⟨ka,ks⟩,Z,hc⟩:=hc;cases hc;simp[COp.isRead,MOp.isRead]at A
   ·cases hc
 | load t x=>
   simp only[d,qF5,qF3]at hc;obtain⟨agg,ha,sz,hs,hc⟩:=hc;split at hc
   ·rename_i h1;cases hc;exact(Tx d ha hs (by simpa using h1) (h x (by simp[d,Op.operands])) S J j).toN
   ·cases hc
 | store t x y=>
   simp only[d,qF5,qF3,qGh]at hc;obtain⟨z,_,rfl⟩:=hc;simp[COp.isRead]at A
 |ready g=>simp[d]at hc
 |waits g=>simp[d]at hc
 | nilCheck x=>
   simp only[d]at hc;cases hc;exact(qc1 d (h x (by simp[d,Op.operands])) j).toN
 | binOp op t x y u=>
   simp only[d]at hc;have L:=h x (by simp[d,Op.operands]);have Q:=h y (by simp[d,Op.operands]);split at hc
   ·split at hc
    ·cases hc;exact(iT d (.inl rfl) L Q j).toN
    ·split at hc
     ·cases hc;exact(qgV d L Q j).toN
     ·cases hc
   ·split at hc
    ·cases hc;exact(iT d (by simp) L Q j).toN
    ·cases hc
   ·split at hc
    ·cases hc;exact(iT d (by simp) L Q j).toN
    ·cases hc
   ·split at hc
    ·cases hc;exact(iT d (by simp) L Q j).toN
    ·cases hc
   ·split at hc
    ·cases hc;exact(iT d (by simp) L Q j).toN
    ·cases hc
   ·split at hc
    ·cases hc;exact(iT d (by simp) L Q j).toN
    ·cases hc
   ·split at hc
    ·cases hc;exact(iT d (by simp) L Q j).toN
    ·cases hc
   ·split at hc
    ·cases hc;exact(iT d (by simp) L Q j).toN
    ·cases hc
   ·split at hc
    ·cases hc;exact(iT d (by simp) L Q j).toN
    ·cases hc
   iterate 4
    ·split at hc
     ·cases hc;exact(qaq d L Q j).toN
     ·split at hc
      ·cases hc;exact(qaq d L Q j).toN
      ·cases hc
   ·exact(qap (neg:=false) (by simpa using d) hc L Q j).toN
   ·exact(qap (neg:=true) (by simpa using d) hc L Q j).toN
   ·cases hc
 | unOp op t x=>
   cases op<;>simp only[d]at hc<;>cases hc
   ·exact(qkq d (h x (by simp[d,Op.operands])) j).toN
   ·exact(qkp d (h x (by simp[d,Op.operands])) j).toN
 | convert s t x=>
   simp only[d]at hc;split at hc
   ·rename_i k0 k h1 h2;cases hc;exact(qg1 d h1 h2 (h x (by simp[d,Op.operands])) j).toN
   ·rename_i k0 h1 h2;cases hc;exact(qgW d h1 h2 (h x (by simp[d,Op.operands])) j).toN
   ·rename_i el h1 h2;split at hc
    ·rename_i h3;cases hc;exact qao W d h1 h2 h3 (h x (by simp[d,Op.operands])) j
    ·rename_i h3;cases hc;exact qan W d h1 h2 h3 (h x (by simp[d,Op.operands])) j
    ·cases hc
   ·rename_i el h1 h2;split at hc
    ·rename_i h3;cases hc;exact(qg2 d h1 h2 h3 (h x (by simp[d,Op.operands])) S J j).toN
    ·cases hc
   ·cases hc
 |sliceToArrayPointer t x=>simp[d]at hc
 | makeInterface t x=>
   simp only[d]at hc;split at hc
   ·split at hc
    ·rename_i fs ht;cases hc;exact(qgZ d ht (h x (by simp[d,Op.operands])) j).toN
    ·cases hc
   ·cases hc;exact False.elim j
 | makeFunc fn first caps=>
   cases fn<;>simp only[d]at hc<;>try (cases hc;done)
   split at hc
   ·rename_i hf;cases hc;exact(qku d hf (λx L=>h x (by simp only[d,Op.operands];simp;right;simpa using L)) j).toN
   ·cases hc
 | makeMap t r=>
   cases r with
   |some r=>simp[d]at hc
   |none=>simp only[d]at hc;cases hc;simp[COp.isRead,MOp.isRead]at A
 |makeChan t r=>simp[d]at hc
 | makeSlice t l k=>
   simp only[d,qF5]at hc;split at hc
   ·simp only[qF3]at hc;obtain⟨n,hn,z,hz,agg,ha,hc⟩:=hc;split at hc
    ·cases hc;simp[COp.isRead]at A
    ·cases hc
   ·cases hc
 | slice t x lo hi mx=>
   cases mx with
   |some m=>simp[d]at hc
   | none=>
     simp only[d,qF5]at hc;have L:=h x (by simp[d,Op.operands]);have hlo:∀y,lo=some y->R tp (be E.O tp H w) w (a.eval y) (ev σ y):=λy Q=>h y (by subst Q;simp[d,Op.operands])
     have hhi:∀y,hi=some y->R tp (be E.O tp H w) w (a.eval y) (ev σ y):=λy Q=>h y (by subst Q;simp[d,Op.operands])
     split at hc
     ·rename_i el C;simp only[qF3,qGh]at hc;obtain⟨n,hn,rfl⟩:=hc;exact(qc0 d C hn L hlo hhi S J j).toN
     ·rename_i C;cases hc;exact(qam d C L hlo hhi j).toN
     ·cases hc
 | fieldAddr t x f=>
   simp only[d,qF5]at hc;split at hc
   ·rename_i fs C;simp only[qF3]at hc;obtain⟨fd,hf,sz,hs,hc⟩:=hc;split at hc
    ·rename_i h0;cases hc;exact(qc3 d C hf hs h0 (h x (by simp[d,Op.operands])) j).toN
    ·cases hc
   ·cases hc
 | field t x f=>
   simp only[d,qF5]at hc;split at hc
   ·rename_i fs C;simp only[qF3]at hc;obtain⟨fd,hf,agg,ha,sz,hs,hc⟩:=hc;split at hc
    ·rename_i h1;cases hc;exact(qks d C hf ha hs (by simpa using h1) (h x (by simp[d,Op.operands])) j).toN
    ·cases hc
   ·cases hc
 | indexAddr t x i=>
   simp only[d,qF5]at hc;split at hc
   ·rename_i el C;simp only[qF3,qGh]at hc;obtain⟨n,hn,rfl⟩:=hc;exact(qc2 d C hn (h x (by simp[d,Op.operands])) (h i (by simp[d,Op.operands])) S J j).toN
   ·rename_i len el C;split at hc
    ·simp only[qF3]at hc;obtain⟨sz,hs,hc⟩:=hc;split at hc
     ·rename_i h0;cases hc;exact(qc6 d C hs h0 (h x (by simp[d,Op.operands])) j).toN
     ·cases hc
    ·simp only[qF3,qGh]at hc;obtain⟨sz,hs,rfl⟩:=hc;exact(qg4 d C hs (h x (by simp[d,Op.operands])) (h i (by simp[d,Op.operands])) j).toN
   ·cases hc
 | index t x i=>
   simp only[d]at hc;split at hc
   ·rename_i C;cases hc;exact(qgU d C (h x (by simp[d,Op.operands])) (h i (by simp[d,Op.operands])) j).toN
   ·cases hc
 | lookup t x i b=>
   simp only[d]at hc;split at hc
   ·rename_i kt et C;simp only[qF5,qF3]at hc;obtain⟨⟨ka,ks⟩,Z,z,hz,agg,ha,hc⟩:=hc;split at hc
    ·rename_i hag;cases hc;exact(qg0 d C (Eb Z) hz hag (h x (by simp[d,Op.operands])) (h i (by simp[d,Op.operands])) S J j).toN
    ·cases hc
   ·cases hc
 | mapUpdate t m k v=>
   simp only[d]at hc;split at hc
   ·simp only[qF5,qF3]at hc;obtain⟨⟨ka,ks⟩,Z,hc⟩:=hc;cases hc;simp[COp.isRead,MOp.isRead]at A
   ·cases hc
 |mapEntry t m k=>simp[d]at hc
 |entryStore t m k v=>simp[d]at hc
 | range t x=>
   simp only[d]at hc;split at hc
   ·cases hc;simp[COp.isRead]at A
   ·cases hc;simp[COp.isRead,MOp.isRead]at A
   ·cases hc
 | next x b=>
   cases b with
   |false=>simp only[d]at hc;cases hc;simp[COp.isRead,MOp.isRead]at A
   | true=>
     simp only[d]at hc;cases hc;simp[COp.isRead]at A
 | entry x=>
   simp only[d]at hc;cases hc;exact(qc4 d (h x (by simp[d,Op.operands])) S J j).toN
 |typeAssert x s t b=>simp[d]at hc
 | extract x i=>
   simp only[d]at hc;cases hc;exact(qkt d (h x (by simp[d,Op.operands])) j).toN
 | call q=>
   have I:∀x∈q.args.toList,R tp (be E.O tp H w) w (a.eval x) (ev σ x):=λx L=>h x (by
    simp only[d,Op.operands,Call.operands];simp;right;simpa using L)
   simp only[d]at hc;split at hc
   ·split at hc<;>cases hc;rw[qa6]at A;cases A
   ·cases hc;simp[COp.isRead]at A
   ·rename_i F;split at hc
    ·rename_i t x Y N;split at hc
     ·rename_i el C;cases hc;exact(qkr d F Y N C (I x (by rw[N];simp)) S J j).toN
     ·rename_i C;cases hc;exact(qgT d F Y N C (I x (by rw[N];simp)) j).toN
     ·rename_i kt et C;cases hc;exact(qgY d F Y N C (I x (by rw[N];simp)) S J j).toN
     ·cases hc
    ·cases hc
   ·rename_i F;cases hc;exact(qeY (mx:=false) d (by simpa using F) I j).toN
   ·rename_i F;cases hc;exact(qeY (mx:=true) d (by simpa using F) I j).toN
   ·split at hc
    ·split at hc
     ·split at hc
      ·simp only[qF5,qF3]at hc;obtain⟨n,hn,z,hz,hc⟩:=hc;split at hc
       ·cases hc;simp[COp.isRead]at A
       ·cases hc
      ·cases hc
     ·split at hc
      ·simp only[qF5,qF3]at hc;obtain⟨n,hn,z,hz,agg,ha,hc⟩:=hc;split at hc
       ·cases hc;simp[COp.isRead]at A
       ·cases hc
      ·simp only[qF5,qF3]at hc;obtain⟨n,hn,z,hz,hc⟩:=hc;split at hc
       ·cases hc;simp[COp.isRead]at A
       ·cases hc
      ·cases hc
    ·cases hc
   ·split at hc
    ·split at hc
     ·simp only[qF5,qF3]at hc;obtain⟨n,hn,z,hz,agg,ha,hc⟩:=hc;split at hc
      ·cases hc;simp[COp.isRead]at A
      ·cases hc
     ·cases hc
    ·cases hc
   ·split at hc
    ·split at hc
     ·split at hc
      ·simp only[qF5,qF3]at hc;obtain⟨n,hn,hc⟩:=hc;split at hc
       ·cases hc;simp[COp.isRead]at A
       ·cases hc
      ·cases hc
     ·cases hc
    ·cases hc
   ·rename_i F;split at hc
    ·rename_i t x Y N;split at hc
     ·rename_i el C;cases hc;exact(qkv d F Y N C (I x (by rw[N];simp)) j).toN
     ·cases hc
    ·cases hc
   ·split at hc
    ·split at hc
     ·simp only[qF5,qF3]at hc;obtain⟨⟨ka,ks⟩,Z,hc⟩:=hc;cases hc;simp[COp.isRead,MOp.isRead]at A
     ·cases hc
    ·cases hc
   ·cases hc
 |go q=>simp[d]at hc
 |defer q=>simp[d]at hc
 | panic x=>
   simp only[d]at hc;split at hc
   ·cases hc;simp[COp.isRead]at A
   ·cases hc;exact False.elim j
 |send x y=>simp[d]at hc
 |recv t x b=>simp[d]at hc
 |select cs b=>simp[d]at hc
def qgm{K:D->ab->Prop}(b:c.isRead=true)(h:bj c o.dst σ H K):ak c σ H λd=>K d H:=by
 cases c<;>first|exact h|(simp[COp.isRead]at b)|skip
 ·rename_i el im x;cases im<;>simp_all [bj]
 ·rename_i j xs;cases j<;>first|(simp[MOp.isRead]at b;done)|exact h
theorem qjD{K:D->ab->Prop}(hc:cV P im o=some c)(W:c.isCall=false)(I:StW E tp H w)(hr:∀t,R tp (be E.O tp H w) w (a.tmps.getD t undef) (σ t))
 (C:bj c o.dst σ H K):de P o a E tp H w K:=by
 by_cases p:c.isRead=true
 ·exact GoodN.og I (qcE hc p I hr (λ_ _ h=>h) (qgm p C)) (λd h=>h)
 ·have hops:=nZ hc;unfold cV at hc;rw[if_neg (by grind)]at hc;have L:∀x,x∈o.op.operands->R tp (be E.O tp H w) w (a.eval x) (ev σ x):=λx Z=>qdj hr x (qGa.1 hops x (by grind))
  cases j:o.op with
  | alloc el=>
    simp[j,qF5,qF3,qGh]at hc;obtain⟨z,hz,rfl⟩:=hc;simp[bj]at C;split at C
    ·exact qjN I j hz C
    grind
  | box el x=>
    simp[j]at hc;split at hc
    ·cases hc;simp[bj]at C;split at C
     ·exact qre I j (L x (by simp[j,Op.operands])) C.1 C.2
     ·exact C.elim
    cases hc;cases Y:qk8 im o.dst with
    |true=>rw[Y]at p;exact absurd rfl p
    |false=>
    rw[Y]at C;simp[bj]at C;split at C
    ·exact qrh I j (L x (by simp[j,Op.operands])) C.1 C.2
    ·exact C.elim
  | buildSlice t len parts=>
    simp only[j,qF5]at hc;split at hc
    ·rename_i el Q;simp only[qF3]at hc;obtain⟨n,hn,z,hz,ps,N,hc⟩:=hc;split at hc
     ·rename_i A;split at hc
      ·rename_i hl0;subst hl0;cases hc;simp[bj]at C;have:ps=[]:=by
        unfold yD at N;split at N
        ·rename_i h;have h':parts.toList=[]:=by simpa using h
         rw[h']at N;simpa using N.symm
        ·cases N
       subst this;split at C
       ·exact qgv I j Q hn hz N C
       ·exact C.elim
      ·rename_i hl0;simp[qF9,decide_eq_true_eq]at A;split at hc
       ·cases hc;simp[bj]at C;split at C
        ·refine qgw I j Q hn hz N A.1 A.2 hl0 (λx Z=>L x ?_) C.1 C.2;unfold yD at N;split at N
         ·cases N;simp[j,Op.operands];simpa using Z
         ·cases N
        ·exact C.elim
       ·cases hc;simp[COp.isRead]at p
     ·cases hc
    ·cases hc
  | store t x y=>
    simp[j,qF5,qF3,qGh]at hc;obtain⟨sz,hs,rfl⟩:=hc;exact qjJ I j hs (L x (by simp[j,Op.operands])) (L y (by simp[j,Op.operands])) C
  | makeSlice t l k=>
    simp only[j,qF5]at hc;split at hc
    ·rename_i el Q;simp only[qF3]at hc;obtain⟨n,hn,z,hz,agg,ha,hc⟩:=hc;split at hc
     ·rename_i A;simp only[qF9,decide_eq_true_eq]at A;cases hc;simp only[bj]at C;split at C
      ·split at C
       ·rename_i e1 e2;have h1:=L l (by simp[j,Op.operands]);have h2:=L k (by simp[j,Op.operands]);rw[DU e1]at h1;rw[DU e2]at h2;obtain⟨h0,hlc,hb,h63,hk⟩:=C;exact qcO I j Q hn hz A.1 (by simpa using A.2) h1.inv_v h2.inv_v h0 hlc hb h63 hk
       ·exact C.elim
      ·exact C.elim
     ·cases hc
    ·cases hc
  | call q=>
    have F:∀x∈q.args.toList,R tp (be E.O tp H w) w (a.eval x) (ev σ x):=λx Z=>L x (by
     simp only[j,Op.operands,Call.operands];simp;right;simpa using Z)
    simp only[j]at hc;split at hc
    ·split at hc<;>cases hc;rw[qa7]at W;cases W
    ·cases hc;simp[COp.isCall]at W
    ·split at hc
     ·split at hc
      ·cases hc;simp[COp.isRead]at p
      ·cases hc;simp[COp.isRead]at p
      ·cases hc;simp[COp.isRead,MOp.isRead]at p
      ·cases hc
     ·cases hc
    ·cases hc;simp[COp.isRead]at p
    ·cases hc;simp[COp.isRead]at p
    ·rename_i M;split at hc
     ·rename_i t u x y S J;split at hc
      ·rename_i htu;subst htu;split at hc
       ·rename_i el Q;simp only[qF5,qF3]at hc;obtain⟨n,hn,z,hz,hc⟩:=hc;split at hc
        ·rename_i h0;cases hc;exact Ti I j M S J Q (.inl ⟨_,Q⟩) hn hz rfl h0 (F x (by rw[J];simp)) (F y (by rw[J];simp)) C
        ·cases hc
       ·cases hc
      ·split at hc
       ·rename_i el kn Q hu2;simp only[qF5,qF3]at hc;obtain⟨n,hn,z,hz,agg,ha,hc⟩:=hc;split at hc
        ·rename_i A;simp only[qF9,decide_eq_true_eq]at A;cases hc;exact qjM I j M S J Q hu2 hn hz A.1 (by simpa using A.2) (F x (by rw[J];simp)) (F y (by rw[J];simp)) C
        ·cases hc
       ·rename_i el Q hu2;simp only[qF5,qF3]at hc;obtain⟨n,hn,z,hz,hc⟩:=hc;split at hc
        ·rename_i h0;cases hc;exact Ti I j M S J Q (.inr hu2) hn hz rfl (by omega) (F x (by rw[J];simp)) (F y (by rw[J];simp)) C
        ·cases hc
       ·cases hc
     ·cases hc
    ·rename_i M;split at hc
     ·rename_i t x S J;split at hc
      ·rename_i el Q;simp only[qF5,qF3]at hc;obtain⟨n,hn,z,hz,agg,ha,hc⟩:=hc;split at hc
       ·rename_i A;simp only[qF9,decide_eq_true_eq]at A;cases hc;exact qjL I j M S J Q hn hz A.1 (by simpa using A.2) (F x (by rw[J];simp)) C
       ·cases hc
      ·cases hc
     ·cases hc
    ·rename_i M;split at hc
     ·rename_i t u x y S J;split at hc
      ·rename_i htu;subst htu;split at hc
       ·rename_i el Q;simp only[qF5,qF3]at hc;obtain⟨n,hn,hc⟩:=hc;split at hc
        ·rename_i h0;cases hc;exact qnL I j M S J Q hn h0 (F x (by rw[J];simp)) (F y (by rw[J];simp)) C
        ·cases hc
       ·cases hc
      ·cases hc
     ·cases hc
    ·split at hc
     ·split at hc
      ·cases hc;simp[COp.isRead]at p
      ·cases hc
     ·cases hc
    ·rename_i M;split at hc
     ·rename_i t u x y S J;split at hc
      ·rename_i kt et Q;simp only[qF5,qF3]at hc;obtain⟨⟨ka,ks⟩,U,hc⟩:=hc;cases hc;exact qrg I j M S J Q (Eb U) (F x (by rw[J];simp)) (F y (by rw[J];simp)) C
      ·cases hc
     ·cases hc
    ·cases hc
  |move x=>simp only[j]at hc;cases hc;simp[COp.isRead]at p
  |assign x=>simp only[j]at hc;cases hc;simp[COp.isRead]at p
  |pick q x y=>simp only[j]at hc;cases hc;simp[COp.isRead]at p
  | build t parts=>
    simp only[j,qF5,qF3]at hc;obtain⟨z,hz,hc⟩:=hc;split at hc
    ·obtain⟨ps,N,hc⟩:=qF3.1 hc;split at hc
     ·cases hc;simp[COp.isRead]at p
     ·cases hc
    ·simp only[qF3]at hc;obtain⟨sz,hs,ps,N,hc⟩:=hc;cases hc;simp[COp.isRead]at p
    ·cases hc
  | insert t m k v=>
    simp only[j]at hc;split at hc
    ·rename_i kt et Q;simp only[qF5,qF3]at hc;obtain⟨⟨ka,ks⟩,U,hc⟩:=hc;cases hc;exact qjI I (.inr j) Q (Eb U) (L m (by simp[j,Op.operands])) (L k (by simp[j,Op.operands])) (L v (by simp[j,Op.operands])) C
    ·cases hc
  | load t x=>
    simp only[j,qF5,qF3]at hc;obtain⟨agg,ha,sz,hs,hc⟩:=hc;split at hc
    ·cases hc;simp[COp.isRead]at p
    ·cases hc
  |ready g=>simp[j]at hc
  |waits g=>simp[j]at hc
  |nilCheck x=>simp only[j]at hc;cases hc;simp[COp.isRead]at p
  | binOp op t x y u=>
    exfalso;simp only[j]at hc;unfold oa at hc
    (repeat' split at hc)<;>first
      |(cases hc;done)
      |(cases hc;simp[COp.isRead]at p;done)
      | (cases hks:A5 P t with
         |none=>simp[hks]at hc
         |some ks=>simp[hks]at hc;subst hc;simp[COp.isRead]at p)
  | unOp op t x=>
    exfalso;cases op<;>simp only[j]at hc<;>first|(cases hc;done)|(cases hc;simp[COp.isRead]at p;done)
  | convert s t x=>
    simp only[j]at hc;split at hc
    ·cases hc;simp[COp.isRead]at p
    ·cases hc;simp[COp.isRead]at p
    ·split at hc
     ·cases hc;simp[COp.isRead]at p
     ·cases hc;simp[COp.isRead]at p
     ·cases hc
    ·split at hc
     ·cases hc;simp[COp.isRead]at p
     ·cases hc
    ·cases hc
  |sliceToArrayPointer t x=>simp[j]at hc
  | makeInterface t x=>
    simp only[j]at hc;split at hc
    ·split at hc
     ·cases hc;simp[COp.isRead]at p
     ·cases hc
    ·cases hc;simp[COp.isRead]at p
  | makeFunc fn first caps=>
    cases fn<;>simp only[j]at hc<;>try (cases hc;done)
    split at hc
    ·cases hc;simp[COp.isRead]at p
    ·cases hc
  | makeMap t r=>
    cases r with
    |some r=>simp[j]at hc
    | none=>
      simp only[j]at hc;cases hc;simp only[bj,iR,qHj]at C;split at C
      ·exact quA I j C
      ·exact C.elim
  |makeChan t r=>simp[j]at hc
  | slice t x lo hi mx=>
    cases mx with
    |some m=>simp[j]at hc
    | none=>
      simp only[j,qF5]at hc;split at hc
      ·simp only[qF3,qGh]at hc;obtain⟨n,hn,rfl⟩:=hc;simp[COp.isRead]at p
      ·cases hc;simp[COp.isRead]at p
      ·cases hc
  | fieldAddr t x f=>
    simp only[j,qF5]at hc;split at hc
    ·simp only[qF3]at hc;obtain⟨fd,hf,sz,hs,hc⟩:=hc;split at hc
     ·cases hc;simp[COp.isRead]at p
     ·cases hc
    ·cases hc
  | field t x f=>
    simp only[j,qF5]at hc;split at hc
    ·simp only[qF3]at hc;obtain⟨fd,hf,agg,ha,sz,hs,hc⟩:=hc;split at hc
     ·cases hc;simp[COp.isRead]at p
     ·cases hc
    ·cases hc
  | indexAddr t x i=>
    simp only[j,qF5]at hc;split at hc
    ·simp only[qF3,qGh]at hc;obtain⟨n,hn,rfl⟩:=hc;simp[COp.isRead]at p
    ·split at hc
     ·simp only[qF3]at hc;obtain⟨sz,hs,hc⟩:=hc;split at hc
      ·cases hc;simp[COp.isRead]at p
      ·cases hc
     ·simp only[qF3,qGh]at hc;obtain⟨sz,hs,rfl⟩:=hc;simp[COp.isRead,MOp.isRead]at p
    ·cases hc
  | index t x i=>
    simp only[j]at hc;split at hc
    ·cases hc;simp[COp.isRead]at p
    ·cases hc
  | lookup t x i b=>
    simp only[j]at hc;split at hc
    ·simp only[qF5,qF3]at hc;obtain⟨⟨ka,ks⟩,U,z,hz,agg,ha,hc⟩:=hc;split at hc
     ·cases hc;simp[COp.isRead,MOp.isRead]at p
     ·cases hc
    ·cases hc
  | mapUpdate t m k v=>
    simp only[j]at hc;split at hc
    ·rename_i kt et Q;simp only[qF5,qF3]at hc;obtain⟨⟨ka,ks⟩,U,hc⟩:=hc;cases hc;exact qjI I (.inl j) Q (Eb U) (L m (by simp[j,Op.operands])) (L k (by simp[j,Op.operands])) (L v (by simp[j,Op.operands])) C
    ·cases hc
  |mapEntry t m k=>simp[j]at hc
  |entryStore t m k v=>simp[j]at hc
  | range t x=>
    simp only[j]at hc;split at hc
    ·rename_i h1;cases hc;simp only[bj]at C;split at C
     ·rename_i t' s e1 e2;have Z:=L x (by simp[j,Op.operands]);rw[e2]at Z;exact qgu I j h1 Z.inv_v C
     ·exact C.elim
    ·rename_i h1;cases hc;cases hd:o.dst with
     | none=>
       rw[hd]at C;simp only[bj,iR,qGG,qHj]at C
     |some t'=>exact qrf I j h1 (L x (by simp[j,Op.operands])) hd C
    ·cases hc
  | next x b=>
    cases b with
    | false=>
      simp only[j]at hc;cases hc;exact qnK I j (L x (by simp[j,Op.operands])) C
    | true=>
      simp only[j]at hc;cases hc;exact qjK I j (L x (by simp[j,Op.operands])) C
  |entry x=>simp only[j]at hc;cases hc;simp[COp.isRead,MOp.isRead]at p
  |typeAssert x s t b=>simp[j]at hc
  |extract x i=>simp only[j]at hc;cases hc;simp[COp.isRead]at p
  |go q=>simp[j]at hc
  |defer q=>simp[j]at hc
  | panic x=>
    simp only[j]at hc;split at hc
    ·cases hc;simp[COp.isCall]at W
    ·cases hc;simp[COp.isRead]at p
  |send x y=>simp[j]at hc
  |recv t x b=>simp[j]at hc
  |select cs b=>simp[j]at hc
end
variable {dq:Prop}
def dH(P:Program)(f:Nat):Prop:=∀(args:Array Value) (w:World),(callFunc f args).run P w= .ok (.enter f args) w
def qdM(dq:Prop)(O tp:Nat->Prop)(H:ab)(w:World)(K:D->ab->Prop)(e:Ending)(w':World):Prop:=
 ∃x r H' d,e= .returned x/\K r H'/\(∀b,tp b->d b)/\(∀b,d b->tp b\/w.heap.size<=b)/\(∀b,d b->b<w'.heap.size)/\
  Step dq tp (bG H) w w'/\(∀b,bG H' b->bG H b\/w.heap.size<=b)/\qtM O d H' w'/\R d (be O d H' w') w' x r
def Tri(dq:Prop)(P:Program)(f:Nat)(A:PT):Prop:=
 ∀ (O tp:Nat->Prop) (w:World) (vs:List Value) (ds:List D) (H:ab) (d:Nat) (K:D->ab->Prop),
  (∀b,O b->b<w.heap.size)->TpG tp (bG H) w->qtM O tp H w->vs.length=ds.length->
  (∀(k:Nat) (x:Value) (c:D),vs[k]? =some x->ds[k]? =some c->R tp (be O tp H w) w x c)->A d ds H K->
  dH P f/\Calls P f vs.toArray w (qdM dq O tp H w K)
def qwT(dq:Prop)(z:List PanicEntry->Prop)(O tp:Nat->Prop)(H:ab)(w:World)(K:D->ab->Prop)(e:Ending)(w':World):Prop:=
 qdM dq O tp H w K e w'\/ ∃c,e= .panicked c/\z c/\Step dq tp (bG H) w w'
def TriZ(dq:Prop)(z:List PanicEntry->Prop)(P:Program)(f:Nat)(A:PT):Prop:=
 ∀ (O tp:Nat->Prop) (w:World) (vs:List Value) (ds:List D) (H:ab) (d:Nat) (K:D->ab->Prop),
  (∀b,O b->b<w.heap.size)->TpG tp (bG H) w->qtM O tp H w->vs.length=ds.length->
  (∀(k:Nat) (x:Value) (c:D),vs[k]? =some x->ds[k]? =some c->R tp (be O tp H w) w x c)->A d ds H K->
  dH P f/\Calls P f vs.toArray w (qwT dq z O tp H w K)
def Z2:List PanicEntry->Prop:=λ_=>False
def Tri.z{z:List PanicEntry->Prop}{P:Program}{f:Nat}{A:PT}(h:Tri dq P f A):TriZ dq z P f A:=λO tp w vs ds H d K h1 h2 h3 h4 h5 h6=>
 ⟨(h O tp w vs ds H d K h1 h2 h3 h4 h5 h6).1,(h O tp w vs ds H d K h1 h2 h3 h4 h5 h6).2.mono λ_ _ h=> .inl h⟩
def TriZ.no{P:Program}{f:Nat}{A:PT}(h:TriZ dq Z2 P f A):Tri dq P f A:=λO tp w vs ds H d K h1 h2 h3 h4 h5 h6=>
 ⟨(h O tp w vs ds H d K h1 h2 h3 h4 h5 h6).1,(h O tp w vs ds H d K h1 h2 h3 h4 h5 h6).2.mono λ_ _ h=>h.elim id λ⟨_,_,h,_⟩=>h.elim⟩
def qdG(E:BU)(z:List PanicEntry->Prop)(c:List PanicEntry)(w':World):Prop:=z c/\Step E.dq E.tp0 E.own0 E.w0 w'
def StW.stepTo{E:BU}{tp:Nat->Prop}{H:ab}{w w':World}(h:StW E tp H w)(hs:Step E.dq tp (bG H) w w'):Step E.dq E.tp0 E.own0 E.w0 w':=by
 have k:E.w0.heap.size<=w.heap.size:=h.step.size;refine⟨hs.os.trans h.step.os,hs.tape.trans h.step.tape,hs.output.trans h.step.output,qGA k hs.size,λb hb ho j=>?_,λb hb=>(h.step.tapes b hb).trans (hs.tapes b (h.tpx b hb)),λq=>qGA (h.step.drawn q) (hs.drawn q)⟩;rw[hs.same b (by lia) (λd=>?_) (λl=>?_)]
 ·exact h.step.same b hb ho j
 ·rcases h.loc b d with h1|h1;grind;lia
 ·rcases h.tpn b l with h1|h1;grind;lia
def aI(S:Nat->Spc)(c:COp)(dst:Option Nat)(σ:Sg)(H:ab)(K:D->ab->Prop):Prop:=
 match c with
 | .call f args=>(S f).pt (dst.getD 0) (args.map (ev σ)) H K
 | .callb _ f args=>(S f).pt (dst.getD 0) (args.map (ev σ)) H K
 | .callv f args=>match ev σ f with
   | .clo g caps=>(S g).pt (dst.getD 0) (args.map (ev σ) ++caps) H K
   | _=>False
 |c=>bj c dst σ H K
def qwL(z:List PanicEntry->Prop)(P:Program)(A:PT):Prop:=P.funcs.size<=E6->∀(O tp:Nat->Prop) (w:World) (v:Value) (e:D) (H:ab) (d:Nat) (K:D->ab->Prop),
 (∀b,O b->b<w.heap.size)->TpG tp (bG H) w->qtM O tp H w->R tp (be O tp H w) w v e->A d [e] H K->(∃t x,v= .iface t x)/\z [{ v:=v,recovered:=false }]
def CallOk(dq:Prop)(P:Program)(z:List PanicEntry->Prop)(S:Nat->Spc):COp->Prop
 | .call f _=>if f=E6 then qwL z P (S E6).pt else TriZ dq z P f (S f).pt
 | .callv _ _=>∀g,TriZ dq z P g (S g).pt
 | .callb _ f _=>TriZ dq z P f (S f).pt
 | _=>True
theorem TriZ.up{z:List PanicEntry->Prop}{P:Program}{f:Nat}{A:PT}(h:TriZ dq Z2 P f A):TriZ dq z P f A:=h.no.z
theorem CallOk.up{z:List PanicEntry->Prop}{P:Program}{S:Nat->Spc}{c:COp}(h:CallOk dq P Z2 S c):CallOk dq P z S c:=by
 cases c<;>try exact trivial
 ·simp[CallOk]at h ⊢;split
  ·rename_i e;rw[if_pos e]at h;exactλa O tp w v b H d K h1 h2 h3 h4 h5=>((h a O tp w v b H d K h1 h2 h3 h4 h5).2).elim
  ·rename_i e;rw[if_neg e]at h;exact h.up
 all_goals grind [CallOk,TriZ.up]
def qhl{P:Program}{S:Nat->Spc}(h:∀f,Tri dq P f (S f).pt)(c:COp):CallOk dq P Z2 S c:=by
 cases c<;>try exact trivial
 ·rename_i f args;simp[CallOk];split
  ·intro b O tp w v e H d K h1 h2 h3 h4 h5
   let ⟨_,hc⟩:=h E6 O tp w [v] [e] H d K h1 h2 h3 rfl (λk x c q hc=>by
    grind) h5
   let ⟨s,w',fr,j,_,l,hl⟩:=hc []
   obtain⟨x,r,H',p,rfl,_⟩:=j
   let ⟨_,_,_,fn,t,_⟩:=hl
   grind
  ·exact(h f).z
 ·exactλg=>(h g).z
 ·exact(h _).z
section
variable {P:Program}{im:List Nat}{o:Oper}{c:COp}{a:Act}{E:BU}{tp:Nat->Prop}{H:ab}{w:World}{σ:Sg}{S:Nat->Spc}
theorem Xb{A:PT}{f:Nat}{vs:List Value}{ds:List D}{d:Nat}{K:D->ab->Prop}{z:List PanicEntry->Prop}(y:TriZ E.dq z P f A)(h:StW E tp H w)(C:a.defers=E.ds)(F:a.tmps.size=E.N)(I:∀t,R tp (be E.O tp H w) w (a.tmps.getD t undef) (σ t))
 (p:∀(g:Array Value) (w':World),(dH P f)->(execOp a.eval o).run P w= .ok (.enter f vs.toArray) w) (hlen:vs.length=ds.length)
 (j:∀(k:Nat) (x:Value) (e:D),vs[k]? =some x->ds[k]? =some e->R tp (be E.O tp H w) w x e) (J:A d ds H K) (q:∀t,o.dst=some t->t<E.N)
 {next:Act->World->Prop} {Q:Exit->Act->World->Prop} (s:∀c w',qdG E z c w'->Q (.panic c) a w') (l:∀r H' x w',K r H'->St E (fK σ o.dst r) H' (a.put o.dst x) w'->next (a.put o.dst x) w'):o.wp P a w next Q:=by
 let ⟨u,hc⟩:=y E.O tp w vs ds H d K (λb hb=>qGl (h.hO b hb) h.step.size) h.tpg h.sat hlen j J
 unfold Oper.wp;rw[p #[] w u];simp[Oper.upon];refine hc.mono ?_;rintro e w' (⟨x,r,H',L,rfl,hk,h1,h2,h3,h4,h5,h6,M⟩|⟨c,rfl,hz,hs⟩)
 rotate_left
 ·exact s c w' ⟨hz,h.stepTo hs⟩
 have hm:=h.move h4 h1 h2 h3 h5 h6;exact l r H' x w' hk (St.put C F I hm o.dst q M)
theorem qdx(d:∀t,R tp (be E.O tp H w) w (a.tmps.getD t undef) (σ t)){args:List Operand}(b:∀x∈args,BO x=true):
 ∀(k:Nat) (x:Value) (e:D),(args.map a.eval)[k]? =some x->(args.map (ev σ))[k]? =some e->R tp (be E.O tp H w) w x e:=by
 grind [qdj]
theorem WZ{f:Nat}{args:List Operand}(hc:cV P im o=some (.call f args)):(∃q:Call,o.op= .call q/\q.callee= .value (.func f)/\q.args.toList=args/\f≠E6)\/ ∃x,o.op= .panic x/\f=E6/\args=[x]/\P.funcs.size<=E6:=by
 have C:=nZ hc;unfold cV at hc;rw[if_neg (by grind)]at hc;cases d:o.op with
 | call q=>
   simp[d]at hc;split at hc
   ·rename_i g F;split at hc;grind
    ·rename_i K;cases hb:qfo im o.dst with
     |some r=>rw[hb]at hc;cases hc
     | none=>
       rw[hb]at hc;cases hc<;>grind
   grind;grind;grind;grind
   all_goals
    exfalso
    (repeat' split at hc)<;>first
      |(cases hc;done)
      |grind [Option.bind_eq_some_iff]
      |grind [Option.bind_eq_some_iff]
      |grind [Option.bind_eq_some_iff]
      | (simp[qF5,qF3]at hc
         obtain⟨n,hn,hc⟩:=hc;cases hc;done)
 | binOp op t x y u=>
   exfalso;simp[d]at hc;unfold oa at hc
   (repeat' split at hc)<;>first
     |(cases hc;done)
     |(cases p:A5 P t<;>simp[p]at hc)
 |alloc el=>simp only[d,qF5,qF3]at hc;obtain⟨z,hz,hc⟩:=hc;cases hc
 |box el x=>simp[d]at hc;split at hc<;>cases hc
 | build t parts=>
   simp[d,qF5,qF3]at hc;obtain⟨z,hz,hc⟩:=hc;split at hc
   ·obtain⟨I,j,hc⟩:=qF3.1 hc;split at hc<;>cases hc
   ·simp only[qF3]at hc;obtain⟨sz,hs,I,j,hc⟩:=hc;cases hc
   ·cases hc
 | buildSlice t len parts=>
   simp[d,qF5]at hc;split at hc
   ·simp[qF3]at hc;obtain⟨n,hn,z,hz,I,j,hc⟩:=hc
    (repeat' split at hc)<;>cases hc
   ·cases hc
 | load t x=>
   simp only[d,qF5,qF3]at hc;obtain⟨agg,A,sz,hs,hc⟩:=hc;split at hc<;>cases hc
 |store t x y=>simp only[d,qF5,qF3]at hc;obtain⟨z,hz,hc⟩:=hc;cases hc
 |unOp op t x=>cases op<;>simp only[d]at hc<;>cases hc
 | convert s t x=>
   simp only[d]at hc;split at hc
   ·cases hc
   ·cases hc
   ·split at hc<;>cases hc
   ·split at hc<;>cases hc
   ·cases hc
 |range t x=>simp only[d]at hc;split at hc<;>cases hc
 |next x b=>cases b<;>simp only[d]at hc<;>cases hc
 |entry x=>simp only[d]at hc;cases hc
 |makeMap t r=>cases r<;>simp only[d]at hc<;>cases hc
 | insert t m k v=>
   simp only[d]at hc;split at hc
   ·simp only[qF5,qF3]at hc;obtain⟨q,J,hc⟩:=hc;cases hc
   ·cases hc
 | mapUpdate t m k v=>
   simp only[d]at hc;split at hc
   ·simp only[qF5,qF3]at hc;obtain⟨q,J,hc⟩:=hc;cases hc
   ·cases hc
 | lookup t x k b=>
   simp only[d]at hc;split at hc
   ·simp only[qF5,qF3]at hc;obtain⟨q,J,z,hz,agg,A,hc⟩:=hc;split at hc<;>cases hc
   ·cases hc
 |makeFunc fn first caps=>cases fn<;>simp only[d]at hc<;>first|(cases hc;done)|(split at hc<;>cases hc)
 | makeSlice t l k=>
   simp only[d,qF5]at hc;split at hc
   ·simp only[qF3]at hc;obtain⟨n,hn,z,hz,agg,A,hc⟩:=hc;split at hc<;>cases hc
   ·cases hc
 | slice t x lo hi mx=>
   cases mx with
   |some m=>simp[d]at hc
   | none=>
     simp only[d,qF5]at hc;split at hc
     ·simp only[qF3]at hc;obtain⟨n,hn,hc⟩:=hc;cases hc
     ·cases hc
     ·cases hc
 | fieldAddr t x f=>
   simp only[d,qF5]at hc;split at hc
   ·simp only[qF3]at hc;obtain⟨fd,L,sz,hs,hc⟩:=hc;split at hc<;>cases hc
   ·cases hc
 | field t x f=>
   simp only[d,qF5]at hc;split at hc
   ·simp only[qF3]at hc;obtain⟨fd,L,agg,A,sz,hs,hc⟩:=hc;split at hc<;>cases hc
   ·cases hc
 | indexAddr t x i=>
   simp only[d,qF5]at hc;split at hc
   ·simp only[qF3]at hc;obtain⟨n,hn,hc⟩:=hc;cases hc
   ·split at hc
    ·simp only[qF3]at hc;obtain⟨sz,hs,hc⟩:=hc;split at hc<;>cases hc
    ·simp only[qF3]at hc;obtain⟨sz,hs,hc⟩:=hc;cases hc
   ·cases hc
 |index t x i=>simp only[d]at hc;split at hc<;>cases hc
 | makeInterface t x=>
   simp only[d]at hc;split at hc
   ·split at hc<;>cases hc
   ·cases hc
 | panic x=>
   simp only[d]at hc;split at hc
   ·rename_i h;cases hc;simp only[qF9,decide_eq_true_eq]at h;exact .inr ⟨x,rfl,rfl,rfl,h.2⟩
   ·cases hc
 | _=>simp[d]at hc
theorem Sa{f:Operand}{args:List Operand}(hc:cV P im o=some (.callv f args)):∃q:Call,o.op= .call q/\q.callee= .value f/\q.args.toList=args:=by
 have A:=nZ hc;unfold cV at hc;rw[if_neg (by grind)]at hc;cases d:o.op with
 | call q=>
   simp[d]at hc;split at hc
   ·split at hc;grind
    ·cases hb:qfo im o.dst<;>rw[hb]at hc<;>cases hc
   grind;grind;grind;grind
   all_goals
    exfalso
    (repeat' split at hc)<;>first
      |(cases hc;done)
      |grind [Option.bind_eq_some_iff]
      |grind [Option.bind_eq_some_iff]
      |grind [Option.bind_eq_some_iff]
      | (simp[qF5,qF3]at hc
         obtain⟨n,hn,hc⟩:=hc;cases hc;done)
 | binOp op t x y u=>
   exfalso;simp[d]at hc;unfold oa at hc
   (repeat' split at hc)<;>first
     |(cases hc;done)
     |(cases j:A5 P t<;>simp[j]at hc)
 |alloc el=>simp only[d,qF5,qF3]at hc;obtain⟨z,hz,hc⟩:=hc;cases hc
 |box el x=>simp[d]at hc;split at hc<;>cases hc
 | build t parts=>
   simp[d,qF5,qF3]at hc;obtain⟨z,hz,hc⟩:=hc;split at hc
   ·obtain⟨C,h,hc⟩:=qF3.1 hc;split at hc<;>cases hc
   ·simp only[qF3]at hc;obtain⟨sz,hs,C,h,hc⟩:=hc;cases hc
   ·cases hc
 | buildSlice t len parts=>
   simp[d,qF5]at hc;split at hc
   ·simp[qF3]at hc;obtain⟨n,hn,z,hz,C,h,hc⟩:=hc
    (repeat' split at hc)<;>cases hc
   ·cases hc
 | load t x=>
   simp only[d,qF5,qF3]at hc;obtain⟨agg,p,sz,hs,hc⟩:=hc;split at hc<;>cases hc
 |store t x y=>simp only[d,qF5,qF3]at hc;obtain⟨z,hz,hc⟩:=hc;cases hc
 |unOp op t x=>cases op<;>simp[d]at hc<;>cases hc
 | convert s t x=>
   simp[d]at hc;split at hc
   ·cases hc
   ·cases hc
   ·split at hc<;>cases hc
   ·split at hc<;>cases hc
   ·cases hc
 |range t x=>simp[d]at hc;split at hc<;>cases hc
 |next x b=>cases b<;>simp[d]at hc<;>cases hc
 |entry x=>simp only[d]at hc;cases hc
 |makeMap t r=>cases r<;>simp[d]at hc<;>cases hc
 | insert t m k v=>
   simp[d]at hc;split at hc
   ·simp only[qF5,qF3]at hc;obtain⟨q,F,hc⟩:=hc;cases hc
   ·cases hc
 | mapUpdate t m k v=>
   simp only[d]at hc;split at hc
   ·simp only[qF5,qF3]at hc;obtain⟨q,F,hc⟩:=hc;cases hc
   ·cases hc
 | lookup t x k b=>
   simp only[d]at hc;split at hc
   ·simp only[qF5,qF3]at hc;obtain⟨q,F,z,hz,agg,p,hc⟩:=hc;split at hc<;>cases hc
   ·cases hc
 |makeFunc fn first caps=>cases fn<;>simp only[d]at hc<;>first|(cases hc;done)|(split at hc<;>cases hc)
 | makeSlice t l k=>
   simp only[d,qF5]at hc;split at hc
   ·simp only[qF3]at hc;obtain⟨n,hn,z,hz,agg,p,hc⟩:=hc;split at hc<;>cases hc
   ·cases hc
 | slice t x lo hi mx=>
   cases mx with
   |some m=>simp[d]at hc
   | none=>
     simp only[d,qF5]at hc;split at hc
     ·simp only[qF3]at hc;obtain⟨n,hn,hc⟩:=hc;cases hc
     ·cases hc
     ·cases hc
 | fieldAddr t x f=>
   simp only[d,qF5]at hc;split at hc
   ·simp only[qF3]at hc;obtain⟨fd,I,sz,hs,hc⟩:=hc;split at hc<;>cases hc
   ·cases hc
 | field t x f=>
   simp only[d,qF5]at hc;split at hc
   ·simp only[qF3]at hc;obtain⟨fd,I,agg,p,sz,hs,hc⟩:=hc;split at hc<;>cases hc
   ·cases hc
 | indexAddr t x i=>
   simp only[d,qF5]at hc;split at hc
   ·simp only[qF3]at hc;obtain⟨n,hn,hc⟩:=hc;cases hc
   ·split at hc
    ·simp only[qF3]at hc;obtain⟨sz,hs,hc⟩:=hc;split at hc<;>cases hc
    ·simp only[qF3]at hc;obtain⟨sz,hs,hc⟩:=hc;cases hc
   ·cases hc
 |index t x i=>simp only[d]at hc;split at hc<;>cases hc
 | makeInterface t x=>
   simp only[d]at hc;split at hc
   ·split at hc<;>cases hc
   ·cases hc
 |panic x=>simp only[d]at hc;split at hc<;>cases hc
 | _=>simp[d]at hc
theorem Sb{r f:Nat}{args:List Operand}(hc:cV P im o=some (.callb r f args)):∃q:Call,o.op= .call q/\q.callee= .value (.func f)/\q.args.toList=args:=by
 have A:=nZ hc;unfold cV at hc;rw[if_neg (by grind)]at hc;cases d:o.op with
 | call q=>
   simp[d]at hc;split at hc
   ·rename_i g C;split at hc;grind
    ·cases hb:qfo im o.dst with
     |none=>rw[hb]at hc;cases hc
     | some r'=>
       rw[hb]at hc;cases hc<;>grind
   grind;grind;grind;grind
   all_goals
    exfalso
    (repeat' split at hc)<;>first
      |(cases hc;done)
      |grind [Option.bind_eq_some_iff]
      | (simp[qF5,qF3]at hc
         obtain⟨n,hn,z,hz,hc⟩:=hc;split at hc<;>cases hc;done)
      | (simp[qF5,qF3]at hc
         obtain⟨n,hn,hc⟩:=hc;split at hc<;>cases hc;done)
      | (simp[qF5,qF3]at hc
         obtain⟨n,hn,hc⟩:=hc;cases hc;done)
 | binOp op t x y u=>
   exfalso;simp[d]at hc;unfold oa at hc
   (repeat' split at hc)<;>first
     |(cases hc;done)
     |(cases j:A5 P t<;>simp[j]at hc)
 |alloc el=>simp only[d,qF5,qF3]at hc;obtain⟨z,hz,hc⟩:=hc;cases hc
 |box el x=>simp[d]at hc;split at hc<;>cases hc
 | build t parts=>
   simp[d,qF5,qF3]at hc;obtain⟨z,hz,hc⟩:=hc;split at hc
   ·obtain⟨F,h,hc⟩:=qF3.1 hc;split at hc<;>cases hc
   ·simp only[qF3]at hc;obtain⟨sz,hs,F,h,hc⟩:=hc;cases hc
   ·cases hc
 | buildSlice t len parts=>
   simp[d,qF5]at hc;split at hc
   ·simp[qF3]at hc;obtain⟨n,hn,z,hz,F,h,hc⟩:=hc
    (repeat' split at hc)<;>cases hc
   ·cases hc
 | load t x=>
   simp only[d,qF5,qF3]at hc;obtain⟨agg,p,sz,hs,hc⟩:=hc;split at hc<;>cases hc
 |store t x y=>simp only[d,qF5,qF3]at hc;obtain⟨z,hz,hc⟩:=hc;cases hc
 |unOp op t x=>cases op<;>simp[d]at hc<;>cases hc
 | convert s t x=>
   simp[d]at hc;split at hc
   ·cases hc
   ·cases hc
   ·split at hc<;>cases hc
   ·split at hc<;>cases hc
   ·cases hc
 |range t x=>simp[d]at hc;split at hc<;>cases hc
 |next x b=>cases b<;>simp[d]at hc<;>cases hc
 |entry x=>simp only[d]at hc;cases hc
 |makeMap t r=>cases r<;>simp only[d]at hc<;>cases hc
 | insert t m k v=>
   simp only[d]at hc;split at hc
   ·simp only[qF5,qF3]at hc;obtain⟨q,I,hc⟩:=hc;cases hc
   ·cases hc
 | mapUpdate t m k v=>
   simp only[d]at hc;split at hc
   ·simp only[qF5,qF3]at hc;obtain⟨q,I,hc⟩:=hc;cases hc
   ·cases hc
 | lookup t x k b=>
   simp only[d]at hc;split at hc
   ·simp only[qF5,qF3]at hc;obtain⟨q,I,z,hz,agg,p,hc⟩:=hc;split at hc<;>cases hc
   ·cases hc
 |makeFunc fn first caps=>cases fn<;>simp only[d]at hc<;>first|(cases hc;done)|(split at hc<;>cases hc)
 | makeSlice t l k=>
   simp only[d,qF5]at hc;split at hc
   ·simp only[qF3]at hc;obtain⟨n,hn,z,hz,agg,p,hc⟩:=hc;split at hc<;>cases hc
   ·cases hc
 | slice t x lo hi mx=>
   cases mx with
   |some m=>simp[d]at hc
   | none=>
     simp only[d,qF5]at hc;split at hc
     ·simp only[qF3]at hc;obtain⟨n,hn,hc⟩:=hc;cases hc
     ·cases hc
     ·cases hc
 | fieldAddr t x f=>
   simp only[d,qF5]at hc;split at hc
   ·simp only[qF3]at hc;obtain⟨fd,J,sz,hs,hc⟩:=hc;split at hc<;>cases hc
   ·cases hc
 | field t x f=>
   simp only[d,qF5]at hc;split at hc
   ·simp only[qF3]at hc;obtain⟨fd,J,agg,p,sz,hs,hc⟩:=hc;split at hc<;>cases hc
   ·cases hc
 | indexAddr t x i=>
   simp only[d,qF5]at hc;split at hc
   ·simp only[qF3]at hc;obtain⟨n,hn,hc⟩:=hc;cases hc
   ·split at hc
    ·simp only[qF3]at hc;obtain⟨sz,hs,hc⟩:=hc;split at hc<;>cases hc
    ·simp only[qF3]at hc;obtain⟨sz,hs,hc⟩:=hc;cases hc
   ·cases hc
 |index t x i=>simp only[d]at hc;split at hc<;>cases hc
 | makeInterface t x=>
   simp only[d]at hc;split at hc
   ·split at hc<;>cases hc
   ·cases hc
 |panic x=>simp only[d]at hc;split at hc<;>cases hc
 | _=>simp[d]at hc
theorem LC{K:D->ab->Prop}{z:List PanicEntry->Prop}(M:CallOk E.dq P z S c)(hc:cV P im o=some c)(l:StW E tp H w)(hd:a.defers=E.ds)(hN:a.tmps.size=E.N)(I:∀t,R tp (be E.O tp H w) w (a.tmps.getD t undef) (σ t))
 (u:∀t,o.dst=some t->t<E.N) (J:aI S c o.dst σ H K)
 {next:Act->World->Prop} {Q:Exit->Act->World->Prop} (y:∀c w',qdG E z c w'->Q (.panic c) a w') (j:∀r H' x w',K r H'->St E (fK σ o.dst r) H' (a.put o.dst x) w'->next (a.put o.dst x) w'):o.wp P a w next Q:=by
 by_cases W:c.isCall=true
 ·have p:=nZ hc;cases c<;>simp[COp.isCall]at W
  ·rename_i f args;rcases WZ hc with⟨q,A,s,C,hne⟩|⟨x,A,hf,ha,hsz⟩
   rotate_left
   ·subst ha;subst hf;have hxo:BO x=true:=qGa.1 p x (by grind [Op.operands]);have hxR:=qdj I x hxo;simp[CallOk]at M;have hz:=M hsz E.O tp w (a.eval x) (ev σ x) H (o.dst.getD 0) K (λb hb=>qGl (l.hO b hb) l.step.size) l.tpg l.sat hxR J
    let ⟨⟨t,v,hv1⟩,hz⟩:=hz
    unfold Oper.wp;have:(execOp a.eval o).run P w= .halt (.panic (a.eval x)) w:=by
     simp_all [execOp,Instr.panic]
    rw[this];exact y _ _ ⟨hz,l.stepTo (.refl _ _ _)⟩
   simp[CallOk,if_neg hne]at M;have L:∀x∈args,BO x=true:=λx hx=>qGa.1 p x (by
    grind [Op.operands,Call.operands])
   simp[aI]at J;refine Xb (vs:=args.map a.eval) (ds:=args.map (ev σ)) M l hd hN I (λ_ _ F=>?_) (by simp) (qdx I L) J u y j;have he:q.args.map a.eval=(args.map a.eval).toArray:=by grind
   simp[execOp,A,resolve,s,Act.eval,Deferred.ofValue,invoke,he,F _ w]
  ·rename_i f args
   let ⟨q,A,s,C⟩:=Sa hc
   have L:∀x∈args,BO x=true:=λx hx=>qGa.1 p x (by
    grind [Op.operands,Call.operands])
   have hfo:BO f=true:=qGa.1 p f (by
    grind [Op.operands,Call.operands])
   have Y:=qdj I f hfo;simp[aI]at J;split at J
   ·rename_i g caps e1;rw[e1]at Y;generalize hq:a.eval f=fv at Y;cases Y with
    | clo _ xs _ hl h=>
      refine Xb (vs:=args.map a.eval++xs) (ds:=args.map (ev σ) ++caps) (M g) l hd hN I (λ_ _ F=>?_) (by grind) ?_ J u y j
      ·have he:q.args.map a.eval=(args.map a.eval).toArray:=by grind
       simp[execOp,A,resolve,s,hq,Deferred.ofValue,invoke,he,F _ w]
      ·intro k x e h1 h2;by_cases hk:k<args.length;grind [List.getElem?_append_left,qdx];grind
   grind
  ·rename_i r f args
   let ⟨q,A,s,C⟩:=Sb hc
   have L:∀x∈args,BO x=true:=λx hx=>qGa.1 p x (by
    grind [Op.operands,Call.operands])
   simp[aI]at J;have M:TriZ E.dq z P f (S f).pt:=M;refine Xb (vs:=args.map a.eval) (ds:=args.map (ev σ)) M l hd hN I (λ_ _ F=>?_) (by simp) (qdx I L) J u y j;have he:q.args.map a.eval=(args.map a.eval).toArray:=by grind
   simp[execOp,A,resolve,s,Act.eval,Deferred.ofValue,invoke,he,F _ w]
 ·have hnc:c.isCall=false:=by grind
  have hv':bj c o.dst σ H K:=by
   cases c<;>first|exact J|grind [COp.isCall]
  let ⟨nx,x,d,H',w',Z,hnx,hm,hR,hk⟩:=qjD hc hnc l I hv'
  have U:=St.put hd hN I hm o.dst u hR;unfold Oper.wp;rw[Z];rcases hnx with rfl|⟨rfl,rfl⟩
  ·exact j d H' x w' hk U
  ·exact j d H' Go.undef w' hk U
end
inductive CI where
 |op (dst:Option Nat) (g:Option (Nat×Bool)) (c:COp)
 |frz (t n:Nat)
def CI.real:CI->Bool
 | .op _ _ _=>true
 | .frz _ _=>false
def dN(dq:Prop)(P:Program)(z:List PanicEntry->Prop)(S:Nat->Spc):CI->Prop
 | .op _ _ c=>CallOk dq P z S c
 | .frz _ _=>True
def IV(ops:Array Oper)(o:Oper):Option (Option (Nat×Bool)):=
 match o.guard with
 |none=>some none
 |some (j,b)=>((ops[j]?).bind (·.dst)).map λd=>some (d,b)
def eU(P:Program)(im:List Nat)(N:Nat)(ops:Array Oper)(o:Oper):Option CI:=do
 let c <-cV P im o
 let g <-IV ops o
 if o.dst.all (· < N)then some (.op o.dst g c)else none
def lg(P:Program)(im:List Nat)(N:Nat)(ops:Array Oper):Option (List CI):=ops.toList.mapM (eU P im N ops)
def nl(g:Option (Nat×Bool))(σ:Sg)(c no:Sg->Prop):Prop:=
 match g with
 |none=>c σ
 | some (s,b)=>match σ s with
   | .v (.bool t)=>(t=b->c (upd σ s (.v (.bool b))))/\(t=(!b)->no (upd σ s (.v (.bool (!b)))))
   | .undef=>no σ
   | _=>False
def K4:List D->ab->(List D->ab->Prop)->Prop
 | [],H,K=>K [] H
 | .own id x::cs,H,K=>match H id with
   |some (.row b _ n es)=>b=x/\K4 cs (aj H id none) λcs' H'=>K (.list n es::cs') H'
   | _=>False
 |c::cs,H,K=>K4 cs H λcs' H'=>K (c::cs') H'
open Classical in
noncomputable def Ne(id:Nat)(x:Value)(L:D):D->D
 | .own i y=>if i=id/\y=x then L else .own i y
 |d=>d
noncomputable def qg7(id:Nat)(x:Value)(L:D)(σ:Sg):Sg:=λs=>Ne id x L (σ s)
def Md(t n:Nat)(σ:Sg)(H:ab)(K:Sg->ab->Prop):Prop:=
 match σ t with
 | .own id x=>match H id with
   |some (.row d _ h es)=>d=x/\K (qg7 id x (.list h es) σ) (aj H id none)
   | _=>False
 | .bptr id b off=>match H id with
   |some (.box b' cs)=>b'=b/\K (upd σ t (.cptr cs off)) (aj H id none)
   | _=>False
 | .v (.slice none 0 0)=>K (upd σ t (.list n [])) H
 | .sub id x h lo hi=>match H id with
   |some (.row d el c es)=>d=x/\h=c/\(if n=0 then lo=0/\∀v,K (upd σ t (.own id v)) (aj H id (some (.row v el c (es.take hi))))else K (upd σ t (.list c ((es.take hi).drop lo))) (aj H id none))
   | _=>False
 | .agg cs=>K4 cs H λcs' H'=>K (upd σ t (.agg cs')) H'
 | _=>K σ H
def FH(S:Nat->Spc):List CI->Sg->ab->(Sg->ab->Prop)->Prop
 | [],σ,H,K=>K σ H
 | .frz t n::r,σ,H,K=>Md t n σ H λb H'=>FH S r b H' K
 | .op dst g c::r,σ,H,K=>nl g σ (λσ=>aI S c dst σ H λd H'=>FH S r (fK σ dst d) H' K) (λσ=>FH S r (fK σ dst .undef) H K)
section
variable {P:Program}{im:List Nat}{a:Act}{E:BU}{tp I:Nat->Prop}{H:ab}{w:World}{σ:Sg}{S:Nat->Spc}
def StW.drop(h:StW E tp H w)(id:Nat):StW E tp (aj H id none) w/\∀x d,R tp (be E.O tp H w) w x d->R tp (be E.O tp (aj H id none) w) w x d:=
 h.own id none (gm w none) (λb hb=>by grind) (λr b h1=>by grind) (λ_ r h1=>by grind)
def Mc(h:StW E tp H w){id b:Nat}{r:Res}(c:H id=some r)(hb:r.blk=some b):be E.O tp (aj H id none) w b:=by
 have ho:=h.sat.out id r b c hb;refine⟨(h.sat.ok id r c).lt hb,ho.1,ho.2,λ⟨i,s,h1,h2⟩=>?_⟩;by_cases hi:i=id;grind [StW,Res.blk,aj]
 ·simp[aj,hi]at h1;exact hi (h.sat.dis _ _ _ _ b h1 c h2 hb)
theorem WC(h:StW E tp H w){id el n:Nat}{x:Value}{es:List D}(l:H id=some (.row x el n es)):R tp (be E.O tp (aj H id none) w) w x (.list n es):=by
 obtain⟨xs,⟨F,s⟩,p,q⟩:=h.sat.ok id _ l;have hm:=(h.drop id).2;have t:=ba (es:=es) (λd u=>(p d u).2);rcases s with⟨rfl,h0⟩|⟨g,cap,cur,rfl,_,r,A,C,J,K⟩
 ·have:es=[]:=qGk h0;subst this;exact .nolist _ _ _
 ·have hcell:∀(k:Nat) (c:D),(bq es)[k]? =some c->∃y,xs[k]? =some y/\w.cell? ⟨g,0+k,none⟩=some y/\y.oneCell'=true/\R tp (be E.O tp (aj H id none) w) w y c:=by
   intro k c hk;have b:k<xs.length:=by
    grind
   have j:xs[k]? =some xs[k]:=qF6 b;refine⟨xs[k],j,?_,(q k _ c j hk).1,hm _ _ (q k _ c j hk).2⟩;rw[qGS,cell_of_row w g k cur el (0,0) r];grind
  refine .list g 0 cap n es (λk=>xs.getD k undef) (Mc h l rfl) A C (λ_=>⟨_,_,r⟩) p (λk c hk=>?_) (λk c hk=>?_) (λk c hk=>?_)
  all_goals grind
theorem qoo(h:StW E tp H w){id b off:Nat}{cs:List D}(d:H id=some (.box b cs)):R tp (be E.O tp (aj H id none) w) w (.pointer (some ⟨b,off,none⟩)) (.cptr cs off):=by
 obtain⟨xs,el,j,p,l⟩:=h.sat.ok id _ d;have hm:=(h.drop id).2;obtain⟨f,q,r,s⟩:=zJ j p (λk y c h1 h2=>⟨(l k y c h1 h2).1,hm _ _ (l k y c h1 h2).2⟩);have:=R.cptr (tp:=tp) b 0 cs off f (Mc h d rfl) (λ_=>⟨_,_,j⟩) q r s;grind
theorem qda:∀(cs:List D) (H:ab) (K:List D->ab->Prop) (xs:List Value),StW E tp H w->xs.length=cs.length->aS (R tp (be E.O tp H w) w) xs cs->K4 cs H K->
 ∃cs' H',StW E tp H' w/\(∀x d,R tp (be E.O tp H w) w x d->R tp (be E.O tp H' w) w x d)/\xs.length=cs'.length/\aS (R tp (be E.O tp H' w) w) xs cs'/\K cs' H':=by
 intro cs
 induction cs with
 |nil=>intro H K xs b hl hc j;exact⟨[],H,b,λ_ _ h=>h,hl,hc,j⟩
 | cons c cs u=>
   intro H K xs b hl hc j;cases xs with
   |nil=>grind
   | cons x xs=>
     simp at hl;have A:=hc 0 x c rfl rfl;have q:∀{H':ab},(∀x d,R tp (be E.O tp H w) w x d->R tp (be E.O tp H' w) w x d)->aS (R tp (be E.O tp H' w) w) xs cs:=λm k y e h1 h2=>
      ⟨(hc (k+1) y e (by grind) (by grind)).1,m _ _ (hc (k+1) y e (by grind) (by grind)).2⟩
     have keep:(∃l c',StW E tp l w/\(∀x d,R tp (be E.O tp H w) w x d->R tp (be E.O tp l w) w x d)/\R tp (be E.O tp l w) w x c'/\K4 cs l λcs' H'=>K (c'::cs') H'):=by
      have plain:(∀id y,c≠ .own id y)->K4 cs H (λcs' H'=>K (c::cs') H'):=by
       intro C;cases c<;>first|exact j|grind
      by_cases p:∃id y,c= .own id y
      ·obtain⟨id,y,rfl⟩:=p;simp only[K4]at j;split at j
       ·rename_i F el n es J;obtain⟨rfl,j⟩:=j;have s:=b.drop id;have r:x=F:=by cases A.2;rfl
        subst r;exact⟨aj H id none,_,s.1,s.2,WC b J,j⟩
       grind
      grind
     obtain⟨l,c',L,t,U,v1⟩:=keep;obtain⟨cs',H',M,N,W,c2,Q⟩:=u l _ xs L hl (q t) v1;refine⟨c'::cs',H',M,λy d h=>N _ _ (t _ _ h),by grind,λk y e h1 h2=>?_,Q⟩;cases k with
     |zero=>grind
     |succ k=>simp at h1 h2;exact c2 k y e h1 h2
theorem qon(h:StW E tp H w){id el n lo hi:Nat}{x q:Value}{es:List D}{I:Nat->Prop}(t:H id=some (.row x el n es))(hl:R tp (be E.O tp (aj H id none) w) w x (.list n es))(k:R tp I w q (.sub id x n lo hi)):
 R tp (be E.O tp (aj H id none) w) w q (.list n ((es.take hi).drop lo)):=by
 cases k with
 | subnil=>
   have:((es.take 0).drop 0)=[]:=by simp
   rw[this];exact .nolist _ _ _
 | sub _ b len cap _ _ _ p h1 h2 h3 hm hp=>
   cases hl with
   | nolist _ _ _=>
     have d:hi -lo=0:=by omega
     rw[d,qH5,qHT];exact .nolist _ _ _
   | list _ _ _ _ _ f hI hc j hz hn hcell c l=>
     by_cases r:lo<cap\/lo=0
     ·have:=PO hI hc j hz hn hcell c l h1 h2;grind
     ·have d:hi -lo=0:=by omega
      have s:(es.take hi).drop lo=[]:=by
       grind
      rw[d,s];exact .nolist _ _ _
theorem quq(h:StW E tp H w){id el n hi:Nat}{x q:Value}{es:List D}(t:H id=some (.row x el n es))(u:R tp (be E.O tp H w) w q (.sub id x n 0 hi)):
 q.oneCell'=true/\StW E tp (aj H id (some (.row q el n (es.take hi)))) w/\∀y e,R tp (be E.O tp H w) w y e->R tp (be E.O tp (aj H id (some (.row q el n (es.take hi)))) w) w y e:=by
 obtain⟨xs,⟨U,A⟩,C,F⟩:=h.sat.ok id _ t;cases u with
 | subnil=>
   refine⟨rfl,h.own id _ (gm w none) (λb hb=>by grind) (λr b h1 h2=>by grind) (λm r h1=>?_)⟩;cases h1;rw[qH3];exact⟨[],qHo _ _ _ _,by simp,λk y c h=>by grind⟩
 | sub _ b len cap _ _ _ p h1 h2 h3 hm hp=>
   have:=hp (.inr rfl);subst this;rcases A with⟨h,_⟩|⟨g,s,cur,J,K,L,W,M,N,Y⟩
   grind
   ·cases J;have hl:(es.take hi).length=hi:=by grind
    have j:hi*n<=es.length*n:=qGw n h2;refine⟨rfl,h.own id _ (gm w none) (λb hb=>by grind) (λr b' h1 h2=>by grind [Res.blk,Value.ownBlock]) (λm r h1=>?_)⟩;cases h1;refine⟨xs.take (hi*n),?_,λd Q=>C d (qGq Q),λk y c l hc=>?_⟩
    ·rw[hl];refine⟨by grind, .inr ⟨b,cap,cur,by simp,qGr _,L,by omega,M,N,?_⟩⟩;grind
    ·rw[qGo]at l;split at l
     ·have:=F k y c l (mU hc);grind
     grind
theorem Tz{t n:Nat}{K:Sg->ab->Prop}(J:St E σ H a w)(l:Md t n σ H K):∃A H',St E A H' a w/\K A H':=by
 obtain⟨L,M,tp,p,N⟩:=J;have mk:∀(H':ab) (d:D),StW E tp H' w->(∀x e,R tp (be E.O tp H w) w x e->R tp (be E.O tp H' w) w x e)->R tp (be E.O tp H' w) w (a.tmps.getD t undef) d->St E (upd σ t d) H' a w:=by
  intro H' d h1 h2 h3;refine⟨L,M,tp,h1,λs=>?_⟩;grind [upd]
 have j:=N t;simp only[Md]at l;split at l
 ·rename_i id x r;rw[r]at j;split at l
  ·rename_i Y el n' es C;obtain⟨rfl,hk⟩:=l;have hm:=p.drop id;have u:a.tmps.getD t undef=Y:=by
    generalize a.tmps.getD t undef=q at j;cases j;rfl
   refine⟨_,_,⟨L,M,tp,hm.1,λs=>?_⟩,hk⟩;have hs:=N s;unfold qg7;generalize a.tmps.getD s undef=q at hs ⊢;cases F:σ s with
   | own i y=>
     rw[F]at hs;simp only[Ne];split
     ·rename_i Q;obtain⟨rfl,rfl⟩:=Q;cases hs;grind [WC]
     grind
   | _=>rw[F]at hs;exact hm.2 _ _ hs
  grind
 ·rename_i id b off r;rw[r]at j;split at l
  ·rename_i b' cs C;obtain⟨rfl,hk⟩:=l;have hm:=p.drop id;have u:a.tmps.getD t undef= .pointer (some ⟨b',off,none⟩):=by
    generalize a.tmps.getD t undef=q at j;cases j;rfl
   grind [qoo]
  grind
 ·rename_i r;rw[r]at j;exact⟨_,_,mk _ _ p (λ_ _ h=>h) (by rw[j.inv_v];exact .nolist _ _ _),l⟩
 ·rename_i id x n' lo hi r;rw[r]at j;split at l
  ·rename_i Y el n'' es C;obtain⟨u,rfl,hk⟩:=l;subst u;split at hk
   ·obtain⟨rfl,hk⟩:=hk;obtain⟨r1,r2,r3⟩:=quq p C j;exact⟨_,_,mk _ _ r2 r3 (.own _ _ r1),hk _⟩
   ·have hm:=p.drop id;exact⟨_,_,mk _ _ hm.1 hm.2 (qon p C (WC p C) j),hk⟩
  grind
 ·rename_i cs r;rw[r]at j;obtain⟨xs,hx,hl,hc⟩:=j.inv_agg;obtain⟨cs',H',s1,m1,Z,c1,k1⟩:=qda cs H _ xs p hl hc l;refine⟨_,_,mk _ _ s1 m1 ?_,k1⟩;rw[hx];refine .agg xs cs' Z (λx U=>?_) (λk x c h1 h2=>(c1 k x c h1 h2).2);obtain⟨k,hk⟩:=qGp.1 U;have W:k<cs'.length:=by rw[<-Z];exact(qF4.1 hk).1
  exact(c1 k x _ hk (qF6 W)).1
 ·exact⟨_,_,⟨L,M,tp,p,N⟩,l⟩
def TW{ops:Array Oper}{j s:Nat}{t:Bool}(b:R tp I w (a.tmps.getD s undef) (.v (.bool t)))(c:(ops[j]?).bind (·.dst)=some s):yielded ops a.tmps j=some t:=by
 have h:=b.inv_v;unfold yielded;rw[c];simp only[qGt];rw[qGL]at h;cases d:a.tmps[s]? with
 |none=>grind [undef]
 |some q=>grind
theorem QW{ops:Array Oper}{j s:Nat}(b:R tp I w (a.tmps.getD s undef) .undef)(c:(ops[j]?).bind (·.dst)=some s):yielded ops a.tmps j=none:=by
 have h:a.tmps.getD s undef=undef:=by
  generalize a.tmps.getD s undef=q at b;cases b;rfl
 unfold yielded;rw[c];simp only[qGt];rw[qGL]at h;cases d:a.tmps[s]? with
 |none=>rfl
 |some q=>rw[d]at h;simp at h;subst h;rfl
theorem HI{s:Nat}{d:D}(h:σ s=d):upd σ s d=σ:=by
 grind [upd]
theorem Dh{ops:Array Oper}{o:Oper}{g:Option (Nat×Bool)}{d no:Sg->Prop}(c:IV ops o=some g)(l:∀t,R tp I w (a.tmps.getD t undef) (σ t))(k:nl g σ d no):
 (Region.wanted o (yielded ops a.tmps)=true/\d σ)\/(Region.wanted o (yielded ops a.tmps)=false/\no σ):=by
 unfold IV at c;cases ho:o.guard with
 | none=>
   rw[ho]at c;simp at c;subst c;exact .inl ⟨by grind [Region.wanted],k⟩
 | some p=>
   obtain⟨j,b⟩:=p;rw[ho]at c;obtain⟨s,hs,rfl⟩:=aV c;simp only[nl]at k;have h:=l s;split at k
   ·rename_i t q;rw[q]at h;have u:=TW h hs;cases hb:(t==b)with
    | true=>
      have:t=b:=by grind
      subst this;refine .inl ⟨by grind [Region.wanted],?_⟩;have:=k.1 rfl;grind [HI]
    | false=>
      have r:t=(!b):=by cases t<;>cases b<;>simp_all
      grind [Region.wanted,HI]
   grind [QW,Region.wanted];grind
def St.skip(c:St E σ H a w)(dst:Option Nat)(b:∀t,dst=some t->t<E.N):St E (fK σ dst .undef) H (a.put dst undef) w:=by
 obtain⟨d,j,tp,k,l⟩:=c;exact St.put d j l ⟨k,λ_ _ h=>h⟩ dst b .undef
def qr1{N:Nat}{o:Oper}(h:o.dst.all (· < N)=true):∀t,o.dst=some t->t<N:=by
 grind
theorem SC{ops:Array Oper}{Q:Exit->Act->World->Prop}{K:Sg->ab->Prop}{z:List PanicEntry->Prop}(p:∀c a w',a.defers=E.ds->qdG E z c w'->Q (.panic c) a w')(W:∀σ H a w,St E σ H a w->K σ H->Q .normal a w):
 ∀(cis:List CI) (A:∀x∈cis,dN E.dq P z S x) (l:List Oper),l.mapM (eU P im E.N ops)=some (cis.filter CI.real)->∀(σ:Sg) (H:ab) (a:Act) (w:World),St E σ H a w->FH S cis σ H K->wpList P ops Q l a w:=by
 intro cis
 induction cis with
 | nil=>
   intro A l hl σ H a w j C;cases l with
   |nil=>exact W σ H a w j C
   | cons o l=>
     grind [Option.bind_eq_some_iff]
 | cons x cis F=>
   intro A l hl σ H a w j C;have F:=F λx k=>A x (by grind)
   have J:=A _ (qIi ..);cases x with
   | frz t n=>
     grind [FH,Tz,CI.real]
   | op dst g c=>
     cases l with
     |nil=>grind [CI.real]
     | cons o l=>
       rw[qGM]at hl;simp only[qF5,qF3,qHV,CI.real,if_true]at hl;obtain⟨x,k,y,M,h⟩:=hl;cases h;unfold eU at k;simp only[qF5,qF3]at k;obtain⟨c',hc,g',Y,k⟩:=k;split at k
       ·rename_i b;cases k;have b:=qr1 b;have q:=j;obtain⟨O,Z,tp,hw,U⟩:=j;simp only[FH]at C;unfold wpList;rcases Dh Y U C with⟨d,s⟩|⟨d,L⟩
        ·rw[if_pos d];exact .inl (LC J hc hw O Z U b s (λc w'=>p c a w' O) (λr H' x w' hk u=>F l M _ _ _ _ u hk))
        ·rw[if_neg (by grind)];exact F l M _ _ _ _ (q.skip o.dst b) L
       grind
end
end Go.Gv
