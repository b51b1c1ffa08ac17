/- A part of the framework and of the walks: T1. -/
import Derived.Test.YtfbleenmepoodaaGreatDoorGb09
set_option linter.unusedSimpArgs false
set_option linter.unusedVariables false
set_option linter.unusedSectionVars false
set_option linter.defProp false
namespace Go.Gv
variable {dq:Prop}
def fO(P:Program)(f:Nat):Prop:=∀ (args:Array Value) (w:World),(callFunc f args).run P w= .ok (.enter f args) w
def ON(dq:Prop)(O tp:Nat->Prop)(H:ab)(w:World)(K:D->ab->Prop)(e:Ending)(w':World):Prop:=
 ∃x r H' tp',e= .returned x/\K r H'/\(∀b,tp b->tp' b)/\(∀b,tp' b->tp b\/w.heap.size<=b)/\(∀b,tp' b->b < w'.heap.size)/\
  Step dq tp (bN H) w w'/\(∀b,bN H' b->bN H b\/w.heap.size<=b)/\qbQ O tp' H' w'/\R tp' (aM O tp' H' w') w' x r
def Tri(dq:Prop)(P:Program)(f:Nat)(A:PT):Prop:=
 ∀ (O tp:Nat->Prop) (w:World) (vs:List Value) (ds:List D) (H:ab) (d:Nat) (K:D->ab->Prop),
  (∀b,O b->b < w.heap.size)->TpG tp (bN H) w->qbQ O tp H w->vs.length=ds.length->
  (∀ (k:Nat) (x:Value) (c:D),vs[k]? =some x->ds[k]? =some c->R tp (aM O tp H w) w x c)->A d ds H K->
  fO P f/\Calls P f vs.toArray w (ON dq O tp H w K)
def qeF(dq:Prop)(z:List PanicEntry->Prop)(O tp:Nat->Prop)(H:ab)(w:World)(K:D->ab->Prop)(e:Ending)(w':World):Prop:=
 ON dq O tp H w K e w'\/ ∃c,e= .panicked c/\z c/\Step dq tp (bN H) w w'
def TriZ(dq:Prop)(z:List PanicEntry->Prop)(P:Program)(f:Nat)(A:PT):Prop:=
 ∀ (O tp:Nat->Prop) (w:World) (vs:List Value) (ds:List D) (H:ab) (d:Nat) (K:D->ab->Prop),
  (∀b,O b->b < w.heap.size)->TpG tp (bN H) w->qbQ O tp H w->vs.length=ds.length->
  (∀ (k:Nat) (x:Value) (c:D),vs[k]? =some x->ds[k]? =some c->R tp (aM O tp H w) w x c)->A d ds H K->
  fO P f/\Calls P f vs.toArray w (qeF dq z O tp H w K)
def LR:List PanicEntry->Prop:=λ_=>False
def Tri.z{z:List PanicEntry->Prop}{P:Program}{f:Nat}{A:PT}(h:Tri dq P f A):TriZ dq z P f A:=λO tp w vs ds H d K h1 h2 h3 h4 h5 h6=>
 ⟨(h O tp w vs ds H d K h1 h2 h3 h4 h5 h6).1,(h O tp w vs ds H d K h1 h2 h3 h4 h5 h6).2.mono λ_ _ h=> .inl h⟩
def TriZ.no{P:Program}{f:Nat}{A:PT}(h:TriZ dq LR P f A):Tri dq P f A:=λO tp w vs ds H d K h1 h2 h3 h4 h5 h6=>
 ⟨(h O tp w vs ds H d K h1 h2 h3 h4 h5 h6).1,(h O tp w vs ds H d K h1 h2 h3 h4 h5 h6).2.mono λ_ _ h=>h.elim id λ⟨_,_,h,_⟩=>h.elim⟩
def OJ(E:tP)(z:List PanicEntry->Prop)(c:List PanicEntry)(w':World):Prop:=z c/\Step E.dq E.tp0 E.own0 E.w0 w'
def StW.stepTo{E:tP}{tp:Nat->Prop}{H:ab}{w w':World}(h:StW E tp H w)(hs:Step E.dq tp (bN H) w w'):Step E.dq E.tp0 E.own0 E.w0 w':=by
 have hw:E.w0.heap.size<=w.heap.size:=h.step.size;refine⟨hs.os.trans h.step.os,hs.tape.trans h.step.tape,hs.output.trans h.step.output,qmK hw hs.size,λb hb ho htp=>?_,λb hb=>(h.step.tapes b hb).trans (hs.tapes b (h.tpx b hb)),λq=>qmK (h.step.drawn q) (hs.drawn q)⟩;rw[hs.same b (by omega) (λhown=>?_) (λhT=>?_)]
 ·exact h.step.same b hb ho htp
 ·rcases h.loc b hown with h1|h1
  ·exact ho h1
  ·omega
 ·rcases h.tpn b hT with h1|h1
  ·exact htp h1
  ·omega
def aC(S:Nat->Spc)(c:COp)(dst:Option Nat)(σ:Sg)(H:ab)(K:D->ab->Prop):Prop:=
 match c with
 | .call f args=>(S f).pt (dst.getD 0) (args.map (ev σ)) H K
 | .callb _ f args=>(S f).pt (dst.getD 0) (args.map (ev σ)) H K
 | .callv f args=>match ev σ f with
   | .clo g caps=>(S g).pt (dst.getD 0) (args.map (ev σ) ++caps) H K
   | _=>False
 | c=>aU c dst σ H K
def qeD(z:List PanicEntry->Prop)(P:Program)(A:PT):Prop:=P.funcs.size<=wO->∀ (O tp:Nat->Prop) (w:World) (v:Value) (e:D) (H:ab) (d:Nat) (K:D->ab->Prop),
 (∀b,O b->b < w.heap.size)->TpG tp (bN H) w->qbQ O tp H w->R tp (aM O tp H w) w v e->A d [e] H K->(∃t x,v= .iface t x)/\z [{ v:=v,recovered:=false }]
def CallOk(dq:Prop)(P:Program)(z:List PanicEntry->Prop)(S:Nat->Spc):COp->Prop
 | .call f _=>if f=wO then qeD z P (S wO).pt else TriZ dq z P f (S f).pt
 | .callv _ _=>∀g,TriZ dq z P g (S g).pt
 | .callb _ f _=>TriZ dq z P f (S f).pt
 | _=>True
def TriZ.up{z:List PanicEntry->Prop}{P:Program}{f:Nat}{A:PT}(h:TriZ dq LR P f A):TriZ dq z P f A:=h.no.z
def CallOk.up{z:List PanicEntry->Prop}{P:Program}{S:Nat->Spc}{c:COp}(h:CallOk dq P LR S c):CallOk dq P z S c:=by
 cases c <;> try exact trivial
 ·simp only[CallOk]at h ⊢;split
  ·rename_i e;rw[if_pos e]at h;exactλa O tp w v e' H d K h1 h2 h3 h4 h5=>((h a O tp w v e' H d K h1 h2 h3 h4 h5).2).elim
  ·rename_i e;rw[if_neg e]at h;exact h.up
 ·exactλg=>(h g).up
 ·exact TriZ.up h
def RA{P:Program}{S:Nat->Spc}(h:∀f,Tri dq P f (S f).pt)(c:COp):CallOk dq P LR S c:=by
 cases c <;> try exact trivial
 ·rename_i f args;simp only[CallOk];split
  ·intro hsz O tp w v e H d K h1 h2 h3 h4 h5;obtain⟨_,hc⟩:=h wO O tp w [v] [e] H d K h1 h2 h3 rfl (λk x c hx hc=>by
    rcases k with _|k
    ·cases hx;cases hc;exact h4
    ·simp at hx) h5
   obtain⟨e',w',fr,hR,_,hfn,hl⟩:=hc [];obtain⟨x,r,H',tp',rfl,_⟩:=hR;obtain⟨_,_,_,fn,hf,_⟩:=hl;rw[hfn]at hf;have:=(qmh.1 hf).1;omega
  ·exact(h f).z
 ·exactλg=>(h g).z
 ·exact(h _).z
section
variable {P:Program}{im:List Nat}{o:Oper}{c:COp}{a:Act}{E:tP}{tp:Nat->Prop}{H:ab}{w:World}{σ:Sg}{S:Nat->Spc}
theorem JZ{A:PT}{f:Nat}{vs:List Value}{ds:List D}{d:Nat}{K:D->ab->Prop}{z:List PanicEntry->Prop}(hS:TriZ E.dq z P f A)(hst:StW E tp H w)(hd:a.defers=E.ds)(hN:a.tmps.size=E.N)(hr:∀t,R tp (aM E.O tp H w) w (a.tmps.getD t undef) (σ t))
 (hrun:∀ (g:Array Value) (w':World),(fO P f)->(execOp a.eval o).run P w= .ok (.enter f vs.toArray) w) (hlen:vs.length=ds.length)
 (hargs:∀ (k:Nat) (x:Value) (e:D),vs[k]? =some x->ds[k]? =some e->R tp (aM E.O tp H w) w x e) (hA:A d ds H K) (hdst:∀t,o.dst=some t->t < E.N)
 {next:Act->World->Prop} {Q:Exit->Act->World->Prop} (hpan:∀c w',OJ E z c w'->Q (.panic c) a w') (hnext:∀r H' x w',K r H'->St E (dH σ o.dst r) H' (a.put o.dst x) w'->next (a.put o.dst x) w'):o.wp P a w next Q:=by
 obtain⟨hce,hc⟩:=hS E.O tp w vs ds H d K (λb hb=>qmA (hst.hO b hb) hst.step.size) hst.tpg hst.sat hlen hargs hA;unfold Oper.wp;rw[hrun #[] w hce];simp only[Oper.upon];refine hc.mono ?_;rintro e w' (⟨x,r,H',tp',rfl,hk,h1,h2,h3,h4,h5,h6,h7⟩|⟨c,rfl,hz,hs⟩)
 rotate_left
 ·exact hpan c w' ⟨hz,hst.stepTo hs⟩
 have hm:=hst.move h4 h1 h2 h3 h5 h6;exact hnext r H' x w' hk (St.put hd hN hr hm o.dst hdst h7)
def OB(hr:∀t,R tp (aM E.O tp H w) w (a.tmps.getD t undef) (σ t)){args:List Operand}(hargs:∀x∈args,tK x=true):
 ∀ (k:Nat) (x:Value) (e:D),(args.map a.eval)[k]? =some x->(args.map (ev σ))[k]? =some e->R tp (aM E.O tp H w) w x e:=by
 intro k x e h1 h2;rw[qmv]at h1 h2;obtain⟨q,hq,rfl⟩:=aB h1;rw[hq]at h2;cases h2;exact Oi hr q (hargs q (qme hq))
theorem JU{f:Nat}{args:List Operand}(hc:bY P im o=some (.call f args)):(∃q:Call,o.op= .call q/\q.callee= .value (.func f)/\q.args.toList=args/\f≠wO)\/ ∃x,o.op= .panic x/\f=wO/\args=[x]/\P.funcs.size<=wO:=by
 have hops:=jL hc;unfold bY at hc;rw[if_neg (by simpa using hops)]at hc;cases hop:o.op with
 | call q=>
   simp only[hop]at hc;split at hc
   ·rename_i g hcal;split at hc
    ·cases hc
    ·rename_i hne;cases hb:P1 im o.dst with
     | some r=>rw[hb]at hc;cases hc
     | none=>
       rw[hb]at hc;cases hc;exact .inl ⟨q,rfl,hcal,rfl,hne⟩
   ·cases hc
   ·(repeat' split at hc) <;> cases hc
   ·cases hc
   ·cases hc
   all_goals
    exfalso
    (repeat' split at hc) <;> first
      | (cases hc;done)
      | (simp only[qmc,ql9]at hc
         obtain⟨n,hn,z,hz,agg,ha,hc⟩:=hc;split at hc <;> cases hc;done)
      | (simp only[qmc,ql9]at hc
         obtain⟨n,hn,z,hz,hc⟩:=hc;split at hc <;> cases hc;done)
      | (simp only[qmc,ql9]at hc
         obtain⟨n,hn,hc⟩:=hc;split at hc <;> cases hc;done)
      | (simp only[qmc,ql9]at hc
         obtain⟨n,hn,hc⟩:=hc;cases hc;done)
 | binOp op t x y u=>
   exfalso;simp only[hop]at hc;unfold jM at hc
   (repeat' split at hc) <;> first
     | (cases hc;done)
     | (cases hks:sY P t <;> simp[hks]at hc)
 | alloc el=>simp only[hop,qmc,ql9]at hc;obtain⟨z,hz,hc⟩:=hc;cases hc
 | box el x=>simp only[hop]at hc;split at hc <;> cases hc
 | build t parts=>
   simp only[hop,qmc,ql9]at hc;obtain⟨z,hz,hc⟩:=hc;split at hc
   ·obtain⟨ps,hps,hc⟩:=ql9.1 hc;split at hc <;> cases hc
   ·simp only[ql9]at hc;obtain⟨sz,hs,ps,hps,hc⟩:=hc;cases hc
   ·cases hc
 | buildSlice t len parts=>
   simp only[hop,qmc]at hc;split at hc
   ·simp only[ql9]at hc;obtain⟨n,hn,z,hz,ps,hps,hc⟩:=hc
    (repeat' split at hc) <;> cases hc
   ·cases hc
 | load t x=>
   simp only[hop,qmc,ql9]at hc;obtain⟨agg,ha,sz,hs,hc⟩:=hc;split at hc <;> cases hc
 | store t x y=>simp only[hop,qmc,ql9]at hc;obtain⟨z,hz,hc⟩:=hc;cases hc
 | unOp op t x=>cases op <;> simp only[hop]at hc <;> cases hc
 | convert s t x=>
   simp only[hop]at hc;split at hc
   ·cases hc
   ·cases hc
   ·split at hc <;> cases hc
   ·split at hc <;> cases hc
   ·cases hc
 | range t x=>simp only[hop]at hc;split at hc <;> cases hc
 | next x b=>cases b <;> simp only[hop]at hc <;> cases hc
 | entry x=>simp only[hop]at hc;cases hc
 | makeMap t r=>cases r <;> simp only[hop]at hc <;> cases hc
 | insert t m k v=>
   simp only[hop]at hc;split at hc
   ·simp only[qmc,ql9]at hc;obtain⟨q,hq,hc⟩:=hc;cases hc
   ·cases hc
 | mapUpdate t m k v=>
   simp only[hop]at hc;split at hc
   ·simp only[qmc,ql9]at hc;obtain⟨q,hq,hc⟩:=hc;cases hc
   ·cases hc
 | lookup t x k b=>
   simp only[hop]at hc;split at hc
   ·simp only[qmc,ql9]at hc;obtain⟨q,hq,z,hz,agg,ha,hc⟩:=hc;split at hc <;> cases hc
   ·cases hc
 | makeFunc fn first caps=>cases fn <;> simp only[hop]at hc <;> first|(cases hc;done)|(split at hc <;> cases hc)
 | makeSlice t l k=>
   simp only[hop,qmc]at hc;split at hc
   ·simp only[ql9]at hc;obtain⟨n,hn,z,hz,agg,ha,hc⟩:=hc;split at hc <;> cases hc
   ·cases hc
 | slice t x lo hi mx=>
   cases mx with
   | some m=>simp[hop]at hc
   | none=>
     simp only[hop,qmc]at hc;split at hc
     ·simp only[ql9]at hc;obtain⟨n,hn,hc⟩:=hc;cases hc
     ·cases hc
     ·cases hc
 | fieldAddr t x f=>
   simp only[hop,qmc]at hc;split at hc
   ·simp only[ql9]at hc;obtain⟨fd,hf,sz,hs,hc⟩:=hc;split at hc <;> cases hc
   ·cases hc
 | field t x f=>
   simp only[hop,qmc]at hc;split at hc
   ·simp only[ql9]at hc;obtain⟨fd,hf,agg,ha,sz,hs,hc⟩:=hc;split at hc <;> cases hc
   ·cases hc
 | indexAddr t x i=>
   simp only[hop,qmc]at hc;split at hc
   ·simp only[ql9]at hc;obtain⟨n,hn,hc⟩:=hc;cases hc
   ·split at hc
    ·simp only[ql9]at hc;obtain⟨sz,hs,hc⟩:=hc;split at hc <;> cases hc
    ·simp only[ql9]at hc;obtain⟨sz,hs,hc⟩:=hc;cases hc
   ·cases hc
 | index t x i=>simp only[hop]at hc;split at hc <;> cases hc
 | makeInterface t x=>
   simp only[hop]at hc;split at hc
   ·split at hc <;> cases hc
   ·cases hc
 | panic x=>
   simp only[hop]at hc;split at hc
   ·rename_i h;cases hc;simp only[qmf,decide_eq_true_eq]at h;exact .inr ⟨x,rfl,rfl,rfl,h.2⟩
   ·cases hc
 | _=>simp[hop]at hc
theorem Gp{f:Operand}{args:List Operand}(hc:bY P im o=some (.callv f args)):∃q:Call,o.op= .call q/\q.callee= .value f/\q.args.toList=args:=by
 have hops:=jL hc;unfold bY at hc;rw[if_neg (by simpa using hops)]at hc;cases hop:o.op with
 | call q=>
   simp only[hop]at hc;split at hc
   ·split at hc
    ·cases hc
    ·cases hb:P1 im o.dst <;> rw[hb]at hc <;> cases hc
   ·rename_i g _ hcal;cases hc;exact⟨q,rfl,hcal,rfl⟩
   ·(repeat' split at hc) <;> cases hc
   ·cases hc
   ·cases hc
   all_goals
    exfalso
    (repeat' split at hc) <;> first
      | (cases hc;done)
      | (simp only[qmc,ql9]at hc
         obtain⟨n,hn,z,hz,agg,ha,hc⟩:=hc;split at hc <;> cases hc;done)
      | (simp only[qmc,ql9]at hc
         obtain⟨n,hn,z,hz,hc⟩:=hc;split at hc <;> cases hc;done)
      | (simp only[qmc,ql9]at hc
         obtain⟨n,hn,hc⟩:=hc;split at hc <;> cases hc;done)
      | (simp only[qmc,ql9]at hc
         obtain⟨n,hn,hc⟩:=hc;cases hc;done)
 | binOp op t x y u=>
   exfalso;simp only[hop]at hc;unfold jM at hc
   (repeat' split at hc) <;> first
     | (cases hc;done)
     | (cases hks:sY P t <;> simp[hks]at hc)
 | alloc el=>simp only[hop,qmc,ql9]at hc;obtain⟨z,hz,hc⟩:=hc;cases hc
 | box el x=>simp only[hop]at hc;split at hc <;> cases hc
 | build t parts=>
   simp only[hop,qmc,ql9]at hc;obtain⟨z,hz,hc⟩:=hc;split at hc
   ·obtain⟨ps,hps,hc⟩:=ql9.1 hc;split at hc <;> cases hc
   ·simp only[ql9]at hc;obtain⟨sz,hs,ps,hps,hc⟩:=hc;cases hc
   ·cases hc
 | buildSlice t len parts=>
   simp only[hop,qmc]at hc;split at hc
   ·simp only[ql9]at hc;obtain⟨n,hn,z,hz,ps,hps,hc⟩:=hc
    (repeat' split at hc) <;> cases hc
   ·cases hc
 | load t x=>
   simp only[hop,qmc,ql9]at hc;obtain⟨agg,ha,sz,hs,hc⟩:=hc;split at hc <;> cases hc
 | store t x y=>simp only[hop,qmc,ql9]at hc;obtain⟨z,hz,hc⟩:=hc;cases hc
 | unOp op t x=>cases op <;> simp only[hop]at hc <;> cases hc
 | convert s t x=>
   simp only[hop]at hc;split at hc
   ·cases hc
   ·cases hc
   ·split at hc <;> cases hc
   ·split at hc <;> cases hc
   ·cases hc
 | range t x=>simp only[hop]at hc;split at hc <;> cases hc
 | next x b=>cases b <;> simp only[hop]at hc <;> cases hc
 | entry x=>simp only[hop]at hc;cases hc
 | makeMap t r=>cases r <;> simp only[hop]at hc <;> cases hc
 | insert t m k v=>
   simp only[hop]at hc;split at hc
   ·simp only[qmc,ql9]at hc;obtain⟨q,hq,hc⟩:=hc;cases hc
   ·cases hc
 | mapUpdate t m k v=>
   simp only[hop]at hc;split at hc
   ·simp only[qmc,ql9]at hc;obtain⟨q,hq,hc⟩:=hc;cases hc
   ·cases hc
 | lookup t x k b=>
   simp only[hop]at hc;split at hc
   ·simp only[qmc,ql9]at hc;obtain⟨q,hq,z,hz,agg,ha,hc⟩:=hc;split at hc <;> cases hc
   ·cases hc
 | makeFunc fn first caps=>cases fn <;> simp only[hop]at hc <;> first|(cases hc;done)|(split at hc <;> cases hc)
 | makeSlice t l k=>
   simp only[hop,qmc]at hc;split at hc
   ·simp only[ql9]at hc;obtain⟨n,hn,z,hz,agg,ha,hc⟩:=hc;split at hc <;> cases hc
   ·cases hc
 | slice t x lo hi mx=>
   cases mx with
   | some m=>simp[hop]at hc
   | none=>
     simp only[hop,qmc]at hc;split at hc
     ·simp only[ql9]at hc;obtain⟨n,hn,hc⟩:=hc;cases hc
     ·cases hc
     ·cases hc
 | fieldAddr t x f=>
   simp only[hop,qmc]at hc;split at hc
   ·simp only[ql9]at hc;obtain⟨fd,hf,sz,hs,hc⟩:=hc;split at hc <;> cases hc
   ·cases hc
 | field t x f=>
   simp only[hop,qmc]at hc;split at hc
   ·simp only[ql9]at hc;obtain⟨fd,hf,agg,ha,sz,hs,hc⟩:=hc;split at hc <;> cases hc
   ·cases hc
 | indexAddr t x i=>
   simp only[hop,qmc]at hc;split at hc
   ·simp only[ql9]at hc;obtain⟨n,hn,hc⟩:=hc;cases hc
   ·split at hc
    ·simp only[ql9]at hc;obtain⟨sz,hs,hc⟩:=hc;split at hc <;> cases hc
    ·simp only[ql9]at hc;obtain⟨sz,hs,hc⟩:=hc;cases hc
   ·cases hc
 | index t x i=>simp only[hop]at hc;split at hc <;> cases hc
 | makeInterface t x=>
   simp only[hop]at hc;split at hc
   ·split at hc <;> cases hc
   ·cases hc
 | panic x=>simp only[hop]at hc;split at hc <;> cases hc
 | _=>simp[hop]at hc
theorem Gq{r f:Nat}{args:List Operand}(hc:bY P im o=some (.callb r f args)):∃q:Call,o.op= .call q/\q.callee= .value (.func f)/\q.args.toList=args:=by
 have hops:=jL hc;unfold bY at hc;rw[if_neg (by simpa using hops)]at hc;cases hop:o.op with
 | call q=>
   simp only[hop]at hc;split at hc
   ·rename_i g hcal;split at hc
    ·cases hc
    ·cases hb:P1 im o.dst with
     | none=>rw[hb]at hc;cases hc
     | some r'=>
       rw[hb]at hc;cases hc;exact⟨q,rfl,hcal,rfl⟩
   ·cases hc
   ·(repeat' split at hc) <;> cases hc
   ·cases hc
   ·cases hc
   all_goals
    exfalso
    (repeat' split at hc) <;> first
      | (cases hc;done)
      | (simp only[qmc,ql9]at hc
         obtain⟨n,hn,z,hz,agg,ha,hc⟩:=hc;split at hc <;> cases hc;done)
      | (simp only[qmc,ql9]at hc
         obtain⟨n,hn,z,hz,hc⟩:=hc;split at hc <;> cases hc;done)
      | (simp only[qmc,ql9]at hc
         obtain⟨n,hn,hc⟩:=hc;split at hc <;> cases hc;done)
      | (simp only[qmc,ql9]at hc
         obtain⟨n,hn,hc⟩:=hc;cases hc;done)
 | binOp op t x y u=>
   exfalso;simp only[hop]at hc;unfold jM at hc
   (repeat' split at hc) <;> first
     | (cases hc;done)
     | (cases hks:sY P t <;> simp[hks]at hc)
 | alloc el=>simp only[hop,qmc,ql9]at hc;obtain⟨z,hz,hc⟩:=hc;cases hc
 | box el x=>simp only[hop]at hc;split at hc <;> cases hc
 | build t parts=>
   simp only[hop,qmc,ql9]at hc;obtain⟨z,hz,hc⟩:=hc;split at hc
   ·obtain⟨ps,hps,hc⟩:=ql9.1 hc;split at hc <;> cases hc
   ·simp only[ql9]at hc;obtain⟨sz,hs,ps,hps,hc⟩:=hc;cases hc
   ·cases hc
 | buildSlice t len parts=>
   simp only[hop,qmc]at hc;split at hc
   ·simp only[ql9]at hc;obtain⟨n,hn,z,hz,ps,hps,hc⟩:=hc
    (repeat' split at hc) <;> cases hc
   ·cases hc
 | load t x=>
   simp only[hop,qmc,ql9]at hc;obtain⟨agg,ha,sz,hs,hc⟩:=hc;split at hc <;> cases hc
 | store t x y=>simp only[hop,qmc,ql9]at hc;obtain⟨z,hz,hc⟩:=hc;cases hc
 | unOp op t x=>cases op <;> simp only[hop]at hc <;> cases hc
 | convert s t x=>
   simp only[hop]at hc;split at hc
   ·cases hc
   ·cases hc
   ·split at hc <;> cases hc
   ·split at hc <;> cases hc
   ·cases hc
 | range t x=>simp only[hop]at hc;split at hc <;> cases hc
 | next x b=>cases b <;> simp only[hop]at hc <;> cases hc
 | entry x=>simp only[hop]at hc;cases hc
 | makeMap t r=>cases r <;> simp only[hop]at hc <;> cases hc
 | insert t m k v=>
   simp only[hop]at hc;split at hc
   ·simp only[qmc,ql9]at hc;obtain⟨q,hq,hc⟩:=hc;cases hc
   ·cases hc
 | mapUpdate t m k v=>
   simp only[hop]at hc;split at hc
   ·simp only[qmc,ql9]at hc;obtain⟨q,hq,hc⟩:=hc;cases hc
   ·cases hc
 | lookup t x k b=>
   simp only[hop]at hc;split at hc
   ·simp only[qmc,ql9]at hc;obtain⟨q,hq,z,hz,agg,ha,hc⟩:=hc;split at hc <;> cases hc
   ·cases hc
 | makeFunc fn first caps=>cases fn <;> simp only[hop]at hc <;> first|(cases hc;done)|(split at hc <;> cases hc)
 | makeSlice t l k=>
   simp only[hop,qmc]at hc;split at hc
   ·simp only[ql9]at hc;obtain⟨n,hn,z,hz,agg,ha,hc⟩:=hc;split at hc <;> cases hc
   ·cases hc
 | slice t x lo hi mx=>
   cases mx with
   | some m=>simp[hop]at hc
   | none=>
     simp only[hop,qmc]at hc;split at hc
     ·simp only[ql9]at hc;obtain⟨n,hn,hc⟩:=hc;cases hc
     ·cases hc
     ·cases hc
 | fieldAddr t x f=>
   simp only[hop,qmc]at hc;split at hc
   ·simp only[ql9]at hc;obtain⟨fd,hf,sz,hs,hc⟩:=hc;split at hc <;> cases hc
   ·cases hc
 | field t x f=>
   simp only[hop,qmc]at hc;split at hc
   ·simp only[ql9]at hc;obtain⟨fd,hf,agg,ha,sz,hs,hc⟩:=hc;split at hc <;> cases hc
   ·cases hc
 | indexAddr t x i=>
   simp only[hop,qmc]at hc;split at hc
   ·simp only[ql9]at hc;obtain⟨n,hn,hc⟩:=hc;cases hc
   ·split at hc
    ·simp only[ql9]at hc;obtain⟨sz,hs,hc⟩:=hc;split at hc <;> cases hc
    ·simp only[ql9]at hc;obtain⟨sz,hs,hc⟩:=hc;cases hc
   ·cases hc
 | index t x i=>simp only[hop]at hc;split at hc <;> cases hc
 | makeInterface t x=>
   simp only[hop]at hc;split at hc
   ·split at hc <;> cases hc
   ·cases hc
 | panic x=>simp only[hop]at hc;split at hc <;> cases hc
 | _=>simp[hop]at hc
theorem B2{K:D->ab->Prop}{z:List PanicEntry->Prop}(hS:CallOk E.dq P z S c)(hc:bY P im o=some c)(hst:StW E tp H w)(hd:a.defers=E.ds)(hN:a.tmps.size=E.N)(hr:∀t,R tp (aM E.O tp H w) w (a.tmps.getD t undef) (σ t))
 (hdst:∀t,o.dst=some t->t < E.N) (hv:aC S c o.dst σ H K)
 {next:Act->World->Prop} {Q:Exit->Act->World->Prop} (hpan:∀c w',OJ E z c w'->Q (.panic c) a w') (hnext:∀r H' x w',K r H'->St E (dH σ o.dst r) H' (a.put o.dst x) w'->next (a.put o.dst x) w'):o.wp P a w next Q:=by
 by_cases hcall:c.isCall=true
 ·have hops:=jL hc;cases c <;> simp[COp.isCall]at hcall
  ·rename_i f args;rcases JU hc with⟨q,hop,hcal,hargs,hne⟩|⟨x,hop,hf,ha,hsz⟩
   rotate_left
   ·subst ha;subst hf;have hxo:tK x=true:=qmg.1 hops x (by simp[hop,Op.operands]);have hxR:=Oi hr x hxo;simp only[CallOk,if_true]at hS;have hz:=hS hsz E.O tp w (a.eval x) (ev σ x) H (o.dst.getD 0) K (λb hb=>qmA (hst.hO b hb) hst.step.size) hst.tpg hst.sat hxR hv;obtain⟨⟨t,v,hv1⟩,hz⟩:=hz;unfold Oper.wp;have:(execOp a.eval o).run P w= .halt (.panic (a.eval x)) w:=by
     simp[execOp,hop,hv1,Instr.panic,goPanic]
    rw[this];exact hpan _ _ ⟨hz,hst.stepTo (.refl _ _ _)⟩
   simp only[CallOk,if_neg hne]at hS;have hao:∀x∈args,tK x=true:=λx hx=>qmg.1 hops x (by
    simp only[hop,Op.operands,Call.operands];rw[<-hargs]at hx;simp;right;simpa using hx)
   simp only[aC]at hv;refine JZ (vs:=args.map a.eval) (ds:=args.map (ev σ)) hS hst hd hN hr (λ_ _ hce=>?_) (by rw[qmN,qmN]) (OB hr hao) hv hdst hpan hnext;have he:q.args.map a.eval=(args.map a.eval).toArray:=by rw[<-hargs];exact qnu.1 (by rw[qnJ])
   simp[execOp,hop,resolve,hcal,Act.eval,Deferred.ofValue,invoke,he,hce _ w]
  ·rename_i f args;obtain⟨q,hop,hcal,hargs⟩:=Gp hc;have hao:∀x∈args,tK x=true:=λx hx=>qmg.1 hops x (by
    simp only[hop,Op.operands,Call.operands];rw[<-hargs]at hx;simp;right;simpa using hx)
   have hfo:tK f=true:=qmg.1 hops f (by
    simp only[hop,Op.operands,Call.operands,hcal];simp)
   have hfR:=Oi hr f hfo;simp only[aC]at hv;split at hv
   ·rename_i g caps e1;rw[e1]at hfR;generalize hq:a.eval f=fv at hfR;cases hfR with
    | clo _ xs _ hl h=>
      refine JZ (vs:=args.map a.eval++xs) (ds:=args.map (ev σ) ++caps) (hS g) hst hd hN hr (λ_ _ hce=>?_) (by rw[qmF,qmF,qmN,qmN,hl]) ?_ hv hdst hpan hnext
      ·have he:q.args.map a.eval=(args.map a.eval).toArray:=by rw[<-hargs];exact qnu.1 (by rw[qnJ])
       simp[execOp,hop,resolve,hcal,hq,Deferred.ofValue,invoke,he,hce _ w]
      ·intro k x e h1 h2;by_cases hk:k < args.length
       ·rw[qmr (by simpa using hk)]at h1 h2;exact OB hr hao k x e h1 h2
       ·rw[qmn (by simp;omega)]at h1 h2;simp only[qmN]at h1 h2;exact h _ x e h1 h2
   ·exact hv.elim
  ·rename_i r f args;obtain⟨q,hop,hcal,hargs⟩:=Gq hc;have hao:∀x∈args,tK x=true:=λx hx=>qmg.1 hops x (by
    simp only[hop,Op.operands,Call.operands];rw[<-hargs]at hx;simp;right;simpa using hx)
   simp only[aC]at hv;have hS:TriZ E.dq z P f (S f).pt:=hS;refine JZ (vs:=args.map a.eval) (ds:=args.map (ev σ)) hS hst hd hN hr (λ_ _ hce=>?_) (by rw[qmN,qmN]) (OB hr hao) hv hdst hpan hnext;have he:q.args.map a.eval=(args.map a.eval).toArray:=by rw[<-hargs];exact qnu.1 (by rw[qnJ])
   simp[execOp,hop,resolve,hcal,Act.eval,Deferred.ofValue,invoke,he,hce _ w]
 ·have hnc:c.isCall=false:=by simpa using hcall
  have hv':aU c o.dst σ H K:=by
   cases c <;> first|exact hv|(simp[COp.isCall]at hnc)
  obtain⟨nx,x,d,H',w',hrun,hnx,hm,hR,hk⟩:=Tl hc hnc hst hr hv';have hst':=St.put hd hN hr hm o.dst hdst hR;unfold Oper.wp;rw[hrun];rcases hnx with rfl|⟨rfl,rfl⟩
  ·exact hnext d H' x w' hk hst'
  ·exact hnext d H' Go.undef w' hk hst'
end
end Go.Gv
