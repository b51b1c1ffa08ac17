/- A part of the framework and of the walks: T1. -/
import Derived.Test.YtfbleenmepoodaaGreatDoorGa09
set_option linter.unusedSimpArgs false
set_option linter.unusedVariables false
set_option linter.unusedSectionVars false
set_option linter.defProp false
namespace Go.Gv
variable {dq:Prop}
def fy(P:Program)(f:Nat):Prop:=∀ (args:Array Value) (w:World),(callFunc f args).run P w= .ok (.enter f args) w
def MG(dq:Prop)(O tp:Nat->Prop)(H:aa)(w:World)(K:D->aa->Prop)(e:Ending)(w':World):Prop:=
 ∃x r H' tp',e= .returned x/\K r H'/\(∀b,tp b->tp' b)/\(∀b,tp' b->tp b\/w.heap.size<=b)/\(∀b,tp' b->b < w'.heap.size)/\
  Step dq tp (bF H) w w'/\(∀b,bF H' b->bF H b\/w.heap.size<=b)/\Zu O tp' H' w'/\R tp' (aI O tp' H' w') w' x r
def Tri(dq:Prop)(P:Program)(f:Nat)(A:PT):Prop:=
 ∀ (O tp:Nat->Prop) (w:World) (vs:List Value) (ds:List D) (H:aa) (d:Nat) (K:D->aa->Prop),
  (∀b,O b->b < w.heap.size)->TpG tp (bF H) w->Zu O tp H w->vs.length=ds.length->
  (∀ (k:Nat) (x:Value) (c:D),vs[k]? =some x->ds[k]? =some c->R tp (aI O tp H w) w x c)->A d ds H K->
  fy P f/\Calls P f vs.toArray w (MG dq O tp H w K)
def qch(dq:Prop)(z:List PanicEntry->Prop)(O tp:Nat->Prop)(H:aa)(w:World)(K:D->aa->Prop)(e:Ending)(w':World):Prop:=
 MG dq O tp H w K e w'\/ ∃c,e= .panicked c/\z c/\Step dq tp (bF H) w w'
def TriZ(dq:Prop)(z:List PanicEntry->Prop)(P:Program)(f:Nat)(A:PT):Prop:=
 ∀ (O tp:Nat->Prop) (w:World) (vs:List Value) (ds:List D) (H:aa) (d:Nat) (K:D->aa->Prop),
  (∀b,O b->b < w.heap.size)->TpG tp (bF H) w->Zu O tp H w->vs.length=ds.length->
  (∀ (k:Nat) (x:Value) (c:D),vs[k]? =some x->ds[k]? =some c->R tp (aI O tp H w) w x c)->A d ds H K->
  fy P f/\Calls P f vs.toArray w (qch dq z O tp H w K)
def JN:List PanicEntry->Prop:=λ_=>False
def Tri.z{z:List PanicEntry->Prop}{P:Program}{f:Nat}{A:PT}(h:Tri dq P f A):TriZ dq z P f A:=λO tp w vs ds H d K h1 h2 h3 h4 h5 h6=>
 ⟨(h O tp w vs ds H d K h1 h2 h3 h4 h5 h6).1,(h O tp w vs ds H d K h1 h2 h3 h4 h5 h6).2.mono λ_ _ h=> .inl h⟩
def TriZ.no{P:Program}{f:Nat}{A:PT}(h:TriZ dq JN P f A):Tri dq P f A:=λO tp w vs ds H d K h1 h2 h3 h4 h5 h6=>
 ⟨(h O tp w vs ds H d K h1 h2 h3 h4 h5 h6).1,(h O tp w vs ds H d K h1 h2 h3 h4 h5 h6).2.mono λ_ _ h=>h.elim id λ⟨_,_,h,_⟩=>h.elim⟩
def ME(E:sw)(z:List PanicEntry->Prop)(c:List PanicEntry)(w':World):Prop:=z c/\Step E.dq E.tp0 E.own0 E.w0 w'
def StW.stepTo{E:sw}{tp:Nat->Prop}{H:aa}{w w':World}(h:StW E tp H w)(hs:Step E.dq tp (bF H) w w'):Step E.dq E.tp0 E.own0 E.w0 w':=by
 have hw:E.w0.heap.size<=w.heap.size:=h.step.size;refine⟨hs.os.trans h.step.os,hs.tape.trans h.step.tape,hs.output.trans h.step.output,qj8 hw hs.size,λb hb ho htp=>?_,λb hb=>(h.step.tapes b hb).trans (hs.tapes b (h.tpx b hb)),λq=>qj8 (h.step.drawn q) (hs.drawn q)⟩;rw[hs.same b (by omega) (λhown=>?_) (λhT=>?_)]
 ·exact h.step.same b hb ho htp
 ·rcases h.loc b hown with h1|h1
  ·exact ho h1
  ·omega
 ·rcases h.tpn b hT with h1|h1
  ·exact htp h1
  ·omega
def aA(S:Nat->Spc)(c:COp)(dst:Option Nat)(σ:Sg)(H:aa)(K:D->aa->Prop):Prop:=
 match c with
 | .call f args=>(S f).pt (dst.getD 0) (args.map (ev σ)) H K
 | .callb _ f args=>(S f).pt (dst.getD 0) (args.map (ev σ)) H K
 | .callv f args=>match ev σ f with
   | .clo g caps=>(S g).pt (dst.getD 0) (args.map (ev σ) ++caps) H K
   | _=>False
 | c=>aP c dst σ H K
def qcf(z:List PanicEntry->Prop)(P:Program)(A:PT):Prop:=P.funcs.size<=vr->∀ (O tp:Nat->Prop) (w:World) (v:Value) (e:D) (H:aa) (d:Nat) (K:D->aa->Prop),
 (∀b,O b->b < w.heap.size)->TpG tp (bF H) w->Zu O tp H w->R tp (aI O tp H w) w v e->A d [e] H K->(∃t x,v= .iface t x)/\z [{ v:=v,recovered:=false }]
def CallOk(dq:Prop)(P:Program)(z:List PanicEntry->Prop)(S:Nat->Spc):COp->Prop
 | .call f _=>if f=vr then qcf z P (S vr).pt else TriZ dq z P f (S f).pt
 | .callv _ _=>∀g,TriZ dq z P g (S g).pt
 | .callb _ f _=>TriZ dq z P f (S f).pt
 | _=>True
def TriZ.up{z:List PanicEntry->Prop}{P:Program}{f:Nat}{A:PT}(h:TriZ dq JN P f A):TriZ dq z P f A:=h.no.z
def CallOk.up{z:List PanicEntry->Prop}{P:Program}{S:Nat->Spc}{c:COp}(h:CallOk dq P JN S c):CallOk dq P z S c:=by
 cases c <;> try exact trivial
 ·simp only[CallOk]at h ⊢;split
  ·rename_i e;rw[if_pos e]at h;exactλa O tp w v e' H d K h1 h2 h3 h4 h5=>((h a O tp w v e' H d K h1 h2 h3 h4 h5).2).elim
  ·rename_i e;rw[if_neg e]at h;exact h.up
 ·exactλg=>(h g).up
 ·exact TriZ.up h
def Pn{P:Program}{S:Nat->Spc}(h:∀f,Tri dq P f (S f).pt)(c:COp):CallOk dq P JN S c:=by
 cases c <;> try exact trivial
 ·rename_i f args;simp only[CallOk];split
  ·intro hsz O tp w v e H d K h1 h2 h3 h4 h5;obtain⟨_,hc⟩:=h vr O tp w [v] [e] H d K h1 h2 h3 rfl (λk x c hx hc=>by
    rcases k with _|k
    ·cases hx;cases hc;exact h4
    ·simp at hx) h5
   obtain⟨e',w',fr,hR,_,hfn,hl⟩:=hc [];obtain⟨x,r,H',tp',rfl,_⟩:=hR;obtain⟨_,_,_,fn,hf,_⟩:=hl;rw[hfn]at hf;have:=(qjG.1 hf).1;omega
  ·exact(h f).z
 ·exactλg=>(h g).z
 ·exact(h _).z
section
variable {P:Program}{im:List Nat}{o:Oper}{c:COp}{a:Act}{E:sw}{tp:Nat->Prop}{H:aa}{w:World}{σ:Sg}{S:Nat->Spc}
theorem HS{A:PT}{f:Nat}{vs:List Value}{ds:List D}{d:Nat}{K:D->aa->Prop}{z:List PanicEntry->Prop}(hS:TriZ E.dq z P f A)(hst:StW E tp H w)(hd:a.defers=E.ds)(hN:a.tmps.size=E.N)(hr:∀t,R tp (aI E.O tp H w) w (a.tmps.getD t undef) (σ t))
 (hrun:∀ (g:Array Value) (w':World),(fy P f)->(execOp a.eval o).run P w= .ok (.enter f vs.toArray) w) (hlen:vs.length=ds.length)
 (hargs:∀ (k:Nat) (x:Value) (e:D),vs[k]? =some x->ds[k]? =some e->R tp (aI E.O tp H w) w x e) (hA:A d ds H K) (hdst:∀t,o.dst=some t->t < E.N)
 {next:Act->World->Prop} {Q:Exit->Act->World->Prop} (hpan:∀c w',ME E z c w'->Q (.panic c) a w') (hnext:∀r H' x w',K r H'->St E (du σ o.dst r) H' (a.put o.dst x) w'->next (a.put o.dst x) w'):o.wp P a w next Q:=by
 obtain⟨hce,hc⟩:=hS E.O tp w vs ds H d K (λb hb=>qjZ (hst.hO b hb) hst.step.size) hst.tpg hst.sat hlen hargs hA;unfold Oper.wp;rw[hrun #[] w hce];simp only[Oper.upon];refine hc.mono ?_;rintro e w' (⟨x,r,H',tp',rfl,hk,h1,h2,h3,h4,h5,h6,h7⟩|⟨c,rfl,hz,hs⟩)
 rotate_left
 ·exact hpan c w' ⟨hz,hst.stepTo hs⟩
 have hm:=hst.move h4 h1 h2 h3 h5 h6;exact hnext r H' x w' hk (St.put hd hN hr hm o.dst hdst h7)
def Mz(hr:∀t,R tp (aI E.O tp H w) w (a.tmps.getD t undef) (σ t)){args:List Operand}(hargs:∀x∈args,sq x=true):
 ∀ (k:Nat) (x:Value) (e:D),(args.map a.eval)[k]? =some x->(args.map (ev σ))[k]? =some e->R tp (aI E.O tp H w) w x e:=by
 intro k x e h1 h2;rw[qjU]at h1 h2;obtain⟨q,hq,rfl⟩:=ay h1;rw[hq]at h2;cases h2;exact Mj hr q (hargs q (qjD hq))
theorem HN{f:Nat}{args:List Operand}(hc:bP P im o=some (.call f args)):(∃q:Call,o.op= .call q/\q.callee= .value (.func f)/\q.args.toList=args/\f≠vr)\/ ∃x,o.op= .panic x/\f=vr/\args=[x]/\P.funcs.size<=vr:=by
 have hops:=jg hc;unfold bP at hc;rw[if_neg (by simpa using hops)]at hc;cases hop:o.op with
 | call q=>
   simp only[hop]at hc;split at hc
   ·rename_i g hcal;split at hc
    ·cases hc
    ·rename_i hne;cases hb:NO im o.dst with
     | some r=>rw[hb]at hc;cases hc
     | none=>
       rw[hb]at hc;cases hc;exact .inl ⟨q,rfl,hcal,rfl,hne⟩
   ·cases hc
   ·(repeat' split at hc) <;> cases hc
   ·cases hc
   ·cases hc
   all_goals
    exfalso
    (repeat' split at hc) <;> first
      | (cases hc;done)
      | (simp only[qjB,qjy]at hc
         obtain⟨n,hn,z,hz,agg,ha,hc⟩:=hc;split at hc <;> cases hc;done)
      | (simp only[qjB,qjy]at hc
         obtain⟨n,hn,z,hz,hc⟩:=hc;split at hc <;> cases hc;done)
      | (simp only[qjB,qjy]at hc
         obtain⟨n,hn,hc⟩:=hc;split at hc <;> cases hc;done)
      | (simp only[qjB,qjy]at hc
         obtain⟨n,hn,hc⟩:=hc;cases hc;done)
 | binOp op t x y u=>
   exfalso;simp only[hop]at hc;unfold jh at hc
   (repeat' split at hc) <;> first
     | (cases hc;done)
     | (cases hks:rH P t <;> simp[hks]at hc)
 | alloc el=>simp only[hop,qjB,qjy]at hc;obtain⟨z,hz,hc⟩:=hc;cases hc
 | box el x=>simp only[hop]at hc;split at hc <;> cases hc
 | build t parts=>
   simp only[hop,qjB,qjy]at hc;obtain⟨z,hz,hc⟩:=hc;split at hc
   ·obtain⟨ps,hps,hc⟩:=qjy.1 hc;split at hc <;> cases hc
   ·simp only[qjy]at hc;obtain⟨sz,hs,ps,hps,hc⟩:=hc;cases hc
   ·cases hc
 | buildSlice t len parts=>
   simp only[hop,qjB]at hc;split at hc
   ·simp only[qjy]at hc;obtain⟨n,hn,z,hz,ps,hps,hc⟩:=hc
    (repeat' split at hc) <;> cases hc
   ·cases hc
 | load t x=>
   simp only[hop,qjB,qjy]at hc;obtain⟨agg,ha,sz,hs,hc⟩:=hc;split at hc <;> cases hc
 | store t x y=>simp only[hop,qjB,qjy]at hc;obtain⟨z,hz,hc⟩:=hc;cases hc
 | unOp op t x=>cases op <;> simp only[hop]at hc <;> cases hc
 | convert s t x=>
   simp only[hop]at hc;split at hc
   ·cases hc
   ·cases hc
   ·split at hc <;> cases hc
   ·split at hc <;> cases hc
   ·cases hc
 | range t x=>simp only[hop]at hc;split at hc <;> cases hc
 | next x b=>cases b <;> simp only[hop]at hc <;> cases hc
 | entry x=>simp only[hop]at hc;cases hc
 | makeMap t r=>cases r <;> simp only[hop]at hc <;> cases hc
 | insert t m k v=>
   simp only[hop]at hc;split at hc
   ·simp only[qjB,qjy]at hc;obtain⟨q,hq,hc⟩:=hc;cases hc
   ·cases hc
 | mapUpdate t m k v=>
   simp only[hop]at hc;split at hc
   ·simp only[qjB,qjy]at hc;obtain⟨q,hq,hc⟩:=hc;cases hc
   ·cases hc
 | lookup t x k b=>
   simp only[hop]at hc;split at hc
   ·simp only[qjB,qjy]at hc;obtain⟨q,hq,z,hz,agg,ha,hc⟩:=hc;split at hc <;> cases hc
   ·cases hc
 | makeFunc fn first caps=>cases fn <;> simp only[hop]at hc <;> first|(cases hc;done)|(split at hc <;> cases hc)
 | makeSlice t l k=>
   simp only[hop,qjB]at hc;split at hc
   ·simp only[qjy]at hc;obtain⟨n,hn,z,hz,agg,ha,hc⟩:=hc;split at hc <;> cases hc
   ·cases hc
 | slice t x lo hi mx=>
   cases mx with
   | some m=>simp[hop]at hc
   | none=>
     simp only[hop,qjB]at hc;split at hc
     ·simp only[qjy]at hc;obtain⟨n,hn,hc⟩:=hc;cases hc
     ·cases hc
     ·cases hc
 | fieldAddr t x f=>
   simp only[hop,qjB]at hc;split at hc
   ·simp only[qjy]at hc;obtain⟨fd,hf,sz,hs,hc⟩:=hc;split at hc <;> cases hc
   ·cases hc
 | field t x f=>
   simp only[hop,qjB]at hc;split at hc
   ·simp only[qjy]at hc;obtain⟨fd,hf,agg,ha,sz,hs,hc⟩:=hc;split at hc <;> cases hc
   ·cases hc
 | indexAddr t x i=>
   simp only[hop,qjB]at hc;split at hc
   ·simp only[qjy]at hc;obtain⟨n,hn,hc⟩:=hc;cases hc
   ·split at hc
    ·simp only[qjy]at hc;obtain⟨sz,hs,hc⟩:=hc;split at hc <;> cases hc
    ·simp only[qjy]at hc;obtain⟨sz,hs,hc⟩:=hc;cases hc
   ·cases hc
 | index t x i=>simp only[hop]at hc;split at hc <;> cases hc
 | makeInterface t x=>
   simp only[hop]at hc;split at hc
   ·split at hc <;> cases hc
   ·cases hc
 | panic x=>
   simp only[hop]at hc;split at hc
   ·rename_i h;cases hc;simp only[qjE,decide_eq_true_eq]at h;exact .inr ⟨x,rfl,rfl,rfl,h.2⟩
   ·cases hc
 | _=>simp[hop]at hc
theorem EF{f:Operand}{args:List Operand}(hc:bP P im o=some (.callv f args)):∃q:Call,o.op= .call q/\q.callee= .value f/\q.args.toList=args:=by
 have hops:=jg hc;unfold bP at hc;rw[if_neg (by simpa using hops)]at hc;cases hop:o.op with
 | call q=>
   simp only[hop]at hc;split at hc
   ·split at hc
    ·cases hc
    ·cases hb:NO im o.dst <;> rw[hb]at hc <;> cases hc
   ·rename_i g _ hcal;cases hc;exact⟨q,rfl,hcal,rfl⟩
   ·(repeat' split at hc) <;> cases hc
   ·cases hc
   ·cases hc
   all_goals
    exfalso
    (repeat' split at hc) <;> first
      | (cases hc;done)
      | (simp only[qjB,qjy]at hc
         obtain⟨n,hn,z,hz,agg,ha,hc⟩:=hc;split at hc <;> cases hc;done)
      | (simp only[qjB,qjy]at hc
         obtain⟨n,hn,z,hz,hc⟩:=hc;split at hc <;> cases hc;done)
      | (simp only[qjB,qjy]at hc
         obtain⟨n,hn,hc⟩:=hc;split at hc <;> cases hc;done)
      | (simp only[qjB,qjy]at hc
         obtain⟨n,hn,hc⟩:=hc;cases hc;done)
 | binOp op t x y u=>
   exfalso;simp only[hop]at hc;unfold jh at hc
   (repeat' split at hc) <;> first
     | (cases hc;done)
     | (cases hks:rH P t <;> simp[hks]at hc)
 | alloc el=>simp only[hop,qjB,qjy]at hc;obtain⟨z,hz,hc⟩:=hc;cases hc
 | box el x=>simp only[hop]at hc;split at hc <;> cases hc
 | build t parts=>
   simp only[hop,qjB,qjy]at hc;obtain⟨z,hz,hc⟩:=hc;split at hc
   ·obtain⟨ps,hps,hc⟩:=qjy.1 hc;split at hc <;> cases hc
   ·simp only[qjy]at hc;obtain⟨sz,hs,ps,hps,hc⟩:=hc;cases hc
   ·cases hc
 | buildSlice t len parts=>
   simp only[hop,qjB]at hc;split at hc
   ·simp only[qjy]at hc;obtain⟨n,hn,z,hz,ps,hps,hc⟩:=hc
    (repeat' split at hc) <;> cases hc
   ·cases hc
 | load t x=>
   simp only[hop,qjB,qjy]at hc;obtain⟨agg,ha,sz,hs,hc⟩:=hc;split at hc <;> cases hc
 | store t x y=>simp only[hop,qjB,qjy]at hc;obtain⟨z,hz,hc⟩:=hc;cases hc
 | unOp op t x=>cases op <;> simp only[hop]at hc <;> cases hc
 | convert s t x=>
   simp only[hop]at hc;split at hc
   ·cases hc
   ·cases hc
   ·split at hc <;> cases hc
   ·split at hc <;> cases hc
   ·cases hc
 | range t x=>simp only[hop]at hc;split at hc <;> cases hc
 | next x b=>cases b <;> simp only[hop]at hc <;> cases hc
 | entry x=>simp only[hop]at hc;cases hc
 | makeMap t r=>cases r <;> simp only[hop]at hc <;> cases hc
 | insert t m k v=>
   simp only[hop]at hc;split at hc
   ·simp only[qjB,qjy]at hc;obtain⟨q,hq,hc⟩:=hc;cases hc
   ·cases hc
 | mapUpdate t m k v=>
   simp only[hop]at hc;split at hc
   ·simp only[qjB,qjy]at hc;obtain⟨q,hq,hc⟩:=hc;cases hc
   ·cases hc
 | lookup t x k b=>
   simp only[hop]at hc;split at hc
   ·simp only[qjB,qjy]at hc;obtain⟨q,hq,z,hz,agg,ha,hc⟩:=hc;split at hc <;> cases hc
   ·cases hc
 | makeFunc fn first caps=>cases fn <;> simp only[hop]at hc <;> first|(cases hc;done)|(split at hc <;> cases hc)
 | makeSlice t l k=>
   simp only[hop,qjB]at hc;split at hc
   ·simp only[qjy]at hc;obtain⟨n,hn,z,hz,agg,ha,hc⟩:=hc;split at hc <;> cases hc
   ·cases hc
 | slice t x lo hi mx=>
   cases mx with
   | some m=>simp[hop]at hc
   | none=>
     simp only[hop,qjB]at hc;split at hc
     ·simp only[qjy]at hc;obtain⟨n,hn,hc⟩:=hc;cases hc
     ·cases hc
     ·cases hc
 | fieldAddr t x f=>
   simp only[hop,qjB]at hc;split at hc
   ·simp only[qjy]at hc;obtain⟨fd,hf,sz,hs,hc⟩:=hc;split at hc <;> cases hc
   ·cases hc
 | field t x f=>
   simp only[hop,qjB]at hc;split at hc
   ·simp only[qjy]at hc;obtain⟨fd,hf,agg,ha,sz,hs,hc⟩:=hc;split at hc <;> cases hc
   ·cases hc
 | indexAddr t x i=>
   simp only[hop,qjB]at hc;split at hc
   ·simp only[qjy]at hc;obtain⟨n,hn,hc⟩:=hc;cases hc
   ·split at hc
    ·simp only[qjy]at hc;obtain⟨sz,hs,hc⟩:=hc;split at hc <;> cases hc
    ·simp only[qjy]at hc;obtain⟨sz,hs,hc⟩:=hc;cases hc
   ·cases hc
 | index t x i=>simp only[hop]at hc;split at hc <;> cases hc
 | makeInterface t x=>
   simp only[hop]at hc;split at hc
   ·split at hc <;> cases hc
   ·cases hc
 | panic x=>simp only[hop]at hc;split at hc <;> cases hc
 | _=>simp[hop]at hc
theorem EG{r f:Nat}{args:List Operand}(hc:bP P im o=some (.callb r f args)):∃q:Call,o.op= .call q/\q.callee= .value (.func f)/\q.args.toList=args:=by
 have hops:=jg hc;unfold bP at hc;rw[if_neg (by simpa using hops)]at hc;cases hop:o.op with
 | call q=>
   simp only[hop]at hc;split at hc
   ·rename_i g hcal;split at hc
    ·cases hc
    ·cases hb:NO im o.dst with
     | none=>rw[hb]at hc;cases hc
     | some r'=>
       rw[hb]at hc;cases hc;exact⟨q,rfl,hcal,rfl⟩
   ·cases hc
   ·(repeat' split at hc) <;> cases hc
   ·cases hc
   ·cases hc
   all_goals
    exfalso
    (repeat' split at hc) <;> first
      | (cases hc;done)
      | (simp only[qjB,qjy]at hc
         obtain⟨n,hn,z,hz,agg,ha,hc⟩:=hc;split at hc <;> cases hc;done)
      | (simp only[qjB,qjy]at hc
         obtain⟨n,hn,z,hz,hc⟩:=hc;split at hc <;> cases hc;done)
      | (simp only[qjB,qjy]at hc
         obtain⟨n,hn,hc⟩:=hc;split at hc <;> cases hc;done)
      | (simp only[qjB,qjy]at hc
         obtain⟨n,hn,hc⟩:=hc;cases hc;done)
 | binOp op t x y u=>
   exfalso;simp only[hop]at hc;unfold jh at hc
   (repeat' split at hc) <;> first
     | (cases hc;done)
     | (cases hks:rH P t <;> simp[hks]at hc)
 | alloc el=>simp only[hop,qjB,qjy]at hc;obtain⟨z,hz,hc⟩:=hc;cases hc
 | box el x=>simp only[hop]at hc;split at hc <;> cases hc
 | build t parts=>
   simp only[hop,qjB,qjy]at hc;obtain⟨z,hz,hc⟩:=hc;split at hc
   ·obtain⟨ps,hps,hc⟩:=qjy.1 hc;split at hc <;> cases hc
   ·simp only[qjy]at hc;obtain⟨sz,hs,ps,hps,hc⟩:=hc;cases hc
   ·cases hc
 | buildSlice t len parts=>
   simp only[hop,qjB]at hc;split at hc
   ·simp only[qjy]at hc;obtain⟨n,hn,z,hz,ps,hps,hc⟩:=hc
    (repeat' split at hc) <;> cases hc
   ·cases hc
 | load t x=>
   simp only[hop,qjB,qjy]at hc;obtain⟨agg,ha,sz,hs,hc⟩:=hc;split at hc <;> cases hc
 | store t x y=>simp only[hop,qjB,qjy]at hc;obtain⟨z,hz,hc⟩:=hc;cases hc
 | unOp op t x=>cases op <;> simp only[hop]at hc <;> cases hc
 | convert s t x=>
   simp only[hop]at hc;split at hc
   ·cases hc
   ·cases hc
   ·split at hc <;> cases hc
   ·split at hc <;> cases hc
   ·cases hc
 | range t x=>simp only[hop]at hc;split at hc <;> cases hc
 | next x b=>cases b <;> simp only[hop]at hc <;> cases hc
 | entry x=>simp only[hop]at hc;cases hc
 | makeMap t r=>cases r <;> simp only[hop]at hc <;> cases hc
 | insert t m k v=>
   simp only[hop]at hc;split at hc
   ·simp only[qjB,qjy]at hc;obtain⟨q,hq,hc⟩:=hc;cases hc
   ·cases hc
 | mapUpdate t m k v=>
   simp only[hop]at hc;split at hc
   ·simp only[qjB,qjy]at hc;obtain⟨q,hq,hc⟩:=hc;cases hc
   ·cases hc
 | lookup t x k b=>
   simp only[hop]at hc;split at hc
   ·simp only[qjB,qjy]at hc;obtain⟨q,hq,z,hz,agg,ha,hc⟩:=hc;split at hc <;> cases hc
   ·cases hc
 | makeFunc fn first caps=>cases fn <;> simp only[hop]at hc <;> first|(cases hc;done)|(split at hc <;> cases hc)
 | makeSlice t l k=>
   simp only[hop,qjB]at hc;split at hc
   ·simp only[qjy]at hc;obtain⟨n,hn,z,hz,agg,ha,hc⟩:=hc;split at hc <;> cases hc
   ·cases hc
 | slice t x lo hi mx=>
   cases mx with
   | some m=>simp[hop]at hc
   | none=>
     simp only[hop,qjB]at hc;split at hc
     ·simp only[qjy]at hc;obtain⟨n,hn,hc⟩:=hc;cases hc
     ·cases hc
     ·cases hc
 | fieldAddr t x f=>
   simp only[hop,qjB]at hc;split at hc
   ·simp only[qjy]at hc;obtain⟨fd,hf,sz,hs,hc⟩:=hc;split at hc <;> cases hc
   ·cases hc
 | field t x f=>
   simp only[hop,qjB]at hc;split at hc
   ·simp only[qjy]at hc;obtain⟨fd,hf,agg,ha,sz,hs,hc⟩:=hc;split at hc <;> cases hc
   ·cases hc
 | indexAddr t x i=>
   simp only[hop,qjB]at hc;split at hc
   ·simp only[qjy]at hc;obtain⟨n,hn,hc⟩:=hc;cases hc
   ·split at hc
    ·simp only[qjy]at hc;obtain⟨sz,hs,hc⟩:=hc;split at hc <;> cases hc
    ·simp only[qjy]at hc;obtain⟨sz,hs,hc⟩:=hc;cases hc
   ·cases hc
 | index t x i=>simp only[hop]at hc;split at hc <;> cases hc
 | makeInterface t x=>
   simp only[hop]at hc;split at hc
   ·split at hc <;> cases hc
   ·cases hc
 | panic x=>simp only[hop]at hc;split at hc <;> cases hc
 | _=>simp[hop]at hc
theorem AE{K:D->aa->Prop}{z:List PanicEntry->Prop}(hS:CallOk E.dq P z S c)(hc:bP P im o=some c)(hst:StW E tp H w)(hd:a.defers=E.ds)(hN:a.tmps.size=E.N)(hr:∀t,R tp (aI E.O tp H w) w (a.tmps.getD t undef) (σ t))
 (hdst:∀t,o.dst=some t->t < E.N) (hv:aA S c o.dst σ H K)
 {next:Act->World->Prop} {Q:Exit->Act->World->Prop} (hpan:∀c w',ME E z c w'->Q (.panic c) a w') (hnext:∀r H' x w',K r H'->St E (du σ o.dst r) H' (a.put o.dst x) w'->next (a.put o.dst x) w'):o.wp P a w next Q:=by
 by_cases hcall:c.isCall=true
 ·have hops:=jg hc;cases c <;> simp[COp.isCall]at hcall
  ·rename_i f args;rcases HN hc with⟨q,hop,hcal,hargs,hne⟩|⟨x,hop,hf,ha,hsz⟩
   rotate_left
   ·subst ha;subst hf;have hxo:sq x=true:=qjF.1 hops x (by simp[hop,Op.operands]);have hxR:=Mj hr x hxo;simp only[CallOk,if_true]at hS;have hz:=hS hsz E.O tp w (a.eval x) (ev σ x) H (o.dst.getD 0) K (λb hb=>qjZ (hst.hO b hb) hst.step.size) hst.tpg hst.sat hxR hv;obtain⟨⟨t,v,hv1⟩,hz⟩:=hz;unfold Oper.wp;have:(execOp a.eval o).run P w= .halt (.panic (a.eval x)) w:=by
     simp[execOp,hop,hv1,Instr.panic,goPanic]
    rw[this];exact hpan _ _ ⟨hz,hst.stepTo (.refl _ _ _)⟩
   simp only[CallOk,if_neg hne]at hS;have hao:∀x∈args,sq x=true:=λx hx=>qjF.1 hops x (by
    simp only[hop,Op.operands,Call.operands];rw[<-hargs]at hx;simp;right;simpa using hx)
   simp only[aA]at hv;refine HS (vs:=args.map a.eval) (ds:=args.map (ev σ)) hS hst hd hN hr (λ_ _ hce=>?_) (by rw[qka,qka]) (Mz hr hao) hv hdst hpan hnext;have he:q.args.map a.eval=(args.map a.eval).toArray:=by rw[<-hargs];exact qkT.1 (by rw[qk8])
   simp[execOp,hop,resolve,hcal,Act.eval,Deferred.ofValue,invoke,he,hce _ w]
  ·rename_i f args;obtain⟨q,hop,hcal,hargs⟩:=EF hc;have hao:∀x∈args,sq x=true:=λx hx=>qjF.1 hops x (by
    simp only[hop,Op.operands,Call.operands];rw[<-hargs]at hx;simp;right;simpa using hx)
   have hfo:sq f=true:=qjF.1 hops f (by
    simp only[hop,Op.operands,Call.operands,hcal];simp)
   have hfR:=Mj hr f hfo;simp only[aA]at hv;split at hv
   ·rename_i g caps e1;rw[e1]at hfR;generalize hq:a.eval f=fv at hfR;cases hfR with
    | clo _ xs _ hl h=>
      refine HS (vs:=args.map a.eval++xs) (ds:=args.map (ev σ) ++caps) (hS g) hst hd hN hr (λ_ _ hce=>?_) (by rw[qj4,qj4,qka,qka,hl]) ?_ hv hdst hpan hnext
      ·have he:q.args.map a.eval=(args.map a.eval).toArray:=by rw[<-hargs];exact qkT.1 (by rw[qk8])
       simp[execOp,hop,resolve,hcal,hq,Deferred.ofValue,invoke,he,hce _ w]
      ·intro k x e h1 h2;by_cases hk:k < args.length
       ·rw[qjQ (by simpa using hk)]at h1 h2;exact Mz hr hao k x e h1 h2
       ·rw[qjK (by simp;omega)]at h1 h2;simp only[qka]at h1 h2;exact h _ x e h1 h2
   ·exact hv.elim
  ·rename_i r f args;obtain⟨q,hop,hcal,hargs⟩:=EG hc;have hao:∀x∈args,sq x=true:=λx hx=>qjF.1 hops x (by
    simp only[hop,Op.operands,Call.operands];rw[<-hargs]at hx;simp;right;simpa using hx)
   simp only[aA]at hv;have hS:TriZ E.dq z P f (S f).pt:=hS;refine HS (vs:=args.map a.eval) (ds:=args.map (ev σ)) hS hst hd hN hr (λ_ _ hce=>?_) (by rw[qka,qka]) (Mz hr hao) hv hdst hpan hnext;have he:q.args.map a.eval=(args.map a.eval).toArray:=by rw[<-hargs];exact qkT.1 (by rw[qk8])
   simp[execOp,hop,resolve,hcal,Act.eval,Deferred.ofValue,invoke,he,hce _ w]
 ·have hnc:c.isCall=false:=by simpa using hcall
  have hv':aP c o.dst σ H K:=by
   cases c <;> first|exact hv|(simp[COp.isCall]at hnc)
  obtain⟨nx,x,d,H',w',hrun,hnx,hm,hR,hk⟩:=QW hc hnc hst hr hv';have hst':=St.put hd hN hr hm o.dst hdst hR;unfold Oper.wp;rw[hrun];rcases hnx with rfl|⟨rfl,rfl⟩
  ·exact hnext d H' x w' hk hst'
  ·exact hnext d H' Go.undef w' hk hst'
end
end Go.Gv
