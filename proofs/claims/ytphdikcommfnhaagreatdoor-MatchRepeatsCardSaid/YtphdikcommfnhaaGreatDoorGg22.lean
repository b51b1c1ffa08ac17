/- A part of the framework and of the walks: T17 W10 W11 W12. -/
import Derived.Test.YtphdikcommfnhaaGreatDoorGg21
import Derived.Test.YtphdikcommfnhaaGreatDoorGg20
set_option linter.unusedSimpArgs false
set_option linter.unusedVariables false
set_option linter.unusedSectionVars false
set_option maxRecDepth 100000

namespace Go.Gv
def HWk(H H2:ab):Prop:=∀ (E:xn) (tp:Nat->Prop) (w:World),StW E tp H w->StW E tp H2 w/\∀x d,R tp (aM E.O tp H w) w x d->R tp (aM E.O tp H2 w) w x d
theorem HWk.refl(H:ab):HWk H H:=fun _ _ _ h=>⟨h,fun _ _ h=>h⟩
theorem Wk.trans{σ σ1 σ2:Sg}{H H1 H2:ab}(h:Wk σ H σ1 H1)(k:Wk σ1 H1 σ2 H2):Wk σ H σ2 H2:=fun E a w hs=>k E a w (h E a w hs)
def qdg(k:Nat)(ks:List Nat)(H:ab):ab:=fun i=>if i=k\/i∈ks then none else H i
def left(k b:Nat)(cs:List D)(ks:List Nat)(H:ab):ab:=fun i=>if i=k then some (.box b cs)else if i∈ks then H i else none
theorem qc5{H:ab}(k b:Nat)(cs cs':List D)(ks:List Nat)(hk:H k=some (.box b cs))(hl:cs.length=cs'.length)
 (hc:∀ (m:Nat) (c c':D),cs[m]? =some c->cs'[m]? =some c'->FrzTo (qdg k ks H) c c'):HWk H (left k b cs' ks H):=by
 intro E tp w h
 have hs:∀i r,left k b cs' ks H i=some r->(i=k/\r= .box b cs')\/(i≠k/\i∈ks/\H i=some r):=fun i r h1=>by
  simp only[left]at h1
  by_cases e:i=k
  ·rw[if_pos e]at h1;cases h1;exact .inl ⟨e,rfl⟩
  ·rw[if_neg e]at h1
   by_cases e2:i∈ks
   ·rw[if_pos e2]at h1;exact .inr ⟨e,e2,h1⟩
   ·rw[if_neg e2]at h1;cases h1
 have hblk:∀i r c,left k b cs' ks H i=some r->r.blk=some c->∃r0,H i=some r0/\r0.blk=some c:=fun i r c h1 h2=>by
  rcases hs i r h1 with⟨rfl,rfl⟩|⟨_,_,h3⟩
  ·exact⟨_,hk,h2⟩
  ·exact⟨r,h3,h2⟩
 have hown:∀c,bA (left k b cs' ks H) c->bA H c:=fun c ⟨i,r,h1,h2⟩=>by
  obtain⟨r0,h3,h4⟩:=hblk i r c h1 h2
  exact⟨i,r0,h3,h4⟩
 have himm:∀c,aM E.O tp H w c->aM E.O tp (left k b cs' ks H) w c:=fun c hb=>⟨hb.1,hb.2.1,hb.2.2.1,fun ho=>hb.2.2.2 (hown c ho)⟩
 have move:∀x d,R tp (aM E.O tp H w) w x d->R tp (aM E.O tp (left k b cs' ks H) w) w x d:=fun x d hr=>
  hr.mono (fun _ h=>h) (fun b hb=>⟨himm b hb,rfl⟩) (fun b _=> .refl _ _)
 refine⟨⟨h.hO,h.tpx,h.tpn,h.tpl,h.step,fun b hb=>h.loc b (hown b hb),⟨fun i j r s c h1 h2 h3 h4=>?_,fun i r c h1 h2=>?_,fun i r h1=>?_⟩⟩,move⟩
 ·obtain⟨r0,a1,a2⟩:=hblk i r c h1 h3
  obtain⟨s0,b1,b2⟩:=hblk j s c h2 h4
  exact h.sat.dis i j r0 s0 c a1 b1 a2 b2
 ·obtain⟨r0,a1,a2⟩:=hblk i r c h1 h2
  exact h.sat.out i r0 c a1 a2
 ·rcases hs i r h1 with⟨rfl,rfl⟩|⟨_,_,h3⟩
  ·obtain⟨xs,el,h1,h2,h3⟩:=h.sat.ok _ _ hk
   refine⟨xs,el,h1,h2.trans hl,fun m y c hy hc'=>?_⟩
   have hm:m < cs.length:=by rw[hl];exact(qtG.1 hc').1
   have h4:=h3 m y cs[m] hy (qtH hm)
   refine⟨h4.1,(hc m _ _ (qtH hm) hc').R (H:=bB) (fun i r hi=>?_) himm (fun i r c hi hb=>?_) h4.2⟩
   ·simp only[qdg]at hi
    split at hi
    ·cases hi
    ·exact h.sat.ok i r hi
   ·simp only[qdg]at hi
    split at hi
    ·cases hi
    ·rename_i hn
     have ho:=h.sat.out i r c hi hb
     refine⟨(h.sat.ok i r hi).lt hb,ho.1,ho.2,fun⟨j,s,k1,k2⟩=>?_⟩
     obtain⟨s0,k3,k4⟩:=hblk j s c k1 k2
     have e:=h.sat.dis i j r s0 c hi k3 hb k4
     subst e
     rcases hs i s k1 with⟨e,_⟩|⟨_,e,_⟩
     ·exact hn (.inl e)
     ·exact hn (.inr e)
  ·exact(h.sat.ok i r h3).conv move (fun _ _=>rfl)
section
variable {S:Nat->Spc}{σ:Sg}{H:ab}{K:Ex->Sg->ab->Prop}
theorem qbQ{X:Type}(P:X->Prop)(s:X->Sg)(h:X->ab){k:Nat}{a b:CC}
 (ha:vc S a (VH (fun σ' H'=>∃x,P x/\Wk σ' H' (s x) (h x)) K) σ H)
 (hb:∀x,P x->vc S b K (s x) (h x)):vc S (U7 k a b) K σ H:=by
 unfold U7
 rw[PE]
 refine vp a _ _ (fun e σ' H' h=>?_) ha
 cases e with
 | norm=>
   obtain⟨x,h1,h2⟩:=h
   rw[Iv,Z2]
   exact⟨_,_,h2,hb x h1⟩
 | ex i=>exact h
 | ret=>exact h
end
section
variable {P:Program}{im:List Nat}{E:xn}{S:Nat->Spc}
theorem Q3{f:Nat}{fn:Func}{code:Code}{cc:CC}{rs:List aj}{A:PT}(hS:∀f,Tri P f (S f).pt)(hmix:P.follows .mixedOrders=true)(hf:P.funcs[f]? =some fn)(hb:fn.body=some code)(hce:ee P f){N:Nat}(hN:fn.ntmps=N)
 (hcc:aA P im N code=some (be cc)) (hrs:fn.results.toList.mapM (fg P)=some rs)
 (hA:∀ (ds:List D) (H:ab) (d:Nat) (K:D->ab->Prop),A d ds H K->ds.length<=N/\
   ∃ (ds':List D) (H0:ab) (ι:Nat->Nat),LeL ds ds'/\(∀i r,H0 i=some r->H (ι i)=some r)/\(∀i j r s,H0 i=some r->H0 j=some s->ι i=ι j->i=j)/\
    ∃Q:D->ab->Prop,vc S cc (rG rs Q) (cR ds') H0/\∀r H',Q r H'->∃ (r':D) (H2 Hf Hc:ab) (κ:Nat->Option Nat),HWk H' H2/\FrzTo Hf r r'/\(∀j q,Hf j=some q->H2 j=some q/\∀i,κ i≠some j)/\K r' Hc/\
     (∀i s,Hc i=some s->match κ i with|some j=>H2 j=some s|none=>H i=some s/\∀k q,H0 k=some q->ι k≠i)/\
     (∀i j k s q,Hc i=some s->Hc j=some q->κ i=some k->κ j=some k->i=j)):Tri P f A:=by
 intro O tp w vs ds H d K hO htl hsat hlen hargs hAK
 refine⟨hce,?_⟩
 obtain⟨hdN,ds',H0,ι,hle,hsub,hinj,Q,hv,hQ⟩:=hA ds H d K hAK
 let passed:Nat->Prop:=fun i=>∃k q,H0 k=some q/\ι k=i
 let rest:Nat->Prop:=fun b=>∃i r,H i=some r/\ ¬passed i/\r.blk=some b
 let E:xn:={ O:=fun b=>O b\/rest b,tp0:=tp,w0:=w,own0:=bA H0,N:=N }
 have hownH0:∀b,bA H0 b->bA H b:=fun b ⟨i,r,h1,h2⟩=>⟨ι i,r,hsub i r h1,h2⟩
 have hrestlt:∀b,rest b->b < w.heap.size:=fun b ⟨i,r,h1,_,h2⟩=>(hsat.ok i r h1).lt h2
 have hrestown:∀b,rest b->¬bA H0 b:=fun b ⟨i,r,h1,h2,h3⟩ ⟨j,s,h4,h5⟩=>h2 ⟨j,s,h4,(hsat.dis i (ι j) r s b h1 (hsub j s h4) h3 h5).symm⟩
 have himm:∀b,aM O tp H w b->aM E.O tp H0 w b:=fun b hb=>⟨hb.1,fun h=>h.elim hb.2.1 (fun⟨i,r,h1,_,h2⟩=>hb.2.2.2 ⟨i,r,h1,h2⟩),hb.2.2.1,fun h=>hb.2.2.2 (hownH0 b h)⟩
 have hmove:∀x e,R tp (aM O tp H w) w x e->R tp (aM E.O tp H0 w) w x e:=fun x e hr=>hr.mono (fun _ h=>h) (fun b hb=>⟨himm b hb,rfl⟩) (fun b _=> .refl _ _)
 have hstw:StW E tp H0 w:=by
  refine⟨fun b hb=>hb.elim (hO b) (hrestlt b),fun b h=>h,fun b h=> .inl h,⟨htl.1,htl.2.mono (fun _ h=>h) hownH0⟩, .refl _ _ _,fun b hb=> .inl hb,⟨fun i j r s b h1 h2 h3 h4=>?_,fun i r b h1 h2=>⟨fun h=>?_,?_⟩,fun i r h1=>?_⟩⟩
  ·exact hinj i j r s h1 h2 (hsat.dis _ _ r s b (hsub i r h1) (hsub j s h2) h3 h4)
  ·rcases h with h|h
   ·exact(hsat.out _ r b (hsub i r h1) h2).1 h
   ·exact hrestown b h ⟨i,r,h1,h2⟩
  ·exact(hsat.out _ r b (hsub i r h1) h2).2
  ·exact(hsat.ok _ r (hsub i r h1)).conv hmove (fun _ _=>rfl)
 have hst:St E (cR ds') H0 { tmps:=vs.toArray++Array.replicate (fn.ntmps -vs.toArray.size) undef,defers:=[] } w:=by
  refine⟨rfl,?_,tp,hstw,fun t=>?_⟩
  ·show(vs.toArray++Array.replicate (fn.ntmps -vs.toArray.size) undef).size=N
   simp
   omega
  ·unfold cR
   cases hd:ds'[t]? with
   | none=>exact .any _
   | some e'=>
     have hlt:t < vs.length:=by rw[hlen,hle.1];exact(qtG.1 hd).1
     have hlt':t < ds.length:=by rw[<-hlen];exact hlt
     have hg:(vs.toArray++Array.replicate (fn.ntmps -vs.toArray.size) undef).getD t undef=vs[t]:=by
      rw[qud,quz (by simpa using hlt)]
      simp[hlt]
     simp only[qup,hg]
     have he:=qtH hlt'
     exact(hle.2 t _ e' he hd).R (H:=bB) (fun i r h=>by cases h) (fun _ h=>h) (fun i r b h=>by cases h) (hmove _ _ (hargs t _ _ (by simp[hlt]) he))
 have hwp:=uG hS hmix cc code (by exact hcc) _ _ _ _ w hst hv
 refine calls_of_wp hf hb (qu7 ?_ hwp)
 have fin:∀a' w' σ' H',St E σ' H' a' w'->(xq rs σ' H' fun ds=>Q (iF ds) H')->
  a'.defers=[]/\∃v,(results fn a'.tmps).run P w'= .ok v w'/\QA O tp H w K (.returned v) w':=by
  intro a' w' σ' H' hst' hres
  obtain⟨hd',hN',tp',hw',hr'⟩:=hst'
  obtain⟨v,r0,hrun,hR,hq⟩:=oQ (K:=fun r=>Q r H') hrs hr' hw'.sat.ok hres
  obtain⟨r,H2,Hf,Hc,κ,hW,hfz,hHf,hK,hκ,hκi⟩:=hQ r0 H' hq
  obtain⟨hw2,mv2⟩:=hW _ _ _ hw'
  refine⟨hd',v,hrun,v,r,Hc,tp',rfl,hK,hw2.tpx,hw2.tpn,hw2.tpl.1,?_,?_,?_,?_⟩
  ·-- the step
   have hs:=hw2.step
   exact⟨hs.os,hs.tape,hs.output,hs.size,fun b hb ho ht=>hs.same b hb (fun h=>ho (hownH0 b h)) ht,hs.tapes,hs.drawn⟩
  all_goals
   have hkn:∀i s,Hc i=some s->(∃j,κ i=some j/\H2 j=some s)\/(κ i=none/\H i=some s/\ ¬passed i):=fun i s hi=>by
    have:=hκ i s hi
    cases hk:κ i with
    | some j=>rw[hk]at this;exact .inl ⟨j,rfl,this⟩
    | none=>rw[hk]at this;exact .inr ⟨rfl,this.1,fun⟨k,q,h1,h2⟩=>this.2 k q h1 h2⟩
  ·intro b ⟨i,s,h1,h2⟩
   rcases hkn i s h1 with⟨j,_,h3⟩|⟨_,h3,_⟩
   ·rcases hw2.loc b ⟨j,s,h3,h2⟩with h4|h4
    ·exact .inl (hownH0 b h4)
    ·exact .inr h4
   ·exact .inl ⟨i,s,h3,h2⟩
  all_goals
   have hownc:∀b,bA Hc b->bA H2 b\/rest b:=fun b ⟨i,s,h1,h2⟩=>by
    rcases hkn i s h1 with⟨j,_,h3⟩|⟨_,h3,h4⟩
    ·exact .inl ⟨j,s,h3,h2⟩
    ·exact .inr ⟨i,s,h3,h4,h2⟩
   have himmc:∀b,aM E.O tp' H2 w' b->aM O tp' Hc w' b:=fun b hb=>⟨hb.1,fun h=>hb.2.1 (.inl h),hb.2.2.1,fun h=>by
    rcases hownc b h with h|h
    ·exact hb.2.2.2 h
    ·exact hb.2.1 (.inr h)⟩
   have hmovec:∀x e,R tp' (aM E.O tp' H2 w') w' x e->R tp' (aM O tp' Hc w') w' x e:=fun x e hr=>hr.mono (fun _ h=>h) (fun b hb=>⟨himmc b hb,rfl⟩) (fun b _=> .refl _ _)
  ·refine⟨fun i j s q b h1 h2 h3 h4=>?_,fun i s b h1 h2=>?_,fun i s h1=>?_⟩
   ·rcases hkn i s h1 with⟨i',e1,k1⟩|⟨e1,k1,p1⟩
    ·rcases hkn j q h2 with⟨j',e2,k2⟩|⟨e2,k2,p2⟩
     ·have:=hw2.sat.dis i' j' s q b k1 k2 h3 h4
      subst this
      exact hκi i j i' s q h1 h2 e1 e2
     ·exact absurd (Or.inr ⟨j,q,k2,p2,h4⟩) (hw2.sat.out i' s b k1 h3).1
    ·rcases hkn j q h2 with⟨j',e2,k2⟩|⟨e2,k2,p2⟩
     ·exact absurd (Or.inr ⟨i,s,k1,p1,h3⟩) (hw2.sat.out j' q b k2 h4).1
     ·exact hsat.dis i j s q b k1 k2 h3 h4
   ·rcases hkn i s h1 with⟨i',e1,k1⟩|⟨e1,k1,p1⟩
    ·have:=hw2.sat.out i' s b k1 h2
     exact⟨fun h=>this.1 (.inl h),this.2⟩
    ·have h3:=hsat.out i s b k1 h2
     refine⟨h3.1,fun h=>?_⟩
     rcases hw2.tpn b h with h4|h4
     ·exact h3.2 h4
     ·have:=(hsat.ok i s k1).lt h2
      have h4':w.heap.size<=b:=h4
      omega
   ·rcases hkn i s h1 with⟨i',e1,k1⟩|⟨e1,k1,p1⟩
    ·exact(hw2.sat.ok i' s k1).conv hmovec (fun _ _=>rfl)
    ·-- a resource that was not handed in is as it was
     have hs:=hw2.step
     have hsame:∀b,b < w.heap.size->¬bA H0 b->¬tp b->w'.heap[b]? =w.heap[b]?:=hs.same
     refine(hsat.ok i s k1).conv (fun x e hr=>?_) (fun b hb=>hsame b ((hsat.ok i s k1).lt hb) (hrestown b ⟨i,s,k1,p1,hb⟩) (hsat.out i s b k1 hb).2)
     refine hr.mono hw2.tpx (fun b hb=>?_) hs.tapes
     have h0:¬bA H0 b:=fun h=>hb.2.2.2 (hownH0 b h)
     have hsz:w.heap.size<=w'.heap.size:=hs.size
     have hbl:b < w.heap.size:=hb.1
     refine⟨⟨by omega,hb.2.1,fun h=>?_,fun h=>?_⟩,hsame b hb.1 h0 hb.2.2.1⟩
     ·rcases hw2.tpn b h with h4|h4
      ·exact hb.2.2.1 h4
      ·have h4':w.heap.size<=b:=h4
       omega
     ·rcases hownc b h with h|h
      ·rcases hw2.loc b h with h4|h4
       ·exact h0 h4
       ·have h4':w.heap.size<=b:=h4
        omega
      ·obtain⟨j,q,h5,_,h6⟩:=h
       exact hb.2.2.2 ⟨j,q,h5,h6⟩
  ·refine hfz.R (H:=bB) (fun i q hi=>hw2.sat.ok i q (hHf i q hi).1) himmc (fun i q b hi hb=>?_) (mv2 _ _ hR)
   obtain⟨hi',hne⟩:=hHf i q hi
   have ho:=hw2.sat.out i q b hi' hb
   refine⟨(hw2.sat.ok i q hi').lt hb,fun h=>ho.1 (.inl h),ho.2,fun⟨j,s,h1,h2⟩=>?_⟩
   rcases hkn j s h1 with⟨j',e1,k1⟩|⟨e1,k1,p1⟩
   ·have:=hw2.sat.dis i j' q s b hi' k1 hb h2
    subst this
    exact hne j e1
   ·exact ho.1 (.inr ⟨j,s,k1,p1,h2⟩)
 intro e a' w' hp
 cases e with
 | normal=>
   obtain⟨σ',H',hs,hk⟩:=hp
   exact fin a' w' σ' H' hs hk
 | ret=>
   obtain⟨σ',H',hs,hk⟩:=hp
   exact fin a' w' σ' H' hs hk
 | exit i=>
   obtain⟨σ',H',hs,hk⟩:=hp
   exact hk.elim
 | goto l=>exact hp.elim
 | panic c=>exact hp.elim
 | outgrown=>exact hp.elim
end
end Go.Gv

namespace Go.Gv
open Cod (enc dec)
variable {S S0:Nat->Spc}
theorem HR(x n:Int)(h:1<=n):0<=Eg x n/\Eg x n < n:=by
 unfold Eg
 rw[if_neg (by omega)]
 have h1:=Int.tmod_lt_of_pos x (show 0 < n by omega)
 have h2: -n < x.tmod n:=by
  have h3:=Int.natAbs_tmod x n
  have h4:x.natAbs % n.natAbs < n.natAbs:=qu4 _ (by omega)
  omega
 split <;> omega
def qhM:CC:= .reg [
 .op (some 4) none (.mv (.const (.int .i64 0)))]
def qf4:CC:= .seq (.regd [
 .op (some 5) none (.mv (.tmp 0)),
 .op (some 6) none (.nilck (.tmp 5)),
 .op (some 7) none (.faddr 1 (.tmp 6)),
 .op (some 8) none (.load false 1 (.tmp 7)),
 .op (some 9) none (.mv (.tmp 0)),
 .op (some 10) none (.nilck (.tmp 9)),
 .op (some 11) none (.faddr 0 (.tmp 10)),
 .op (some 12) none (.load false 1 (.tmp 11)),
 .op (some 13) none (.len (.tmp 12))] [
 .op (some 14) none (.cmp .geq (.tmp 8) (.tmp 13))]) (.ite (.tmp 14) (.seq (.reg [
  .op (some 4) none (.mv (.const (.int .i64 0)))]) .ret) .skip)
def qeq:CC:= .reg [
 .op (some 15) none (.mv (.tmp 0)),
 .op (some 16) none (.nilck (.tmp 15)),
 .op (some 17) none (.faddr 1 (.tmp 16)),
 .op (some 18) none (.load false 1 (.tmp 17)),
 .op (some 19) none (.arith .add (.tmp 18) (.const (.int .i64 1))),
 .op (some 20) none (.nilck (.tmp 15)),
 .op (some 21) none (.faddr 1 (.tmp 20)),
 .op none none (.store none 1 (.tmp 21) (.tmp 19))]
def qhL:CC:= .seq (.regd [
 .op (some 22) none (.mv (.tmp 0)),
 .op (some 23) none (.nilck (.tmp 22)),
 .op (some 24) none (.faddr 0 (.tmp 23)),
 .op (some 25) none (.load false 1 (.tmp 24)),
 .op (some 26) none (.mv (.tmp 0)),
 .op (some 27) none (.nilck (.tmp 26)),
 .op (some 28) none (.faddr 1 (.tmp 27)),
 .op (some 29) none (.load false 1 (.tmp 28)),
 .op (some 30) none (.arith .sub (.tmp 29) (.const (.int .i64 1))),
 .op (some 31) none (.iaddr 1 (.tmp 25) (.tmp 30)),
 .op (some 32) none (.load false 1 (.tmp 31)),
 .op (some 33) none (.mv (.tmp 1))] [
 .op (some 34) none (.call ti [(.tmp 32),(.tmp 33)]),
 .op (some 4) none (.mv (.tmp 34))]) .ret
theorem YU:be sv= .seq qhM (.seq qf4 (.seq qeq qhL)):=rfl
theorem qjl:be qhM=qhM:=rfl
theorem qjk:be qf4=qf4:=rfl
theorem qjj:be qeq=qeq:=rfl
theorem qji:be qhL=qhL:=rfl
def qep(b:Nat)(s:Value)(i n:Int):Ex->Sg->ab->Prop:=fun e σ H=>match e with
 | .norm=>σ 0= .bptr 0 b 0/\σ 1= .v (.int .i64 n)/\H 0=some (.box b [.v s, .v (.int .i64 (i+1))])/\i < slen s
 | .ret=>σ 4= .v (.int .i64 0)/\H 0=some (.box b [.v s, .v (.int .i64 i)])
 | .ex _=>False
@[simp ↓] theorem qr8(b:Nat)(s:Value)(i n:Int)(σ:Sg)(H:ab):qep b s i n .norm σ H=(σ 0= .bptr 0 b 0/\σ 1= .v (.int .i64 n)/\H 0=some (.box b [.v s, .v (.int .i64 (i+1))])/\i < slen s):=id rfl
@[simp ↓] theorem qr7(b:Nat)(s:Value)(i n:Int)(σ:Sg)(H:ab):qep b s i n .ret σ H=(σ 4= .v (.int .i64 0)/\H 0=some (.box b [.v s, .v (.int .i64 i)])):=id rfl
theorem qcs(b:Nat)(a:Option Addr)(len cap:Nat)(i n:Int)(h0:0<=i)(hl:(len:Int)<=9223372036854775807):vc S (.seq qhM (.seq qf4 qeq)) (qep b (.slice a len cap) i n) (cR [.bptr 0 b 0, .v (.int .i64 n)]) (ah bB 0 (some (.box b [.v (.slice a len cap), .v (.int .i64 i)]))):=by
 simp[qhM,qf4,qeq,slen]
 intro h
 exact⟨by simp only[InR];omega,h⟩
def qr6(n:Int):Ex->Sg->ab->Prop:=fun e σ H=>match e with
 | .ret=>∃y,σ 4= .v (.int .i64 y)/\(n < 1/\y=0\/1<=n/\0<=y/\y < n)
 | _=>False
@[simp ↓] theorem qr5(n:Int)(σ:Sg)(H:ab):qr6 n .ret σ H=(∃y,σ 4= .v (.int .i64 y)/\(n < 1/\y=0\/1<=n/\0<=y/\y < n)):=id rfl
theorem qcr(hm:S ti=s_m_Mod)(L:List Int)(i n:Int)(h0:0<=i)(hi:i < L.length)(hn:n<=1000000000)(hl:(L.length:Int)<=9223372036854775807):vc S qhL (qr6 n) (cR [.cptr [.list 1 (L.map enc), .v (.int .i64 (i+1))] 0, .v (.int .i64 n)]) bB:=by
 obtain⟨x,hx⟩:=dM (l:=L) (k:=i.toNat) (by omega)
 simp[qhL,hm]
 refine⟨by simp only[InR];omega,h0,hi,fun a _=>⟨hn,?_⟩⟩
 rcases Int.lt_or_le n 1 with h|h
 ·exact .inl ⟨h,by simp[Eg,h]⟩
 ·exact .inr ⟨h,HR a n h⟩
end Go.Gv

namespace Go.Gv
open Cod (enc dec)
theorem HX{tp I tp' I':Nat->Prop}{w w':World}{s:Value}{es:List D}(hes:∀d∈es,∃n,d= .v (.int .i64 n))(h:R tp I w s (.list 1 es))(hI:∀c,I c->I' c/\w'.heap[c]? =w.heap[c]?):R tp' I' w' s (.list 1 es):=by
 cases h with
 | nolist a cap _=>exact .nolist _ _ _
 | list b off cap n es f hb hc hm hz hn hcell h1 h2=>
   refine .list b off cap _ es f (hI b hb).1 hc hm (fun h=>absurd rfl h) hn (fun k c hk=>by rw[qvq (w:=w) (hI b hb).2];exact hcell k c hk) h1 (fun k c hk=>?_)
   have hc':=qtJ hk
   simp only[aU,quM]at hc'
   obtain⟨d,hd,hcd⟩:=hc'
   obtain⟨n,rfl⟩:=hes d hd
   simp[D.cells]at hcd
   subst hcd
   have:=h2 k _ hk
   generalize f k=y at this ⊢
   cases this with
   | v _ a1 a2=>exact .v _ a1 a2
theorem ID{P:Program}{im:List Nat}{N:Nat}{code:Code}{a b:CC}(h:aA P im N code=some (.seq a b)):∃x y,code= .seq x y/\aA P im N x=some a/\aA P im N y=some b:=by
 rcases aV h with⟨h,_⟩|⟨_,_,_,_,h,_⟩|⟨_,_,_,_,_,h⟩|⟨a',b',x,y,h1,h2,h3,h4⟩|⟨_,_,_,_,_,_,h,_⟩|⟨_,_,_,_,h,_⟩|⟨_,_,_,h,_⟩|⟨_,_,h⟩|⟨_,h⟩ <;> try (simp at h;done)
 cases h2
 exact⟨a',b',h1,h3,h4⟩
abbrev s_m_Next:Spc:=aS (aT (a1 Int)) (fun x=>x.2<=1000000000) (enc (X:=Int)) (fun x y=>x.2 < 1/\y=0\/1<=x.2/\0<=y/\y < x.2)
section
variable {P:Program}{S:Nat->Spc}{f:Nat}{im:List Nat}{N:Nat}
theorem Xs(hS:∀f,Tri P f (S f).pt)(hm:S ti=s_m_Mod)(h:am P f im sv yh N)(hN:2<=N):Tri P f s_m_Next.pt:=by
 obtain⟨tS,enter,fn,code,h1,h2,h3,h4,h5⟩:=h
 subst h3
 rw[YU]at h4
 obtain⟨x0,y0,rfl,hc0,h4⟩:=ID h4
 obtain⟨xA,yA,rfl,hcA,h4⟩:=ID h4
 obtain⟨xB,xC,rfl,hcB,hcC⟩:=ID h4
 intro O tp w vs ds H d K hO htl hsat hlen hargs hA
 refine⟨enter,calls_of_wp h1 h2 ?_⟩
 simp only[s_m_Next,ra]at hA
 cases hd:(aT (a1 Int)).dec ds with
 | none=>rw[hd]at hA;exact hA.elim
 | some x=>
 rw[hd]at hA
 obtain⟨L,n⟩:=x
 obtain⟨hp,hK⟩:=hA
 have hl:=(aT (a1 Int)).le ds (L,n) hd
 have hl1:ds.length=2:=hl.1
 match ds,vs,hl,hl1,hlen,hargs with
 | [d0,d1], [v0,v1],hl,_,_,hargs=>
 have e0:d0= .tape L:=by
  have:=hl.2 0 d0 (.tape L) rfl rfl
  cases this;rfl
 have e1:d1= .v (.int .i64 n):=by
  have:=hl.2 1 d1 (.v (.int .i64 n)) rfl rfl
  cases this;rfl
 subst e0;subst e1
 have r1:=(hargs 1 v1 _ rfl rfl).inv_v
 subst r1
 have r0:=hargs 0 v0 _ rfl rfl
 cases r0 with
 | tape b _ s i el hb hh g0 g1 gs hR=>
 obtain⟨a,len,cap,rfl⟩:∃a len cap,s= .slice a len cap:=by
  generalize L.map (fun n=>D.v (.int .i64 n))=es at hR
  cases hR <;> exact⟨_,_,_,rfl⟩
 have hlen:(len:Int)<=9223372036854775807:=by
  generalize L.map (fun n=>D.v (.int .i64 n))=es at hR
  cases hR with
  | nolist=>simp
  | list b off cap n es f hI hc hm=>simp only[maxLen]at hm;omega
 have hLl:len=L.length:=gs
 have hbl:=htl.1 b hb
 let O2:Nat->Prop:=fun x=>(O x\/bA H x)/\x≠b
 let tp2:Nat->Prop:=fun x=>tp x/\x≠b
 let E2:xn:={ O:=O2,tp0:=tp2,w0:=w,own0:=fun x=>x=b,N:=fn.ntmps }
 let H2:ab:=ah bB 0 (some (.box b [.v (.slice a len cap), .v (.int .i64 i)]))
 have hownlt:∀c,bA H c->c < w.heap.size:=fun c ⟨j,r,k1,k2⟩=>(hsat.ok j r k1).lt k2
 have h2:∀j r,H2 j=some r->j=0/\r= .box b [.v (.slice a len cap), .v (.int .i64 i)]:=fun j r hj=>by
  by_cases e:j=0
  ·subst e
   simp only[H2,ah,if_true]at hj
   cases hj
   exact⟨rfl,rfl⟩
  ·simp[H2,ah,e,bB]at hj
 have hst:St E2 (cR [.bptr 0 b 0, .v (.int .i64 n)]) H2 { tmps:= #[.pointer (some ⟨b,0,none⟩), .int .i64 n] ++Array.replicate (fn.ntmps -2) undef,defers:=[] } w:=by
  refine⟨rfl,?_,tp2,⟨fun c hc=>hc.1.elim (hO c) (hownlt c),fun c hc=>hc,fun c hc=> .inl hc,⟨fun c hc=>htl.1 c hc.1,fun p hp=>⟨fun h=>(htl.2 p hp).1 h.1,fun h=>(htl.2 p hp).1 (h ▸hb),(htl.2 p hp).2.2⟩⟩, .refl _ _ _,fun c ⟨j,r,k1,k2⟩=>?_,⟨fun j k r q c k1 k2 k3 k4=>?_,fun j r c k1 k2=>?_,fun j r k1=>?_⟩⟩,fun t=>?_⟩
  ·show(_:Array Value).size=fn.ntmps
   simp
   omega
  ·obtain⟨_,rfl⟩:=h2 j r k1
   cases k2
   exact .inl rfl
  ·rw[(h2 j r k1).1,(h2 k q k2).1]
  ·obtain⟨_,rfl⟩:=h2 j r k1
   cases k2
   exact⟨fun h=>h.2 rfl,fun h=>h.2 rfl⟩
  ·obtain⟨_,rfl⟩:=h2 j r k1
   refine⟨_,el,hh,rfl,fun k y c hy hc=>?_⟩
   rcases k with _|_|k
   ·simp at hy hc;subst hy;subst hc;exact⟨rfl, .v _ rfl (fun s hs=>by cases hs)⟩
   ·simp at hy hc;subst hy;subst hc;exact⟨rfl, .v _ rfl (fun s hs=>by cases hs)⟩
   ·simp at hy
  ·have q0:(#[Value.pointer (some ⟨b,0,none⟩), .int .i64 n] ++Array.replicate (fn.ntmps -2) undef).getD 0 undef=Value.pointer (some ⟨b,0,none⟩):=by
    rw[qud,quz (by simp)];rfl
   have q1:(#[Value.pointer (some ⟨b,0,none⟩), .int .i64 n] ++Array.replicate (fn.ntmps -2) undef).getD 1 undef=Value.int .i64 n:=by
    rw[qud,quz (by simp)];rfl
   rcases t with _|_|t
   ·show R _ _ _ (Array.getD _ 0 undef) _
    rw[q0];exact .bptr _ _ _
   ·show R _ _ _ (Array.getD _ 1 undef) _
    rw[q1];exact .v _ rfl (fun s hs=>by cases hs)
   ·exact .any _
 have fin:∀ (w2:World) (j y:Int) (el':Nat),w2.os=w.os->w2.tape=w.tape->w2.output=w.output->w.heap.size<=w2.heap.size->(∀c,c < w.heap.size->¬tp c->w2.heap[c]? =w.heap[c]?)->
  (∀c,tp c->c≠b->TapeStep w w2 c)->w2.heap[b]? =some (.cells #[.slice a len cap, .int .i64 j] el' (0,0))->0<=j->j<=len->w.drawn<=w2.drawn->
  (n < 1/\y=0\/1<=n/\0<=y/\y < n)->QA O tp H w K (.returned (.int .i64 y)) w2:=by
  intro w2 j y el' s1 s2 s3 s4 s5 s6 s7 s8 s9 s11 s10
  have htapes:∀c,tp c->TapeStep w w2 c:=fun c hc=>by
   by_cases e:c=b
   ·subst e
    intro s' i' el0 hh' _ _
    rw[hh]at hh'
    cases hh'
    exact⟨j,el',s7,s8,s9⟩
   ·exact s6 c hc e
  refine⟨_, .v (.int .i64 y),H,tp,rfl,hK y s10,fun c hc=>hc,fun c hc=> .inl hc,fun c hc=>qt1 (htl.1 c hc) s4,⟨s1,s2,s3,s4,fun c hc _ ht=>s5 c hc ht,htapes,s11⟩,fun c hc=> .inl hc,
   ⟨hsat.dis,hsat.out,fun k r hk=>(hsat.ok k r hk).conv (fun x d hr=>hr.mono (fun _ h=>h) (fun c hc=>⟨⟨qt1 hc.1 s4,hc.2.1,hc.2.2.1,hc.2.2.2⟩,s5 c hc.1 hc.2.2.1⟩) htapes) (fun c hc=>s5 c ((hsat.ok k r hk).lt hc) (hsat.out k r c hk hc).2)⟩, .v _ rfl (fun s hs=>by cases hs)⟩
 have hv:=qcs (S:=S) b a len cap i n g0 hlen
 have cells2:∀ (tp':Nat->Prop) (H':ab) (w':World) (j:Int),StW E2 tp' H' w'->H' 0=some (.box b [.v (.slice a len cap), .v (.int .i64 j)])->∃el',w'.heap[b]? =some (.cells #[.slice a len cap, .int .i64 j] el' (0,0)):=by
  intro tp' H' w' j hw hH
  obtain⟨xs,el',k1,k2,k3⟩:=hw.sat.ok 0 _ hH
  refine⟨el',?_⟩
  rw[k1]
  obtain⟨l⟩:=xs
  match l,k2,k3 with
  | [x,y],_,k3=>
    have a1:=(k3 0 x _ rfl rfl).2.inv_v
    have a2:=(k3 1 y _ rfl rfl).2.inv_v
    rw[a1,a2]
 have hret:∀ (a':Act) (w':World) (σ':Sg) (H':ab),St E2 σ' H' a' w'->qep b (.slice a len cap) i n .ret σ' H'->a'.defers=[]/\∃v,(results fn a'.tmps).run P w'= .ok v w'/\QA O tp H w K (.returned v) w':=by
  rintro a' w' σ' H' ⟨hd',hN',tp',hw',hr'⟩ ⟨k1,k2⟩
  obtain⟨v,r0,hrun,hRv,hq⟩:=oQ (H:=H') (K:=fun r=>r= .v (.int .i64 0)) h5 hr' hw'.sat.ok k1
  subst hq
  have:=hRv.inv_v
  subst this
  obtain⟨el',k3⟩:=cells2 tp' H' w' i hw' k2
  have st:=hw'.step
  refine⟨hd',_,hrun,fin w' i 0 el' st.os st.tape st.output st.size (fun c hc ht=>st.same c hc (fun e=>ht (e ▸hb)) (fun h=>ht h.1)) (fun c hc hcb=>st.tapes c ⟨hc,hcb⟩) k3 g0 g1 st.drawn ?_⟩
  rcases Int.lt_or_le n 1 with h|h
  ·exact .inl ⟨h,rfl⟩
  ·exact .inr ⟨h,by omega,by omega⟩
 have htail:∀ (a':Act) (w':World) (σ':Sg) (H':ab),St E2 σ' H' a' w'->qep b (.slice a len cap) i n .norm σ' H'->xC.wp P (bodyPost P fn (QA O tp H w K)) a' w':=by
  rintro a1 w1 σ1 H1 ⟨hd1,hN1,tp1,hw1,hr1⟩ ⟨k1,k2,k3,k4⟩
  obtain⟨el1,k5⟩:=cells2 tp1 H1 w1 (i+1) hw1 k3
  have st1:=hw1.step
  have hsz1:w.heap.size<=w1.heap.size:=st1.size
  have same1:∀c,c < w.heap.size->¬tp c->w1.heap[c]? =w.heap[c]?:=fun c hc ht=>st1.same c hc (fun e=>ht (e ▸hb)) (fun h=>ht h.1)
  have tp1o:∀c,c < w.heap.size->tp1 c->tp2 c:=fun c hc h=>(hw1.tpn c h).elim id (fun h=>by
   have h:w.heap.size<=c:=h
   omega)
  have hb1:¬tp1 b:=fun h=>(tp1o b hbl h).2 rfl
  let E3:xn:={ O:=O2,tp0:=tp1,w0:=w1,own0:=fun _=>False,N:=fn.ntmps }
  have himm:∀c,aM O tp H w c->aM O2 tp1 bB w1 c/\w1.heap[c]? =w.heap[c]?:=fun c hc=>⟨⟨qt1 hc.1 hsz1,fun h=>h.1.elim hc.2.1 hc.2.2.2,fun h=>hc.2.2.1 (tp1o c hc.1 h).1,fun⟨j,r,h,_⟩=>by simp[bB]at h⟩,same1 c hc.1 hc.2.2.1⟩
  have hbi:aM O2 tp1 bB w1 b:=⟨qt1 hbl hsz1,fun h=>h.2 rfl,hb1,fun⟨j,r,h,_⟩=>by simp[bB]at h⟩
  have hRs:R tp1 (aM O2 tp1 bB w1) w1 (.slice a len cap) (.list 1 (L.map enc)):=HX (es:=L.map fun n=>D.v (.int .i64 n)) (fun d hd=>by simp at hd;obtain⟨n,_,rfl⟩:=hd;exact⟨n,rfl⟩) hR himm
  have st3:St E3 (cR [.cptr [.list 1 (L.map enc), .v (.int .i64 (i+1))] 0, .v (.int .i64 n)]) bB a1 w1:=by
   refine⟨hd1,hN1,tp1,⟨fun c hc=>qt1 (hc.1.elim (hO c) (hownlt c)) hsz1,fun c hc=>hc,fun c hc=> .inl hc,⟨hw1.tpl.1,hw1.tpg.2.mono (fun _ h=>h) (fun b h=>h.elim)⟩, .refl _ _ _,fun c ⟨j,r,k1,k2⟩=>by simp[bB]at k1,⟨fun j k r q c k1 k2 k3 k4=>by simp[bB]at k1,fun j r c k1 k2=>by simp[bB]at k1,fun j r k1=>by simp[bB]at k1⟩⟩,fun t=>?_⟩
   rcases t with _|_|t
   ·have r0:=hr1 0
    rw[k1]at r0
    generalize a1.tmps.getD 0 undef=v0 at r0 ⊢
    cases r0
    obtain⟨f,q1,q2,q3⟩:=ox (tp:=tp1) (I:=aM O2 tp1 bB w1) (w:=w1) (cells:=[.list 1 (L.map enc), .v (.int .i64 (i+1))]) k5 rfl (by
     intro k y c hy hc
     rcases k with _|_|k
     ·simp at hy hc;subst hy;subst hc;exact⟨rfl,by simpa using hRs⟩
     ·simp at hy hc;subst hy;subst hc;exact⟨rfl, .v _ rfl (fun s hs=>by cases hs)⟩
     ·simp at hy)
    have:=Gv.R.cptr (tp:=tp1) (I:=aM O2 tp1 bB w1) b 0 [.list 1 (L.map enc), .v (.int .i64 (i+1))] 0 f hbi (fun _=>⟨_,_,k5⟩) q1 q2 q3
    simpa [cR]using this
   ·have r0:=hr1 1
    rw[k2]at r0
    have:=r0.inv_v
    show R _ _ _ _ (.v (.int .i64 n))
    rw[this]
    exact .v _ rfl (fun s hs=>by cases hs)
   ·exact .any _
  have hv3:=qcr (S:=S) hm L i n g0 (by have:i < (len:Int):=k4;omega) hp (by omega)
  refine qu7 ?_ (uG (E:=E3) hS tS qhL xC (by rw[qji];exact hcC) _ _ _ _ _ st3 hv3)
  intro e a2 w2 hp2
  cases e with
  | ret=>
    obtain⟨σ2,H2',⟨hd2,hN2,tp2',hw2,hr2⟩,y,k6,k7⟩:=hp2
    obtain⟨v,r0,hrun,hRv,hq⟩:=oQ (H:=H2') (K:=fun r=>r= .v (.int .i64 y)) h5 hr2 hw2.sat.ok k6
    subst hq
    have:=hRv.inv_v
    subst this
    have st2:=hw2.step
    have hsz2:w1.heap.size<=w2.heap.size:=st2.size
    have same2:∀c,c < w1.heap.size->¬tp1 c->w2.heap[c]? =w1.heap[c]?:=fun c hc ht=>st2.same c hc (fun h=>h) ht
    refine⟨hd2,_,hrun,fin w2 (i+1) y el1 (st2.os.trans st1.os) (st2.tape.trans st1.tape) (st2.output.trans st1.output) (quw hsz1 hsz2) (fun c hc ht=>?_) (fun c hc hcb=>(st1.tapes c ⟨hc,hcb⟩).trans (st2.tapes c (hw1.tpx c ⟨hc,hcb⟩))) ?_ (by omega) (by have:i < (len:Int):=k4;omega) (quw st1.drawn st2.drawn) k7⟩
    ·rw[same2 c (by omega) (fun h=>ht (tp1o c hc h).1),same1 c hc ht]
    ·rw[same2 b (by omega) hb1,k5]
  | normal=>obtain⟨σ2,H2',_,k⟩:=hp2;exact k.elim
  | exit j=>obtain⟨σ2,H2',_,k⟩:=hp2;exact k.elim
  | goto l=>exact hp2.elim
  | panic c=>exact hp2.elim
  | outgrown=>exact hp2.elim
 refine wp_seq (qu7 ?_ (uG (E:=E2) hS tS qhM x0 (by rw[qjl];exact hc0) (Rd S (.seq qf4 qeq) (qep b (.slice a len cap) i n)) _ _ _ _ hst hv))
 intro e a1 w1 hp1
 cases e with
 | normal=>
   obtain⟨σ1,H1,st1,k1⟩:=hp1
   refine wp_seq (qu7 ?_ (uG (E:=E2) hS tS qf4 xA (by rw[qjk];exact hcA) (Rd S qeq (qep b (.slice a len cap) i n)) _ _ _ _ st1 k1))
   intro e a1 w1 hp1
   cases e with
   | normal=>
     obtain⟨σ1,H1,st1,k1⟩:=hp1
     refine wp_seq (qu7 ?_ (uG (E:=E2) hS tS qeq xB (by rw[qjj];exact hcB) (qep b (.slice a len cap) i n) _ _ _ _ st1 k1))
     intro e a1 w1 hp1
     cases e with
     | normal=>obtain⟨σ1,H1,st1,k1⟩:=hp1;exact htail a1 w1 σ1 H1 st1 k1
     | ret=>obtain⟨σ1,H1,st1,k1⟩:=hp1;exact hret a1 w1 σ1 H1 st1 k1
     | exit j=>obtain⟨σ2,H2',_,k⟩:=hp1;exact k.elim
     | goto l=>exact hp1.elim
     | panic c=>exact hp1.elim
     | outgrown=>exact hp1.elim
   | ret=>obtain⟨σ1,H1,st1,k1⟩:=hp1;exact hret a1 w1 σ1 H1 st1 k1
   | exit j=>obtain⟨σ2,H2',_,k⟩:=hp1;exact k.elim
   | goto l=>exact hp1.elim
   | panic c=>exact hp1.elim
   | outgrown=>exact hp1.elim
 | ret=>obtain⟨σ1,H1,st1,k1⟩:=hp1;exact hret a1 w1 σ1 H1 st1 k1
 | exit j=>obtain⟨σ2,H2',_,k⟩:=hp1;exact k.elim
 | goto l=>exact hp1.elim
 | panic c=>exact hp1.elim
 | outgrown=>exact hp1.elim
end
end Go.Gv

namespace Go.Gv
open Cod (enc dec)
def Cg(b:Nat)(L:List Int):Res:= .box b [.list 1 (L.map enc), .v (.int .i64 0)]
def qj5:PT:=fun d ds H K=>∃l,(a1 (List Int)).dec ds=some l/\∀b L,K (.bptr d b 0) (ah H d (some (Cg b L)))
def qaW(cc:CC)(rs:List aj)(S:Nat->Spc):Prop:=
 ∀l:List Int,vc S cc (rG rs fun r H'=>∃j b L,r= .bptr j b 0/\H' j=some (Cg b L)) (cR [enc l]) bB
section
variable {P:Program}{S:Nat->Spc}{f:Nat}{im:List Nat}{cc:CC}{rs:List aj}{N:Nat}
theorem Q0(hS:∀f,Tri P f (S f).pt)(h:am P f im cc rs N)(hN:1<=N)(hw:qaW cc rs S):Tri P f qj5:=by
 obtain⟨tS,enter,fn,code,h1,h2,h3,h4,h5⟩:=h
 refine lB hS tS h1 h2 enter h3 h4 h5 ?_
 rintro ds H d K ⟨l,hd,hK⟩
 have hl:=(a1 (List Int)).le ds l hd
 refine⟨by rw[hl.1];exact hN,_,bB,fun _=>0,hl,fun i r h=>by simp[bB]at h,fun i j r s h=>by simp[bB]at h,_,hw l,?_⟩
 rintro r H' ⟨j,b,L,rfl,hj⟩
 refine⟨.bptr d b 0,bB,ah H d (some (Cg b L)),fun i=>if i=d then some j else none, .bptr _ _ _ _,fun j q h=>by simp[bB]at h,hK b L,fun i s hi=>?_,fun i j' k s q hi hj' e1 e2=>?_⟩
 ·by_cases e:i=d
  ·subst e
   simp only[ah,if_true]at hi
   cases hi
   simpa using hj
  ·simp only[ah,e,if_false]at hi ⊢
   exact⟨hi,fun k q h=>by simp[bB]at h⟩
 ·have a:i=d:=by
   by_cases e:i=d
   ·exact e
   ·simp[e]at e1
  have b:j'=d:=by
   by_cases e:j'=d
   ·exact e
   ·simp[e]at e2
  exact a.trans b.symm
abbrev s_m_New:Spc:=aS (a1 (List Int)) (fun _=>True) (fun L:List Int=>D.tape L) (fun _ _=>True)
theorem qbZ(hf:Tri P f qj5):Tri P f s_m_New.pt:=by
 intro O tp w vs ds H d K hO htl hsat hlen hargs hA
 simp only[s_m_New,ra]at hA
 cases hd:(a1 (List Int)).dec ds with
 | none=>rw[hd]at hA;exact hA.elim
 | some l=>
 rw[hd]at hA
 obtain⟨_,hK⟩:=hA
 have hownlt:∀c,bA H c->c < w.heap.size:=fun c ⟨j,r,k1,k2⟩=>(hsat.ok j r k1).lt k2
 have hno:∀c,¬bA bB c:=fun c ⟨j,r,h,_⟩=>by simp[bB]at h
 have himm:∀c,aM O tp H w c->aM (fun c=>O c\/bA H c) tp bB w c:=fun c hc=>⟨hc.1,fun h=>h.elim hc.2.1 hc.2.2.2,hc.2.2.1,hno c⟩
 obtain⟨c1,c2⟩:=hf (fun c=>O c\/bA H c) tp w vs ds bB 0 (fun r H'=>∃b L,r= .bptr 0 b 0/\H'=ah bB 0 (some (Cg b L))) (fun c hc=>hc.elim (hO c) (hownlt c)) (htl.mono fun b h=>(hno b h).elim)
  ⟨fun i j r s b h=>by simp[bB]at h,fun i r b h=>by simp[bB]at h,fun i r h=>by simp[bB]at h⟩ hlen
  (fun k x c hx hc=>(hargs k x c hx hc).mono (fun _ h=>h) (fun c hc=>⟨himm c hc,rfl⟩) (fun b _=> .refl _ _)) ⟨l,hd,fun b L=>⟨b,L,rfl,rfl⟩⟩
 refine⟨c1,c2.mono ?_⟩
 rintro e w1 ⟨x,r,H',tp',rfl,⟨b,L,rfl,rfl⟩,tpx,tpn,tpl,st,loc,sat,hR⟩
 cases hR
 have hH:ah bB 0 (some (Cg b L)) 0=some (Cg b L):=rfl
 have hbo:bA (ah bB 0 (some (Cg b L))) b:=⟨0,_,hH,rfl⟩
 have hbs:w.heap.size<=b:=(loc b hbo).elim (fun h=>(hno b h).elim) id
 have hbl:b < w1.heap.size:=(sat.ok 0 _ hH).lt rfl
 have hbtp:=sat.out 0 _ b hH rfl
 have hsz:w.heap.size<=w1.heap.size:=st.size
 have old:∀c,c < w.heap.size->¬tp c->¬ (tp' c\/c=b):=fun c hc ht h=>h.elim (fun h=>(tpn c h).elim ht (fun h=>by
  have h:w.heap.size<=c:=h
  omega)) (fun h=>by omega)
 have same:∀c,c < w.heap.size->¬tp c->w1.heap[c]? =w.heap[c]?:=fun c hc ht=>st.same c hc (hno c) ht
 obtain⟨xs,el,q1,q2,q3⟩:=sat.ok 0 _ hH
 obtain⟨xl⟩:=xs
 match xl,q2,q3,q1 with
 | [s,y],_,q3,q1=>
 have a1':=(q3 0 s _ rfl rfl).2
 have a2:=(q3 1 y _ rfl rfl).2.inv_v
 subst a2
 have hsl:slen s=L.length:=by
  generalize hes:L.map enc=es at a1'
  have hl2:L.length=es.length:=by rw[<-hes];simp
  cases a1' with
  | nolist=>simp at hl2;simp[slen,hl2]
  | list=>rw[hl2];rfl
 refine⟨_, .tape L,H,fun c=>tp' c\/c=b,rfl,hK L trivial,fun c hc=> .inl (tpx c hc),fun c hc=>hc.elim (tpn c) (fun e=> .inr (e ▸hbs)),fun c hc=>hc.elim (tpl c) (fun e=>e ▸hbl),
  ⟨st.os,st.tape,st.output,st.size,fun c hc _ ht=>same c hc ht,st.tapes,st.drawn⟩,fun c hc=> .inl hc,
  ⟨hsat.dis,fun i r c hi hc=>⟨(hsat.out i r c hi hc).1,old c ((hsat.ok i r hi).lt hc) (hsat.out i r c hi hc).2⟩,fun i r hi=>(hsat.ok i r hi).conv (fun x d hr=>hr.mono (fun c hc=> .inl (tpx c hc)) (fun c hc=>⟨⟨qt1 hc.1 hsz,hc.2.1,old c hc.1 hc.2.2.1,hc.2.2.2⟩,same c hc.1 hc.2.2.1⟩) st.tapes) (fun c hc=>same c ((hsat.ok i r hi).lt hc) (hsat.out i r c hi hc).2)⟩,?_⟩
 refine .tape b L s 0 el (.inr rfl) q1 (by omega) (by omega) hsl ?_
 have a3:R tp' (aM (fun c=>O c\/bA H c) tp' (ah bB 0 (some (Cg b L))) w1) w1 s (.list 1 (L.map fun n=>D.v (.int .i64 n))):=a1'
 exact HX (fun d hd=>by simp at hd;obtain⟨n,_,rfl⟩:=hd;exact⟨n,rfl⟩) a3 (fun c hc=>⟨⟨hc.1,fun h=>hc.2.1 (.inl h),fun h=>h.elim hc.2.2.1 (fun e=>hc.2.2.2 (e ▸hbo)),fun h=>hc.2.1 (.inr h)⟩,rfl⟩)
end
end Go.Gv
