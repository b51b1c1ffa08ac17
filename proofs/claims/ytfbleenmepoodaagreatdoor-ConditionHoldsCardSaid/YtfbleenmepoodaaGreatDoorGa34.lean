/- A part of the framework and of the walks: T27 T35 T36 C61. -/
import Derived.OrdersIn
import Derived.TacticsIn
import Derived.Test.YtfbleenmepoodaaGreatDoorGa33
set_option linter.unusedSimpArgs false
set_option linter.unusedVariables false
set_option linter.unusedSectionVars false
set_option linter.defProp false
set_option maxRecDepth 100000
set_option maxHeartbeats 0
namespace Go.Gv
open Go.RowKit
open Cod (enc dec)
variable {dq:Prop}
theorem Lv{P:Program}{f:Nat}{X Y:Type}{A:fw X}{pre:X->Prop}{er:Y->D}{post:X->Y->Prop}(hce:fy P f)
 (h:∀ (tp I:Nat->Prop) (w:World) (vs:List Value) (x:X),pre x->(∀p∈tj,∃ (el:Nat) (z:Nat×Nat),w.heap[p.1]? =some (.cells p.2 el z))->(∀b,I b->b < w.heap.size)->vs.length=(A.view x).length->
   (∀ (k:Nat) (v:Value) (d:D),vs[k]? =some v->(A.view x)[k]? =some d->R tp I w v d)->
   Calls P f vs.toArray w λe w'=>∃v y,e= .returned v/\post x y/\(∀tp' I',R tp' I' w' v (er y))/\Below w.heap.size w w'/\w.drawn<=w'.drawn):Tri dq P f (aZ A pre er post).pt:=by
 intro O tp w vs ds H d K hO htl hsat hlen hargs hA;rw[kA]at hA;cases hd:A.dec ds with
 | none=>rw[hd]at hA;exact hA.elim
 | some x=>
   rw[hd]at hA;obtain⟨hp,hK⟩:=hA;have hle:=A.le ds x hd;refine⟨hce,(h tp (aI O tp H w) w vs x hp (λp hp=>(htl.2 p hp).2.2) (λb hb=>hb.1) (by rw[hlen,hle.1]) (λk v d h1 h2=>?_)).mono ?_⟩
   ·have hlt:k < ds.length:=by rw[<-hlen];exact(qjA.1 h1).1
    have he:=qjC hlt;exact(hle.2 k _ d he h2).R (H:=cv) (λi r h=>by cases h) (λ_ h=>h) (λi r b h=>by cases h) (hargs k _ _ h1 he)
   ·rintro e w' ⟨v,y,rfl,hy,hR,hb,hdr⟩;have hmove:∀y e,R tp (aI O tp H w) w y e->R tp (aI O tp H w') w' y e:=λy e hr=>
     hr.mono (λ_ h=>h) (λb hb'=>⟨⟨qjZ hb'.1 hb.size,hb'.2⟩,hb.block b hb'.1⟩) (λb hb'=> .same (hb.block b (htl.1 b hb')))
    exact⟨v,er y,H,tp,rfl,hK y hy,λ_ h=>h,λ_ h=> .inl h,λb h=>qjZ (htl.1 b h) hb.size,
     ⟨hb.os,hb.tape,hb.output,hb.size,λb h1 _ _=>hb.block b h1,λb h=> .same (hb.block b (htl.1 b h)),λ_=>hdr⟩,λ_ h=> .inl h,
     ⟨hsat.dis,hsat.out,λi r h1=>(hsat.ok i r h1).conv hmove λb h2=>hb.block b ((hsat.ok i r h1).lt h2)⟩,hR _ _⟩
def na{P:Program}{f:Nat}{X Y:Type}{A:fw X}{pre:X->Prop}{er:Y->D}{post:X->Y->Prop}(hce:fy P f)
 (h:∀ (tp I:Nat->Prop) (w:World) (vs:List Value) (x:X),pre x->(∀b,I b->b < w.heap.size)->vs.length=(A.view x).length->
   (∀ (k:Nat) (v:Value) (d:D),vs[k]? =some v->(A.view x)[k]? =some d->R tp I w v d)->
   Calls P f vs.toArray w λe w'=>∃v y,e= .returned v/\post x y/\(∀tp' I',R tp' I' w' v (er y))/\Below w.heap.size w w'/\w.drawn<=w'.drawn):Tri dq P f (aZ A pre er post).pt:=
 Lv hce λtp I w vs x hp _ hI hl hr=>h tp I w vs x hp hI hl hr
def xI{tp I:Nat->Prop}{w:World}{x y:Value}(h:R tp I w x (.v y)):x=y:=by cases h;rfl
end Go.Gv
namespace Go.Gv
abbrev RF(l:Nat):Fence:=Fence.wide.inRound l
section
variable {P:Program}{l n:Nat}
def LK{row:String}{args:Array Value}{w:World}{R:Value->World->Prop}(h:Rows P row args w R):RowsIn (RF l) n P row args w R:=λc cs _=>
 let ⟨v,w',r,s⟩:=h c cs
 ⟨v,w',r,stepsIn_wide.2 s⟩
def KF{f:FuncId}{args:Array Value}{w:World}{R:Ending->World->Prop}(h:Calls P f args w R):CallsIn (RF l) n P f args w R:=(callsIn_wide.2 h).inRound l
def JE{o:Oper}(hd:∀c,o.op≠ .defer c){a:Act}{w:World}{K:Act->World->Prop}{Q:Exit->Act->World->Prop}(h:o.wp P a w K Q):o.wpIn (RF l) n P a w K Q:=by
 refine⟨λ_ _=>trivial,?_⟩;rw[Oper.semAt_eq _ _ _ hd];unfold Oper.wp at h;generalize (execOp a.eval o).run P w=r at*;cases r with
 | ok x w'=>
   cases x <;> simp only[Oper.upon,Oper.uponIn]at h ⊢ <;> first
    | exact h
    | exact⟨λh=>absurd (show false=true from h) (by decide),CallsIn.mono (KF h) (λe w'' he=>by cases e <;> exact he)⟩
    | exact⟨λh=>absurd (show false=true from h) (by decide),LK h⟩
    | exact h.elim
 | halt x w'=>cases x <;> simp only[Oper.upon,Oper.uponIn]at h ⊢ <;> exact h
theorem uF{md:Region.Mode}{ops:Array Oper}{Q:Exit->Act->World->Prop}(hd:∀o∈ops,∀c,o.op≠ .defer c)(hQ:¬LetsOut Q):
 ∀ (fuel:Nat) (listed:Array Bool) (a:Act) (w:World),wpAny P md ops Q fuel listed a w->wpAnyIn (RF l) n P md ops Q fuel listed a w
 | 0,listed,a,w,h=>h
 | fuel+1,listed,a,w,h=>by
   refine⟨h.1,λi hi=>?_⟩;have h:=h.2 i hi;unfold wpOp at h;unfold wpOpIn;split
   ·rename_i e;rw[e]at h;exact uF hd hQ fuel _ _ _ h
   ·rename_i o e;rw[e]at h;simp only at h;have ho:o∈ops:=Array.mem_of_getElem? e;split
    ·rename_i hw;rw[if_pos hw]at h;rcases h with h|⟨_,h⟩
     ·exact JE (hd o ho) (Oper.wp_mono (λa w h=>uF hd hQ fuel _ _ _ h) h)
     ·exact absurd h hQ
    ·rename_i hw;rw[if_neg hw]at h;exact⟨λ_ _=>trivial,uF hd hQ fuel _ _ _ h⟩
def Dc{ops:Array Oper}{Q:Exit->Act->World->Prop}(hQ:¬LetsOut Q):
 ∀ (os:List Oper) (hd:∀o∈os,∀c,o.op≠ .defer c) (a:Act) (w:World),wpList P ops Q os a w->wpListIn (RF l) n P ops Q os a w
 | [],hd,a,w,h=>h
 | o::os,hd,a,w,h=>by
   have ih:=Dc (ops:=ops) hQ os λo ho=>hd o (by simp[ho])
   unfold wpList at h;unfold wpListIn;split
   ·rename_i hw;rw[if_pos hw]at h;rcases h with h|⟨_,h⟩
    ·exact JE (hd o (by simp)) (Oper.wp_mono (λa w h=>ih _ _ h) h)
    ·exact absurd h hQ
   ·rename_i hw;rw[if_neg hw]at h;exact⟨λ_ _=>trivial,ih _ _ h⟩
end
section
variable {P:Program}{S:Nat->Spc}{im:List Nat}{E:sw}{l n:Nat}
def BA{o:Oper}{c:COp}(h:bP P im o=some c):∀q,o.op≠ .defer q:=by
 intro q hq;simp[bP,hq]at h
def AO{N:Nat}{ops:Array Oper}{cis:List CI}(h:gI P im N ops=some cis):∀o∈ops,∀q,o.op≠ .defer q:=by
 intro o ho;obtain⟨hl,hg⟩:=nS h;obtain⟨i,hi⟩:=Array.mem_iff_getElem?.1 ho;obtain⟨x,hx,hc⟩:=hg i o hi;obtain⟨g,c,rfl,hcc,_⟩:=eH hc;exact BA hcc
def VY{z:List PanicEntry->Prop}{K:Ex->Sg->aa->Prop} :¬LetsOut (PostZ E z K):=by
 rintro⟨a,w,h⟩;exact h
theorem Oe{z:List PanicEntry->Prop}(hmix:P.follows .mixedOrders=true)(cc:CC):Bp E.dq P z S cc->∀ (code:Code),aw P im E.N code=some (aY cc)->∀ (K:Ex->Sg->aa->Prop) (σ:Sg) (H:aa) (a:Act) (w:World),
 St E σ H a w->vc S cc K σ H->code.wpIn (RF l) n P (PostZ E z K) a w:=by
 induction cc with
 | skip=>
   intro hqu code hc K σ H a w hst hv;rcases aN hc with⟨_,h⟩|⟨_,_,_,_,h,_⟩|⟨_,_,_,_,_,h⟩|⟨_,_,_,_,_,h,_⟩|⟨_,_,_,_,_,_,h,_⟩|⟨_,_,_,_,h,_⟩|⟨_,_,_,h,_⟩|⟨_,_,h⟩|⟨_,h⟩ <;> try (simp[aY]at h;done)
   rcases h with rfl|⟨l,rfl⟩
   ·exact wpIn_skip ⟨σ,H,hst,hv⟩
   ·exact wpIn_label ⟨σ,H,hst,hv⟩
 | reg l=>
   intro hqu code hc K σ H a w hst hv;rcases aN hc with⟨h,_⟩|⟨id,ops,l',rfl,h,hl⟩|⟨_,_,_,_,_,h⟩|⟨_,_,_,_,_,h,_⟩|⟨_,_,_,_,_,_,h,_⟩|⟨_,_,_,_,h,_⟩|⟨_,_,_,h,_⟩|⟨_,_,h⟩|⟨_,h⟩ <;> try (simp[aY]at h;done)
   simp only[aY,CC.reg.injEq]at h;subst h;refine wpIn_region_list (Dc VY _ (λo ho=>AO hl o (by simpa using ho)) _ _ ?_);exact EY (im:=im) (Q:=PostZ E z K) (K:=K .norm) (λc a w' h1 h2=>⟨h1,h2⟩) (λσ H a w hs hk=>⟨σ,H,hs,hk⟩) l hqu ops.toList hl σ H a w hst hv
 | regd pre tl=>
   intro hqu code hc K σ H a w hst hv;rcases aN hc with⟨h,_⟩|⟨_,_,_,_,h,_⟩|⟨id,ops,pre',tl',rfl,h⟩|⟨_,_,_,_,_,h,_⟩|⟨_,_,_,_,_,_,h,_⟩|⟨_,_,_,_,h,_⟩|⟨_,_,_,h,_⟩|⟨_,_,h⟩|⟨_,h⟩ <;> try (simp[aY]at h;done)
   have hc2:=hc;simp only[aw,qjB,qjy]at hc2;obtain⟨cis,hcis,_⟩:=hc2;exact wpIn_region_any hmix (uF (AO hcis) VY _ _ _ _ (Kq hqu.1 hqu.2.1 hqu.2.2 hc hst hv))
 | seq x y ihx ihy=>
   intro hqu code hc K σ H a w hst hv;rcases aN hc with⟨h,_⟩|⟨_,_,_,_,h,_⟩|⟨_,_,_,_,_,h⟩|⟨p,q,x',y',rfl,h,hx,hy⟩|⟨_,_,_,_,_,_,h,_⟩|⟨_,_,_,_,h,_⟩|⟨_,_,_,h,_⟩|⟨_,_,h⟩|⟨_,h⟩ <;> try (simp[aY]at h;done)
   simp only[aY,CC.seq.injEq]at h;obtain⟨rfl,rfl⟩:=h;refine wpIn_seq (wpIn_mono (ihx hqu.1 p hx _ σ H a w hst hv) ?_);intro e a' w' hp;cases e with
   | normal=>
     obtain⟨σ',H',hs,hk⟩:=hp;exact ihy hqu.2 q hy K σ' H' a' w' hs hk
   | exit id=>exact hp
   | ret=>exact hp
   | goto l=>exact hp
   | panic c=>exact hp
   | outgrown=>exact hp
 | ite q x y ihx ihy=>
   intro hqu code hc K σ H a w hst hv;rcases aN hc with⟨h,_⟩|⟨_,_,_,_,h,_⟩|⟨_,_,_,_,_,h⟩|⟨_,_,_,_,_,h,_⟩|⟨q',p1,p2,x',y',rfl,h,hq,hx,hy⟩|⟨_,_,_,_,h,_⟩|⟨_,_,_,h,_⟩|⟨_,_,h⟩|⟨_,h⟩ <;> try (simp[aY]at h;done)
   simp only[aY,CC.ite.injEq]at h;obtain⟨rfl,rfl,rfl⟩:=h;simp only[vc]at hv;have hst0:=hst;obtain⟨hd,hN,tp,hw,hr⟩:=hst;have hqr:=Mj hr q hq;split at hv
   ·rename_i t e1;rw[e1]at hqr;refine wpIn_cond_split hqr.inv_v (λh=>?_) (λh=>?_)
    ·exact ihx hqu.1 p1 hx K σ H a w hst0 (hv.1 h)
    ·exact ihy hqu.2 p2 hy K σ H a w hst0 (hv.2 h)
   ·exact hv.elim
 | block id b ih=>
   intro hqu code hc K σ H a w hst hv;rcases aN hc with⟨h,_⟩|⟨_,_,_,_,h,_⟩|⟨_,_,_,_,_,h⟩|⟨_,_,_,_,_,h,_⟩|⟨_,_,_,_,_,_,h,_⟩|⟨id',p,x',rfl,h,hx⟩|⟨_,_,_,h,_⟩|⟨_,_,h⟩|⟨_,h⟩ <;> try (simp[aY]at h;done)
   simp only[aY,CC.block.injEq]at h;obtain⟨rfl,rfl⟩:=h;refine wpIn_block (wpIn_mono (ih hqu p hx _ σ H a w hst hv) ?_);intro e a' w' hp;cases e with
   | normal=>exact hp
   | exit i=>
     obtain⟨σ',H',hs,hk⟩:=hp;simp only[Exit.inBlock];by_cases hi:i=id
     ·simp only[if_pos hi]at hk ⊢;exact⟨σ',H',hs,hk⟩
     ·simp only[if_neg hi]at hk ⊢;exact⟨σ',H',hs,hk⟩
   | ret=>exact hp
   | goto l=>exact hp
   | panic c=>exact hp
   | outgrown=>exact hp
 | loop key b ih=>
   intro hqu code hc K σ H a w hst hv;rcases aN hc with⟨h,_⟩|⟨_,_,_,_,h,_⟩|⟨_,_,_,_,_,h⟩|⟨_,_,_,_,_,h,_⟩|⟨_,_,_,_,_,_,h,_⟩|⟨_,_,_,_,h,_⟩|⟨p,x',rfl,h,hx⟩|⟨_,_,h⟩|⟨_,h⟩ <;> try (simp[aY]at h;done)
   simp only[aY,CC.loop.injEq,true_and]at h;subst h;simp only[vc]at hv;obtain⟨inv,⟨x0,hP0,hm0⟩,hround⟩:=hv;intro fr k cs hro hb hr;have key:∀ (m:Nat) (x:inv.X),inv.P x->inv.m x=m->∀a w,St E (inv.s x) (inv.h x) a w->
    ∃e a' w',PostZ E z K e a' w'/\ArrivesIn (Machine.fenced P (RF l)) P (lone (fr.atR a (.code p:: .inLoop p::k)) cs w) fr k cs e a' w':=by
    intro m
    induction m using Nat.strongRecOn with
    | _ m ihn=>
      intro x hP hm a w hst;obtain⟨e,a1,w1,hq,harr⟩:=ih hqu p hx _ _ _ a w hst (hround x hP) fr (.inLoop p::k) cs hro hb hr;cases e with
      | normal=>
        obtain⟨σ',H',hs,y,hPy,hy1,hlt⟩:=hq;obtain⟨e2,a2,w2,hq2,harr2⟩:=ihn (inv.m y) (by omega) y hPy rfl a1 w1 (hy1 _ _ _ hs);exact⟨e2,a2,w2,hq2, .of_steps (StepsIn.trans harr (.one (fenced_calm hb hr rfl) stepR_inLoop)) harr2⟩
      | exit id=>
        obtain⟨σ',H',hs,hk⟩:=hq;exact⟨.exit id,a1,w1,⟨σ',H',hs,hk⟩, .pass (x:= .inLoop p) rfl (λ_ _=> .inl (by simp)) harr⟩
      | ret=>
        obtain⟨σ',H',hs,hk⟩:=hq;exact⟨.ret,a1,w1,⟨σ',H',hs,hk⟩, .pass (x:= .inLoop p) rfl (λ_ _=> .inl (by simp)) harr⟩
      | goto l=>exact hq.elim
      | panic c=>exact⟨.panic c,a1,w1,hq, .pass (x:= .inLoop p) rfl (λ_ _=> .inl (by simp)) harr⟩
      | outgrown=>exact hq.elim
   obtain⟨e,a',w',hq,harr⟩:=key _ x0 hP0 rfl a w (hm0 _ _ _ hst);exact⟨e,a',w',hq, .of_steps (.one (fenced_calm hb hr rfl) stepR_loop) harr⟩
 | exit id=>
   intro hqu code hc K σ H a w hst hv;rcases aN hc with⟨h,_⟩|⟨_,_,_,_,h,_⟩|⟨_,_,_,_,_,h⟩|⟨_,_,_,_,_,h,_⟩|⟨_,_,_,_,_,_,h,_⟩|⟨_,_,_,_,h,_⟩|⟨_,_,_,h,_⟩|⟨id',rfl,h⟩|⟨_,h⟩ <;> try (simp[aY]at h;done)
   simp only[aY,CC.exit.injEq]at h;subst h;exact wpIn_exit ⟨σ,H,hst,hv⟩
 | ret=>
   intro hqu code hc K σ H a w hst hv;rcases aN hc with⟨h,_⟩|⟨_,_,_,_,h,_⟩|⟨_,_,_,_,_,h⟩|⟨_,_,_,_,_,h,_⟩|⟨_,_,_,_,_,_,h,_⟩|⟨_,_,_,_,h,_⟩|⟨_,_,_,h,_⟩|⟨_,_,h⟩|⟨rfl,h⟩ <;> try (simp[aY]at h;done)
   exact wpIn_ret ⟨σ,H,hst,hv⟩
 | cut key c ih=>
   intro hqu code hc K σ H a w hst hv;simp only[vc]at hv;obtain⟨σ',H',hwk,hrest⟩:=hv;exact ih hqu code hc K _ _ a w (hwk _ _ _ hst) hrest
 | keep ls lh c ih=>
   intro hqu code hc K σ H a w hst hv;simp only[vc]at hv;refine ih hqu code hc K _ _ a w ?_ hv;obtain⟨hd,hN,tp,hw,hr⟩:=hst;have hm:=hw.sub (Ai (l:=lh));refine⟨hd,hN,tp,hm.1,λt=>hm.2 _ _ ?_⟩;unfold gC;exact Hi hr t
def IP(hS:∀f,Tri E.dq P f (S f).pt)(hmix:P.follows .mixedOrders=true){cc:CC}{code:Code}(hc:aw P im E.N code=some (aY cc)){K:Ex->Sg->aa->Prop}{σ:Sg}{H:aa}{a:Act}{w:World}
 (hst:St E σ H a w) (hv:vc S cc K σ H):code.wpIn (RF l) n P (Yx E K) a w:=
 wpIn_mono (Oe (z:=JN) hmix cc (jw hS cc) code hc K σ H a w hst hv) λ_ _ _ h=>h.no
end
open Go.Proofs
variable {dq:Prop}
def OO:Nat->Prop:=λ_=>False
def Bz(W:World)(H:aa)(N:Nat)(ds:List Deferred):sw:=⟨OO,OO,W,bF H,N,ds,True⟩
def qfb{W:World}{H:aa}{a:Act}{σ:Sg}(hT:tj=[])(dis:∀i j r s b,H i=some r->H j=some s->r.blk=some b->s.blk=some b->i=j)
 (ok:∀i r,H i=some r->ResOk (R OO (aI OO OO H W) W) W r) (hr:∀t,R OO (aI OO OO H W) W (a.tmps.getD t undef) (σ t)):
 St (Bz W H a.tmps.size a.defers) σ H a W:=
 ⟨rfl,rfl,OO,⟨λb h=>h.elim,λb h=>h,λb h=> .inl h,⟨λb h=>h.elim,λp hp=>by rw[hT]at hp;cases hp⟩, .refl _ _ _,λb h=> .inl h,⟨dis,λi r b _ _=>⟨λh=>h,λh=>h⟩,ok⟩⟩,hr⟩
def Bx(W:World)(b:Nat)(xs:Array Value):Prop:=∃el,W.heap[b]? =some (.cells xs el (0,0))
def Bx.lt{W:World}{b:Nat}{xs:Array Value}(h:Bx W b xs):b < W.heap.size:=by
 obtain⟨el,h⟩:=h;exact(qjG.1 h).1
def Bx.of{W:World}{b:Nat}{xs:Array Value}{el:Nat}(h:W.heap[b]? =some (.cells xs el (0,0))):Bx W b xs:=⟨el,h⟩
def Bx.keep{W W':World}{b:Nat}{xs:Array Value}(h:Bx W b xs)(hk:W'.heap[b]? =W.heap[b]?):Bx W' b xs:=by
 obtain⟨el,h⟩:=h;exact⟨el,hk.trans h⟩
def Bx.cell{W:World}{b k:Nat}{xs:Array Value}{v:Value}(h:Bx W b xs)(hk:xs[k]? =some v):W.cell? ⟨b,k,none⟩=some v:=by
 obtain⟨el,h⟩:=h;simp[World.cell?,h,hk]
def Bx.fr{W:World}{b k:Nat}{xs:Array Value}(h:Bx W b xs):W.frozen? ⟨b,k,none⟩=false:=by
 obtain⟨el,h⟩:=h;simp[World.frozen?,h]
def Bx.box{W:World}{b:Nat}{Q:Value->D->Prop}{l:List Value}(h:Bx W b l.toArray)(h1:∀x∈l,x.oneCell'=true)(hq:∀x∈l,Q x (.v x)):ResOk Q W (.box b (l.map .v)):=by
 obtain⟨el,h⟩:=h;refine⟨l.toArray,el,h,by simp,λk y c hy hc=>?_⟩;rw[qjU]at hc;have hy:l[k]? =some y:=hy;rw[hy]at hc;cases hc;have hm:=qjD hy;exact⟨h1 y hm,hq y hm⟩
def Bx.box1{W:World}{b:Nat}{Q:Value->D->Prop}{v:Value}(h:Bx W b #[v])(h1:v.oneCell'=true)(hq:Q v (.v v)):ResOk Q W (.box b [.v v]):=
 h.box (l:=[v]) (λx hx=>by rw[qkL.1 hx];exact h1) (λx hx=>by rw[qkL.1 hx];exact hq)
def Bx.cptr{tp I:Nat->Prop}{W:World}{b:Nat}(l:List Value)(h:Bx W b l.toArray)(hI:I b)(h1:∀x∈l,x.oneCell'=true/\R tp I W x (.v x)):R tp I W (.pointer (some ⟨b,0,none⟩)) (.cptr (l.map .v) 0):=by
 refine R.cptr b 0 (l.map .v) 0 (λk=>(l[k]?).getD undef) hI (λ_=>let ⟨el,h0⟩:=h; ⟨_,el,h0⟩) (λk c hk=>?_) (λk c hk=>?_) (λk c hk=>?_)
 all_goals
  rw[qjU]at hk;obtain⟨x,hx,rfl⟩:=qjH.1 hk
 ·rw[hx,qki];have hx2:l.toArray[k]? =some x:=by simpa using hx
  exact h.cell hx2
 ·rw[hx];exact(h1 x (qjD hx)).1
 ·rw[hx];exact(h1 x (qjD hx)).2
def Yj{tp I:Nat->Prop}{W:World}{b:Nat}{l:List Value}(h:ResOk (R tp I W) W (.box b (l.map .v))):Bx W b l.toArray:=by
 obtain⟨xs,el,h1,h2,h3⟩:=h;refine⟨el,?_⟩;rw[h1];have hl:xs.toList=l:=by
  apply qkQ;intro k;rw[qka]at h2;by_cases hk:k < l.length
  ·have e1:xs.toList[k]? =some (xs.toList[k]'(by simpa [h2]using hk)):=qjC _;have e2:(l.map D.v)[k]? =some (.v l[k]):=by rw[qjU,qjC hk];rfl
   have:=(h3 k _ _ e1 e2).2.inv_v;rw[e1,qjC hk,this]
  ·rw[qks (by simpa [h2]using hk),qks (by omega)]
 rw[<-hl]
def BQ{W W':World}{H H':aa}{N:Nat}{ds:List Deferred}{σ':Sg}{a':Act}(h:St (Bz W H N ds) σ' H' a' W'):Step True OO (bF H) W W':=by
 obtain⟨_,_,tp,hw,_⟩:=h;exact hw.step
def P8{W W':World}{H H':aa}{N:Nat}{ds:List Deferred}{σ':Sg}{a':Act}(h:St (Bz W H N ds) σ' H' a' W'){i:Nat}{r:Res}(hi:H' i=some r):∃tp I,ResOk (R tp I W') W' r:=by
 obtain⟨_,_,tp,hw,_⟩:=h;exact⟨_,_,hw.sat.ok i r hi⟩
def qI{W W':World}{H H':aa}{N:Nat}{ds:List Deferred}{σ':Sg}{a':Act}(h:St (Bz W H N ds) σ' H' a' W'){i b:Nat}(l:List Value)(hi:H' i=some (.box b (l.map .v))):Bx W' b l.toArray:=by
 obtain⟨tp,I,hok⟩:=P8 h hi;exact Yj hok
def WD{W W':World}{H H':aa}{N:Nat}{ds:List Deferred}{σ':Sg}{a':Act}(h:St (Bz W H N ds) σ' H' a' W'){b:Nat}(hb:bF H' b):bF H b\/W.heap.size<=b:=by
 obtain⟨_,_,tp,hw,_⟩:=h;exact hw.loc b hb
def WE{W W':World}{H H':aa}{N:Nat}{ds:List Deferred}{σ':Sg}{a':Act}(h:St (Bz W H N ds) σ' H' a' W'){i j b:Nat}{r s:Res}(hi:H' i=some r)(hj:H' j=some s)(h1:r.blk=some b)(h2:s.blk=some b):i=j:=by
 obtain⟨_,_,tp,hw,_⟩:=h;exact hw.sat.dis i j r s b hi hj h1 h2
def WC{W W':World}{H H':aa}{N:Nat}{ds:List Deferred}{σ':Sg}{a':Act}(h:St (Bz W H N ds) σ' H' a' W'){i b id:Nat}{v:Value}(hi:H' i=some (.box b [.own id v])):Bx W' b #[v]:=by
 obtain⟨tp,I,xs,el,h1,h2,h3⟩:=P8 h hi;refine⟨el,?_⟩;rw[h1];obtain⟨l⟩:=xs
 match l,h2 with
 | [x],_=>
   have:=(h3 0 x _ rfl rfl).2;cases this with
   | own _ _ _=>rfl
def WB{W W':World}{H H':aa}{N:Nat}{ds:List Deferred}{σ':Sg}{a':Act}(h:St (Bz W H N ds) σ' H' a' W'){t:Nat}{x:Value}(ht:σ' t= .v x):a'.tmps.getD t undef=x:=by
 obtain⟨_,_,tp,hw,hr⟩:=h;have:=hr t;rw[ht]at this;exact this.inv_v
def ZU{W W':World}{H H':aa}{N:Nat}{ds:List Deferred}{σ':Sg}{a':Act}(h:St (Bz W H N ds) σ' H' a' W'):a'.defers=ds/\a'.tmps.size=N:=⟨h.1,h.2.1⟩
def Step.kbt{W W':World}{H:aa}{B:Nat}{S:Nat->Prop}(h:Step True OO (bF H) W W')(hB:∀b,bF H b->b < B/\ ¬S b):KBt B S W W':=
 ⟨h.size,λk hk hs=>h.same k hk (λho=>by
  obtain⟨h1,h2⟩:=hB k ho;rcases hs with hs|hs
  ·exact h2 hs
  ·omega) (λh=>h)⟩
def Step.kf{W W':World}{H:aa}{B:Nat}(h:Step True OO (bF H) W W')(hB:∀b,bF H b->b < B):KeepsFrom B W W':=
 ⟨h.size,λk o hb hk _=>by rw[h.same k (qjG.1 hk).1 (λho=>by have:=hB k ho;omega) (λh=>h)];exact hk⟩
def Step.grL{W W':World}{H:aa}{B:Nat}(h:Step True OO (bF H) W W')(hB:∀b,bF H b->B<=b)(hs:B<=W.heap.size):GrL B W W':=
 ⟨h.os,h.tape,h.output,h.size,λj hj=>h.same j (by omega) (λho=>by have:=hB j ho;omega) (λh=>h),h.drawn trivial⟩
end Go.Gv
namespace Go.Gv
open Go.Proofs
def gd:CC:= .block 1 (.seq (oX [oC 12 1 3,oB 13 (.eql false false [.int] (oT 12) (oN 0))] [3,4,5,6,7,8,13] [3,4,5,6,7] (.ite (oT 13) (.seq (.regd [oE 14 0 8,oC 15 1 14,oE 16 1 8,oC 17 1 16,oE 18 2 8,oC 19 1 18,.op none none (.store (some 4) 1 (oT 4) (oT 15)),.op none none (.store (some 5) 1 (oT 5) (oT 17))] [.op none none (.store (some 6) 1 (oT 6) (oT 19)),
 .op none none (.store (some 7) 1 (oT 7) (.const (.bool true)))]) (.keep [3,4,5,6,7] [3,4,5,6,7] (.ret))) (.skip))) (.keep [3,4,5,6,7] [3,4,5,6,7] (.reg [oC 20 1 3,oB 21 (.arith .sub (oT 20) (oN 1)),oF 1 3 21])))
def eu:CC:= .block 1 (oX [oE 12 0 4,oC 13 1 12,oZ 14 dc [oT 13],oA 5 14] [1,2,3,4,5] [2,3,4,22,33] (oX [oA 15 5,oE 16 0 4,oC 17 1 16,oB 18 (.eql true false [.int] (oT 15) (oT 17))] [1,2,3,4,5,18] [2,3,4,22,33] (.ite (oT 18) (.reg [oC 19 1 3,oA 20 5,oB 21 (.rstr (oT 20)),oB 22 (.append none lp 1 1 (oT 19) (oT 21)),
 .op none none (.store (some 3) 1 (oT 3) (oT 22))]) (.regd [oC 23 1 3,oC 24 1 1,oE 25 1 4,oC 26 1 25,oE 27 1 4,oC 28 1 27,oE 29 2 4,oC 30 1 29,oB 31 (.arith .add (oT 28) (oT 30)),oB 32 (.sslice (oT 24) (some (oT 26)) (some (oT 31)))] [oB 33 (.append none lp 1 1 (oT 23) (oT 32)),.op none none (.store (some 3) 1 (oT 3) (oT 33))]))))
def dB:CC:=gq Tryz.f168 [] {} _
def dx:List ai:=[.tmp 2]
def wv:aq Tryz.prog dc [] dB dx 48:=fo
end Go.Gv
