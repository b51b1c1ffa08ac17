/- A part of the framework and of the walks: V60 V61 V62 V63 C67 W186. -/
import Derived.Test.YtphdikcommfnhaaGreatDoorGd38
import Derived.Test.YtphdikcommfnhaaGreatDoorGd29
import Derived.Test.YtphdikcommfnhaaGreatDoorGd21
import Derived.Test.YtphdikcommfnhaaGreatDoorGd20
import Derived.Test.YtphdikcommfnhaaGreatDoorGd18
set_option linter.unusedSimpArgs false
set_option linter.unusedVariables false
set_option linter.unusedSectionVars false
set_option maxRecDepth 100000
set_option maxHeartbeats 0

namespace Go.Gv
open Go.Proofs
open Cod (enc dec)
structure St3 where
 p:Int
 b0:Int
 b1:Int
 b2:Int
deriving DecidableEq
instance:Cod St3 where
 wd:=4
 enc s:= .agg [enc s.p,enc s.b0,enc s.b1,enc s.b2]
 dec| .agg [x0,x1,x2,x3]=>(dec x0).bind fun x0=>(dec x1).bind fun x1=>(dec x2).bind fun x2=>(dec x3).bind fun x3=>some ⟨x0,x1,x2,x3⟩|_=>none
 kn _:=rfl
 wid _:=rfl
 dec_enc s:=by simp
 le d x h:=by
  split at h
  ·simp only[qtT]at h
   obtain⟨x0,h0,x1,h1,x2,h2,x3,h3,h⟩:=h
   cases h
   exact LeL.agg (.cons (Cod.le _ _ h0) (.cons (Cod.le _ _ h1) (.cons (Cod.le _ _ h2) (.cons (Cod.le _ _ h3) .nil))))
  ·cases h
@[simp] theorem qnr(s:St3):enc s= .agg [enc s.p,enc s.b0,enc s.b1,enc s.b2]:=id rfl
@[simp] theorem qnA(x0 x1 x2 x3:D):dec (X:=St3) (.agg [x0,x1,x2,x3])=((dec x0).bind fun x0=>(dec x1).bind fun x1=>(dec x2).bind fun x2=>(dec x3).bind fun x3=>some ⟨x0,x1,x2,x3⟩):=id rfl
theorem UE:TX St3 true [.int .i64, .int .i64, .int .i64, .int .i64]:=⟨fun _=>rfl,fun _=>rfl⟩
structure Rn where
 c:Corpus
 lb:List B
 bg:Int
 en:Int
def St3.get(s:St3)(i:Nat):Int:=match i with|0=>s.b0|1=>s.b1|_=>s.b2
def St3.set(s:St3)(i:Nat)(x:Int):St3:=match i with|0=>⟨s.p,x,s.b1,s.b2⟩|1=>⟨s.p,s.b0,x,s.b2⟩|_=>⟨s.p,s.b0,s.b1,x⟩
def Oh(r:Rn)(s:St3):List Int:=(List.range r.lb.length).map fun i=>s.get i -1
def D0(r:Rn)(p:Pat)(s:St3):St3:=
 let s1:St3:=if p.lab=ri then s else s.set (gi r.lb fun z=>decide (z=p.lab)).toNat (s.p+1)
 ⟨s1.p+1,s1.b0,s1.b1,s1.b2⟩
def AA(r:Rn)(p:Pat)(s:St3):Option Bool:=xc ⟨r.c,s.p,r.lb,Oh r s⟩ 21 p.cond
def TO(r:Rn)(p:Pat)(at_:Int):Bool:=r.c.regs.any fun x=>decide (x.ty=p.reg) && decide ((if p.op=3 then x.e else x.b)=at_) && decide (r.bg<=x.b) && decide (x.e<=r.en)
section
variable {α:Type}
def Pow(R:α->α->Prop):Nat->α->α->Prop
 | 0=>fun s t=>s=t
 | n+1=>fun s t=>∃u,R s u/\Pow R n u t
def Star(R:α->α->Prop)(s t:α):Prop:=∃n,Pow R n s t
theorem Pow.add{R:α->α->Prop} :∀ {m n:Nat} {s t u:α},Pow R m s t->Pow R n t u->Pow R (m+n) s u
 | 0,n,s,t,u,h,k=>by cases h;rwa [quK]
 | m+1,n,s,t,u,⟨v,h1,h2⟩,k=>by
   rw[Nat.succ_add]
   exact⟨v,h1,h2.add k⟩
theorem Star.refl(R:α->α->Prop)(s:α):Star R s s:=⟨0,rfl⟩
theorem Star.one{R:α->α->Prop}{s t:α}(h:R s t):Star R s t:=⟨1,t,h,rfl⟩
theorem Star.trans{R:α->α->Prop}{s t u:α}(h:Star R s t)(k:Star R t u):Star R s u:=by
 obtain⟨m,h⟩:=h
 obtain⟨n,k⟩:=k
 exact⟨m+n,h.add k⟩
theorem Star.mono{R Q:α->α->Prop}(hR:∀s t,R s t->Star Q s t){s t:α}(h:Star R s t):Star Q s t:=by
 obtain⟨n,h⟩:=h
 induction n generalizing s with
 | zero=>cases h;exact .refl _ _
 | succ n ih=>
   obtain⟨u,h1,h2⟩:=h
   exact(hR _ _ h1).trans (ih h2)
theorem Pow.mono{R Q:α->α->Prop}(hR:∀s t,R s t->Q s t):∀ {n:Nat} {s t:α},Pow R n s t->Pow Q n s t
 | 0,_,_,h=>h
 | n+1,_,_,⟨u,h1,h2⟩=>⟨u,hR _ _ h1,h2.mono hR⟩
end
def B9(R:St3->St3->Prop)(s t:St3):Prop:=R s t/\s.p < t.p
def xN(R:St3->St3->Prop)(mn mx:Int)(s t:St3):Prop:=∃u,Pow R mn.toNat s u/\∃n:Nat,(mx < 0\/mn+n<=mx)/\Pow (B9 R) n u t
def yg(R:St3->St3->Prop):Prop:=∀s t,R s t->s=t\/s.p < t.p
theorem P1{R:St3->St3->Prop}(hR:yg R){s t:St3} :Star (B9 R) s t↔Star R s t:=by
 constructor
 ·exact Star.mono fun s t h=> .one h.1
 ·exact Star.mono fun s t h=>by
   rcases hR s t h with rfl|h2
   ·exact .refl _ _
   ·exact .one ⟨h,h2⟩
theorem rW{R:St3->St3->Prop}(hR:yg R){mn:Int}{s t:St3} :xN R mn (-1) s t↔ ∃u,Pow R mn.toNat s u/\Star R u t:=by
 constructor
 ·rintro⟨u,h1,n,_,h2⟩
  exact⟨u,h1,(P1 hR).1 ⟨n,h2⟩⟩
 ·rintro⟨u,h1,h2⟩
  obtain⟨n,h2⟩:=(P1 hR).2 h2
  exact⟨u,h1,n, .inl (by decide),h2⟩
theorem P7{R:St3->St3->Prop}(hR:yg R)(n:Nat):yg (Pow R n):=by
 induction n with
 | zero=>intro s t h;exact .inl h
 | succ n ih=>
   rintro s t ⟨u,h1,h2⟩
   rcases hR _ _ h1 with rfl|h1
   ·exact ih _ _ h2
   ·rcases ih _ _ h2 with rfl|h2
    ·exact .inr h1
    ·exact .inr (by omega)
theorem P6{R:St3->St3->Prop}(hR:yg R)(mn mx:Int):yg (xN R mn mx):=by
 rintro s t ⟨u,h1,n,_,h2⟩
 have g2:yg (Pow (B9 R) n):=P7 (fun s t h=>hR s t h.1) n
 rcases P7 hR _ _ _ h1 with rfl|h1
 ·exact g2 _ _ h2
 ·rcases g2 _ _ h2 with rfl|h2
  ·exact .inr h1
  ·exact .inr (by omega)
theorem qcJ{R:St3->St3->Prop}(hR:yg R){m1 m2:Int}(h1:0<=m1/\m1<=1)(h2:0<=m2/\m2<=1)(s t:St3):xN (xN R m2 (-1)) m1 (-1) s t↔xN R (m1*m2) (-1) s t:=by
 have hR2:=P6 hR m2 (-1)
 rw[rW hR2,rW hR]
 have sub:∀s t,xN R m2 (-1) s t->Star R s t:=fun s t h=>by
  obtain⟨u,h3,h4⟩:=(rW hR).1 h
  exact Star.trans ⟨_,h3⟩ h4
 have sup:∀s t,R s t->xN R m2 (-1) s t:=fun s t h=>by
  rw[rW hR]
  have:m2=0\/m2=1:=by omega
  rcases this with rfl|rfl
  ·exact⟨s,rfl, .one h⟩
  ·exact⟨t,⟨t,h,rfl⟩, .refl _ _⟩
 have eqS:∀s t,Star (xN R m2 (-1)) s t↔Star R s t:=fun s t=>⟨Star.mono sub,Star.mono fun s t h=> .one (sup s t h)⟩
 have c1:m1=0\/m1=1:=by omega
 rcases c1 with rfl|rfl
 ·rw[Int.zero_mul]
  constructor
  ·rintro⟨u,h3,h4⟩
   cases h3
   exact⟨_,rfl,(eqS _ _).1 h4⟩
  ·rintro⟨u,h3,h4⟩
   cases h3
   exact⟨_,rfl,(eqS _ _).2 h4⟩
 ·rw[Int.one_mul]
  constructor
  ·rintro⟨u,⟨v,h3,h5⟩,h4⟩
   cases h5
   obtain⟨u2,h6,h7⟩:=(rW hR).1 h3
   exact⟨u2,h6,h7.trans ((eqS _ _).1 h4)⟩
  ·rintro⟨u,h3,h4⟩
   exact⟨t,⟨t,(rW hR).2 ⟨u,h3,h4⟩,rfl⟩, .refl _ _⟩
mutual
def kX(r:Rn):Pat->St3->St3->Prop
 | .mk op cond lab reg mn mx ks=>fun s t=>
   if op=1 then s.p < r.en/\AA r (.mk op cond lab reg mn mx ks) s=some true/\t=D0 r (.mk op cond lab reg mn mx ks) s
   else if op=2\/op=3 then TO r (.mk op cond lab reg mn mx ks) s.p=true/\t=s
   else if op=4 then tO r ks s t
   else if op=5 then tP r ks s t
   else DZ r ks mn mx s t
def tO(r:Rn):List Pat->St3->St3->Prop
 | []=>fun s t=>s=t
 | k::ks=>fun s t=>∃u,kX r k s u/\tO r ks u t
def tP(r:Rn):List Pat->St3->St3->Prop
 | []=>fun _ _=>False
 | k::ks=>fun s t=>kX r k s t\/tP r ks s t
def DZ(r:Rn):List Pat->Int->Int->St3->St3->Prop
 | []=>fun _ _ _ _=>False
 | k::_=>fun mn mx s t=>xN (kX r k) mn mx s t
end
mutual
theorem DB(r:Rn):∀p:Pat,yg (kX r p)
 | .mk op cond lab reg mn mx ks=>by
   intro s t h
   rw[kX]at h
   split at h
   ·obtain⟨_,_,rfl⟩:=h
    right
    unfold D0
    dsimp only
    split
    ·show s.p < s.p+1;omega
    ·generalize (gi r.lb fun z=>decide (z=lab)).toNat=i
     rcases i with _|_|i
     ·show s.p < s.p+1;omega
     ·show s.p < s.p+1;omega
     ·show s.p < s.p+1;omega
   ·split at h
    ·exact .inl h.2.symm
    ·split at h
     ·exact E5 r ks s t h
     ·split at h
      ·exact LL r ks s t h
      ·exact Xn r ks mn mx s t h
theorem E5(r:Rn):∀ks:List Pat,yg (tO r ks)
 | []=>fun s t h=>by rw[tO]at h;exact .inl h
 | k::ks=>fun s t h=>by
   rw[tO]at h
   obtain⟨u,h1,h2⟩:=h
   rcases DB r k s u h1 with rfl|h1
   ·exact E5 r ks _ _ h2
   ·rcases E5 r ks u t h2 with rfl|h2
    ·exact .inr h1
    ·exact .inr (by omega)
theorem LL(r:Rn):∀ks:List Pat,yg (tP r ks)
 | []=>fun s t h=>by rw[tP]at h;exact h.elim
 | k::ks=>fun s t h=>by
   rw[tP]at h
   rcases h with h|h
   ·exact DB r k s t h
   ·exact LL r ks s t h
theorem Xn(r:Rn):∀ (ks:List Pat) (mn mx:Int),yg (DZ r ks mn mx)
 | [],_,_=>fun s t h=>by rw[DZ]at h;exact h.elim
 | k::_,mn,mx=>fun s t h=>by
   rw[DZ]at h
   exact P6 (DB r k) mn mx s t h
end
end Go.Gv

namespace Go.Gv
open Go.Proofs
def OC(m:Int)(s:St3):Prop:=0<=s.p/\s.p<=m/\∀i,0<=s.get i/\s.get i<=m
def qbO(m:Int)(R:St3->St3->Prop):Prop:=∀s t,R s t->OC m s->OC m t
theorem xa{m:Int}{R:St3->St3->Prop}(h:qbO m R):∀n:Nat,qbO m (Pow R n)
 | 0,s,t,e,hs=>by cases e;exact hs
 | n+1,s,t,⟨u,h1,h2⟩,hs=>xa h n _ _ h2 (h _ _ h1 hs)
theorem qgs{m:Int}{R:St3->St3->Prop}(h:qbO m R)(mn mx:Int):qbO m (xN R mn mx):=by
 rintro s t ⟨u,h1,n,_,h2⟩ hs
 exact xa (R:=B9 R) (fun s t q=>h s t q.1) n _ _ h2 (xa h _ _ _ h1 hs)
theorem qeG(r:Rn)(p:Pat)(s:St3):(D0 r p s).p=s.p+1:=by
 unfold D0
 dsimp only
 split
 ·rfl
 ·generalize (gi r.lb fun z=>decide (z=p.lab)).toNat=i
  rcases i with _|_|i <;> rfl
theorem qcV(r:Rn)(p:Pat)(s:St3)(i:Nat):(D0 r p s).get i=s.get i\/(D0 r p s).get i=s.p+1:=by
 unfold D0
 dsimp only
 split
 ·rcases i with _|_|i <;> exact .inl rfl
 ·generalize (gi r.lb fun z=>decide (z=p.lab)).toNat=j
  rcases j with _|_|j <;> rcases i with _|_|i <;> first|exact .inl rfl|exact .inr rfl
mutual
theorem pg(r:Rn):∀p:Pat,qbO r.en (kX r p)
 | .mk op cond lab reg mn mx ks=>by
   intro s t h hs
   rw[kX]at h
   split at h
   ·obtain⟨h1,_,rfl⟩:=h
    obtain⟨a,b,c⟩:=hs
    refine⟨by rw[qeG];omega,by rw[qeG];omega,fun i=>?_⟩
    rcases qcV r (.mk op cond lab reg mn mx ks) s i with e|e
    ·rw[e];exact c i
    ·rw[e];omega
   ·split at h
    ·rw[h.2];exact hs
    ·split at h
     ·exact NI r ks s t h hs
     ·split at h
      ·exact UC r ks s t h hs
      ·exact qdd r ks mn mx s t h hs
theorem NI(r:Rn):∀ks:List Pat,qbO r.en (tO r ks)
 | []=>fun s t h hs=>by rw[tO]at h;rw[<-h];exact hs
 | k::ks=>fun s t h hs=>by
   rw[tO]at h
   obtain⟨u,h1,h2⟩:=h
   exact NI r ks u t h2 (pg r k s u h1 hs)
theorem UC(r:Rn):∀ks:List Pat,qbO r.en (tP r ks)
 | []=>fun s t h=>by rw[tP]at h;exact h.elim
 | k::ks=>fun s t h hs=>by
   rw[tP]at h
   rcases h with h|h
   ·exact pg r k s t h hs
   ·exact UC r ks s t h hs
theorem qdd(r:Rn):∀ (ks:List Pat) (mn mx:Int),qbO r.en (DZ r ks mn mx)
 | [],_,_=>fun s t h=>by rw[DZ]at h;exact h.elim
 | k::_,mn,mx=>fun s t h hs=>by
   rw[DZ]at h
   exact qgs (pg r k) mn mx s t h hs
end
theorem BT{R:St3->St3->Prop} :∀ {n:Nat} {s t:St3},Pow (B9 R) n s t->s.p+n<=t.p
 | 0,s,t,h=>by cases h;omega
 | n+1,s,t,⟨u,h1,h2⟩=>by
   have:=BT h2
   have:=h1.2
   omega
def A0(m:Int)(f:St3->List St3)(R:St3->St3->Prop):Prop:=∀s,OC m s->∀t,t∈f s↔R s t
def Wr(f:St3->List St3):Nat->St3->List St3
 | 0,s=>[s]
 | n+1,s=>(f s).flatMap (Wr f n)
theorem rT{m:Int}{f:St3->List St3}{R:St3->St3->Prop}(h:A0 m f R)(k:qbO m R):∀n:Nat,A0 m (Wr f n) (Pow R n)
 | 0,s,hs,t=>by simp[Wr,Pow,eq_comm]
 | n+1,s,hs,t=>by
   simp only[Wr,qu0,Pow]
   constructor
   ·rintro⟨u,h1,h2⟩
    have h1:=(h s hs u).1 h1
    exact⟨u,h1,(rT h k n u (k _ _ h1 hs) t).1 h2⟩
   ·rintro⟨u,h1,h2⟩
    exact⟨u,(h s hs u).2 h1,(rT h k n u (k _ _ h1 hs) t).2 h2⟩
def qgD(f:St3->List St3)(s:St3):List St3:=(f s).filter fun t=>decide (s.p < t.p)
theorem Lj{m:Int}{f:St3->List St3}{R:St3->St3->Prop}(h:A0 m f R):A0 m (qgD f) (B9 R):=fun s hs t=>by
 unfold qgD B9
 rw[qvo,h s hs t,decide_eq_true_iff]
def qfX(N:Nat)(f:St3->List St3)(mn mx:Int)(s:St3):List St3:=
 (Wr f mn.toNat s).flatMap fun u=>(List.range ((if mx < 0 then N else(mx -mn).toNat) +1)).flatMap fun n=>Wr (qgD f) n u
theorem V9{N:Nat}{f:St3->List St3}{R:St3->St3->Prop}(h:A0 N f R)(k:qbO N R)(mn mx:Int)(hm:0<=mx->mn<=mx):A0 N (qfX N f mn mx) (xN R mn mx):=fun s hs t=>by
 unfold qfX xN
 simp only[qu0,qvt]
 have ki:qbO N (B9 R):=fun s t q=>k s t q.1
 constructor
 ·rintro⟨u,h1,n,h2,h3⟩
  have h1:=(rT h k _ s hs u).1 h1
  have hu:=xa k _ _ _ h1 hs
  refine⟨u,h1,n,?_,(rT (Lj h) ki n u hu t).1 h3⟩
  by_cases hx:mx < 0
  ·exact .inl hx
  ·rw[if_neg hx]at h2
   have:=hm (by omega)
   exact .inr (by omega)
 ·rintro⟨u,h1,n,h2,h3⟩
  have hu:=xa k _ _ _ h1 hs
  refine⟨u,(rT h k _ s hs u).2 h1,n,?_,(rT (Lj h) ki n u hu t).2 h3⟩
  by_cases hx:mx < 0
  ·rw[if_pos hx]
   have:=BT h3
   have:=(xa ki _ _ _ h3 hu).2.1
   have:=hu.1
   omega
  ·rw[if_neg hx]
   rcases h2 with h2|h2
   ·exact absurd h2 hx
   ·omega
mutual
def QD(r:Rn):Pat->St3->List St3
 | .mk op cond lab reg mn mx ks=>fun s=>
   if op=1 then(if decide (s.p < r.en) && (AA r (.mk op cond lab reg mn mx ks) s==some true)then[D0 r (.mk op cond lab reg mn mx ks) s]else[])
   else if op=2\/op=3 then(if TO r (.mk op cond lab reg mn mx ks) s.p then[s]else[])
   else if op=4 then QB r ks s
   else if op=5 then QC r ks s
   else UZ r ks mn mx s
def QB(r:Rn):List Pat->St3->List St3
 | []=>fun s=>[s]
 | k::ks=>fun s=>(QD r k s).flatMap (QB r ks)
def QC(r:Rn):List Pat->St3->List St3
 | []=>fun _=>[]
 | k::ks=>fun s=>QD r k s++QC r ks s
def UZ(r:Rn):List Pat->Int->Int->St3->List St3
 | []=>fun _ _ _=>[]
 | k::_=>fun mn mx s=>qfX r.en.toNat (QD r k) mn mx s
end
mutual
def uU:Pat->List Pat
 | .mk op cond lab reg mn mx ks=> .mk op cond lab reg mn mx ks::wW ks
def wW:List Pat->List Pat
 | []=>[]
 | k::ks=>uU k++wW ks
end
def kA(C:Pat->Prop)(p:Pat):Prop:=∀q∈uU p,C q
theorem FP:∀ {ks:List Pat} {k q:Pat},k∈ks->q∈uU k->q∈wW ks
 | a::ks,k,q,h,hq=>by
   rw[wW,qtZ]
   rcases qt1.1 h with rfl|h
   ·exact .inl hq
   ·exact .inr (FP h hq)
theorem zC:∀ {ks:List Pat} {q:Pat},q∈wW ks->∃k∈ks,q∈uU k
 | [],q,h=>by rw[wW]at h;cases h
 | a::ks,q,h=>by
   rw[wW,qtZ]at h
   rcases h with h|h
   ·exact⟨a,by simp,h⟩
   ·obtain⟨k,h1,h2⟩:=zC h
    exact⟨k,by simp[h1],h2⟩
theorem FQ(p:Pat):p∈uU p:=by cases p;rw[uU];simp
theorem jP{C:Pat->Prop}{p:Pat}(h:kA C p):C p:=h p (FQ p)
theorem ql{C:Pat->Prop}{p k:Pat}(h:kA C p)(hk:k∈p.kids):kA C k:=fun q hq=>h q (by cases p;rw[uU];exact qvJ _ (FP hk hq))
theorem Uq{C:Pat->Prop}{p:Pat}(h:C p)(hk:∀k∈p.kids,kA C k):kA C p:=fun q hq=>by
 cases p
 rw[uU]at hq
 rcases qt1.1 hq with rfl|hq
 ·exact h
 ·obtain⟨k,h1,h2⟩:=zC hq
  exact hk k h1 q h2
theorem oY{C D:Pat->Prop}{p:Pat}(h:kA C p)(hCD:∀q,C q->D q):kA D p:=fun q hq=>hCD q (h q hq)
def qbM(q:Pat):Prop:=q.op=1\/q.op=2\/q.op=3\/q.op=4\/q.op=5\/(0<=q.mx->q.mn<=q.mx)
mutual
theorem Al(r:Rn)(hr:0<=r.en):∀p:Pat,kA qbM p->A0 r.en (QD r p) (kX r p)
 | .mk op cond lab reg mn mx ks,h=>by
   have hs:=jP h
   have hk:∀k∈ks,kA qbM k:=fun k hk=>ql h hk
   intro s h1 t
   rw[QD,kX]
   dsimp only
   by_cases e1:op=1
   ·rw[if_pos e1,if_pos e1]
    generalize AA r (.mk op cond lab reg mn mx ks) s=q
    by_cases e2:s.p < r.en
    ·by_cases e3:q=some true
     ·simp[e2,e3]
     ·simp[e2,e3]
    ·simp[e2]
   rw[if_neg e1,if_neg e1]
   by_cases e2:op=2\/op=3
   ·rw[if_pos e2,if_pos e2]
    cases TO r (.mk op cond lab reg mn mx ks) s.p <;> simp
   rw[if_neg e2,if_neg e2]
   by_cases e4:op=4
   ·rw[if_pos e4,if_pos e4];exact HF r hr ks hk s h1 t
   rw[if_neg e4,if_neg e4]
   by_cases e5:op=5
   ·rw[if_pos e5,if_pos e5];exact HG r hr ks hk s h1 t
   rw[if_neg e5,if_neg e5]
   refine RU r hr ks mn mx hk ?_ s h1 t
   rcases hs with h|h|h|h|h|h
   ·exact absurd h e1
   ·exact absurd (.inl h) e2
   ·exact absurd (.inr h) e2
   ·exact absurd h e4
   ·exact absurd h e5
   ·exact h
theorem HF(r:Rn)(hr:0<=r.en):∀ks:List Pat,(∀k∈ks,kA qbM k)->A0 r.en (QB r ks) (tO r ks)
 | [],_=>fun s h t=>by rw[QB,tO];simp[eq_comm]
 | k::ks,h=>fun s hs t=>by
   have i1:=Al r hr k (h k (by simp))
   have i2:=HF r hr ks fun q hq=>h q (by simp[hq])
   rw[QB,tO]
   dsimp only
   rw[qu0]
   constructor
   ·rintro⟨u,h1,h2⟩
    have h1:=(i1 s hs u).1 h1
    exact⟨u,h1,(i2 u (pg r k _ _ h1 hs) t).1 h2⟩
   ·rintro⟨u,h1,h2⟩
    exact⟨u,(i1 s hs u).2 h1,(i2 u (pg r k _ _ h1 hs) t).2 h2⟩
theorem HG(r:Rn)(hr:0<=r.en):∀ks:List Pat,(∀k∈ks,kA qbM k)->A0 r.en (QC r ks) (tP r ks)
 | [],_=>fun s h t=>by rw[QC,tP];simp
 | k::ks,h=>fun s hs t=>by
   have i1:=Al r hr k (h k (by simp))
   have i2:=HG r hr ks fun q hq=>h q (by simp[hq])
   rw[QC,tP]
   dsimp only
   rw[qtZ,i1 s hs t,i2 s hs t]
theorem RU(r:Rn)(hr:0<=r.en):∀ (ks:List Pat) (mn mx:Int),(∀k∈ks,kA qbM k)->(0<=mx->mn<=mx)->A0 r.en (UZ r ks mn mx) (DZ r ks mn mx)
 | [],_,_,_,_=>fun s h t=>by rw[UZ,DZ];simp
 | k::ks,mn,mx,h,hm=>fun s hs t=>by
   have i1:=Al r hr k (h k (by simp))
   rw[UZ,DZ]
   have e:((r.en.toNat:Nat):Int)=r.en:=by omega
   refine V9 (N:=r.en.toNat) (f:=QD r k) (R:=kX r k) (by rw[e];exact i1) (by rw[e];exact pg r k) mn mx hm s (by rw[e];exact hs) t
end
end Go.Gv

namespace Go.Gv
def eU:List Int->List Int->Int
 | [], []=>0
 | [],_::_=> -1
 | _::_, []=>1
 | a::x,b::y=>if yx a b≠0 then yx a b else eU x y
def xp(a b:Match):Int:=eU (a.b::a.e::a.lbs) (b.b::b.e::b.lbs)
theorem gL(a b:Int):(a < b/\yx a b= -1)\/(a=b/\yx a b=0)\/(b < a/\yx a b=1):=by
 unfold yx
 by_cases h:a < b
 ·exact .inl ⟨h,if_pos h⟩
 ·by_cases h2:b < a
  ·exact .inr (.inr ⟨h2,by rw[if_neg h,if_pos h2]⟩)
  ·exact .inr (.inl ⟨by omega,by rw[if_neg h,if_neg h2]⟩)
theorem qaX(a b:Int):yx b a= -yx a b:=by
 rcases gL a b with⟨h,e⟩|⟨h,e⟩|⟨h,e⟩ <;> rcases gL b a with⟨h',e'⟩|⟨h',e'⟩|⟨h',e'⟩ <;> first|(rw[e,e'];done)|(rw[e,e'];rfl)|omega
theorem L0{a b:Int} :yx a b=0↔a=b:=by
 rcases gL a b with⟨h,e⟩|⟨h,e⟩|⟨h,e⟩ <;> rw[e] <;> constructor <;> intro h' <;> omega
theorem QQ:∀x y:List Int,eU y x= -eU x y
 | [], []=>rfl
 | [],_::_=>rfl
 | _::_, []=>rfl
 | a::x,b::y=>by
   unfold eU
   have h:=qaX a b
   by_cases e:yx a b=0
   ·rw[if_neg (by rw[h,e];simp),if_neg (by simp[e])]
    exact QQ x y
   ·rw[if_pos (by rw[h];omega),if_pos e,h]
theorem Ff:∀ {x y:List Int},eU x y=0↔x=y
 | [], []=>by simp[eU]
 | [],_::_=>by simp[eU]
 | _::_, []=>by simp[eU]
 | a::x,b::y=>by
   unfold eU
   by_cases e:yx a b=0
   ·rw[if_neg (by simp[e]),Ff,L0.1 e]
    simp
   ·rw[if_pos e]
    constructor
    ·intro h;exact absurd h e
    ·intro h;injection h with h;exact absurd (L0.2 h) e
theorem TE(x y:List Int):eU x y= -1\/eU x y=0\/eU x y=1:=by
 induction x generalizing y with
 | nil=>cases y <;> simp[eU]
 | cons a x ih=>
   cases y with
   | nil=>simp[eU]
   | cons b y=>
     unfold eU
     split
     ·rcases gL a b with⟨_,e⟩|⟨_,e⟩|⟨_,e⟩ <;> rw[e] <;> simp
     ·exact ih y
theorem JM:∀ {x y z:List Int},eU x y < 0->eU y z < 0->eU x z < 0
 | [], [],_,h,_=>by simp[eU]at h
 | [],_::_, [],_,h=>by simp[eU]at h
 | [],_::_,_::_,_,_=>by simp[eU]
 | _::_, [],_,h,_=>by simp[eU]at h
 | _::_,_::_, [],_,h=>by simp[eU]at h
 | a::x,b::y,c::z,h1,h2=>by
   unfold eU at h1 h2 ⊢
   rcases gL a b with⟨q1,e1⟩|⟨q1,e1⟩|⟨q1,e1⟩ <;> rcases gL b c with⟨q2,e2⟩|⟨q2,e2⟩|⟨q2,e2⟩ <;> rcases gL a c with⟨q3,e3⟩|⟨q3,e3⟩|⟨q3,e3⟩ <;> simp only[e1,e2,e3]at h1 h2 ⊢ <;> first|omega|(exact JM (by simpa using h1) (by simpa using h2))|(simp at h1;done)|(simp at h2;done)|skip
def OB(a b:Match):Prop:=xp a b < 0
theorem rZ{a b c:Match}(h1:OB a b)(h2:OB b c):OB a c:=JM h1 h2
theorem Ao(a:Match):¬OB a a:=fun h=>by
 have:xp a a=0:=Ff.2 rfl
 unfold OB at h
 omega
theorem As{a b:Match} :xp a b=0↔a=b:=by
 unfold xp
 rw[Ff]
 obtain⟨a1,a2,a3⟩:=a
 obtain⟨b1,b2,b3⟩:=b
 simp
theorem qaW(a b:Match):xp b a= -xp a b:=QQ _ _
theorem Dt{a b:Match}(h:¬OB a b):a=b\/OB b a:=by
 rcases TE (a.b::a.e::a.lbs) (b.b::b.e::b.lbs)with e|e|e
 ·exact absurd (show xp a b < 0 by unfold xp;omega) h
 ·exact .inl (As.1 e)
 ·right
  unfold OB
  rw[qaW a b]
  show -eU _ _ < 0
  omega
def qc(l:List Match):Prop:=l.Pairwise OB
theorem En:∀ {l l':List Match},qc l->qc l'->(∀x,x∈l↔x∈l')->l=l'
 | [], [],_,_,_=>rfl
 | [],b::l',_,_,h=>by have:=(h b).2 (by simp);cases this
 | a::l, [],_,_,h=>by have:=(h a).1 (by simp);cases this
 | a::l,b::l',h1,h2,h=>by
   have h1':=qvR.1 h1
   have h2':=qvR.1 h2
   have e:a=b:=by
    rcases qt1.1 ((h a).1 (by simp))with e|m
    ·exact e
    ·rcases qt1.1 ((h b).2 (by simp))with e|m'
     ·exact e.symm
     ·exact absurd (rZ (h1'.1 b m') (h2'.1 a m)) (Ao a)
   subst e
   rw[En h1'.2 h2'.2 fun x=>?_]
   constructor
   ·intro m
    rcases qt1.1 ((h x).1 (by simp[m]))with e|m'
    ·subst e;exact absurd (h1'.1 _ m) (Ao _)
    ·exact m'
   ·intro m
    rcases qt1.1 ((h x).2 (by simp[m]))with e|m'
    ·subst e;exact absurd (h2'.1 _ m) (Ao _)
    ·exact m'
end Go.Gv

namespace Go.Gv
open Go.Proofs
def Gh(c:Corpus)(i:Int):Option mh:=c.texts.find? fun t=>decide (t.b<=i) && decide (i < t.e)
def uO(c:Corpus)(lb:List B)(t:mh):Rn:=⟨c,lb,t.b,min t.e c.toks.length⟩
def Gj(i:Int):St3:=⟨i,0,0,0⟩
def Oo(c:Corpus)(lb:List B)(p:Pat)(m:Match):Prop:=0<=m.b/\m.b < c.toks.length/\∃t,Gh c m.b=some t/\∃s,kX (uO c lb t) p (Gj m.b) s/\m.b < s.p/\m.e=s.p/\m.lbs=Oh (uO c lb t) s
def qbP(c:Corpus)(lb:List B)(p:Pat)(i:Int)(l:List Match):Prop:=qc l/\∀m,m∈l↔m.b=i/\Oo c lb p m
def Ot(c:Corpus)(lb:List B)(p:Pat)(l:List Match):Prop:=qc l/\∀m,m∈l↔Oo c lb p m
theorem qdl{c:Corpus}{lb:List B}{p:Pat}{l l':List Match}(h:Ot c lb p l)(h':Ot c lb p l'):l=l':=En h.1 h'.1 fun x=>(h.2 x).trans (h'.2 x).symm
theorem qjM{a b:Match}(h:a.b < b.b):OB a b:=by
 unfold OB xp eU
 rcases gL a.b b.b with⟨_,e⟩|⟨h2,_⟩|⟨h2,_⟩
 ·rw[e];simp
 ·omega
 ·omega
def Rl(c:Corpus)(lb:List B)(p:Pat)(k:Int)(l:List Match):Prop:=qc l/\∀m,m∈l↔m.b < k/\Oo c lb p m
theorem Xd(c:Corpus)(lb:List B)(p:Pat):Rl c lb p 0 []:=⟨List.Pairwise.nil,fun m=>⟨fun h=>(by cases h),fun h=>(by have:=h.2.1;omega)⟩⟩
theorem Xe{c:Corpus}{lb:List B}{p:Pat}{k:Int}{l l':List Match}(h:Rl c lb p k l)(h':qbP c lb p k l'):Rl c lb p (k+1) (l++l'):=by
 refine⟨qvr.2 ⟨h.1,h'.1,fun a ha b hb=>qjM ?_⟩,fun m=>?_⟩
 ·have:=((h.2 a).1 ha).1
  have:=((h'.2 b).1 hb).1
  omega
 ·rw[qtZ,h.2,h'.2]
  constructor
  ·rintro(⟨h1,h2⟩|⟨h1,h2⟩)
   ·exact⟨by omega,h2⟩
   ·exact⟨by omega,h2⟩
  ·rintro⟨h1,h2⟩
   by_cases e:m.b=k
   ·exact .inr ⟨e,h2⟩
   ·exact .inl ⟨by omega,h2⟩
theorem ZU{c:Corpus}{lb:List B}{p:Pat}{l:List Match}(h:Rl c lb p c.toks.length l):Ot c lb p l:=⟨h.1,fun m=>(h.2 m).trans ⟨fun h=>h.2,fun h=>⟨h.2.1,h⟩⟩⟩
theorem Vi(r:Rn)(s:St3):(Oh r s).length=r.lb.length:=by simp[Oh]
theorem PJ:∀ (n:Nat) (l:List Nat),l.Nodup->(∀x∈l,x < n)->l.length<=n
 | 0, [],_,_=>qt4 _
 | 0,x::l,_,h=>absurd (h x (by simp)) (Nat.not_lt_zero _)
 | n+1,l,hn,h=>by
   have ih:=PJ n (l.erase n) (hn.erase n) fun x hx=>by
    have h1:=(List.Nodup.mem_erase_iff hn).1 hx
    have:=h x h1.2
    omega
   have h2:l.length<=(l.erase n).length+1:=by
    rw[List.length_erase]
    split <;> omega
   omega
theorem LA{α:Type}{l:List α}{f:α->Nat}{n:Nat}(h1:l.Nodup)(h2:∀x∈l,f x < n)(h3:∀x∈l,∀y∈l,f x=f y->x=y):l.length<=n:=by
 have hn:∀ {l:List α},l.Nodup->(∀x∈l,∀y∈l,f x=f y->x=y)->(l.map f).Nodup:=fun {l} h1 h3=>by
  induction l with
  | nil=>exact qvG
  | cons a l ih=>
    rw[qun,qvN]
    have h4:=qvN.1 h1
    refine⟨fun hm=>?_,ih h4.2 fun x hx y hy=>h3 x (by simp[hx]) y (by simp[hy])⟩
    obtain⟨y,hy,e⟩:=qt9.1 hm
    have:=h3 y (by simp[hy]) a (by simp) e
    subst this
    exact h4.1 hy
 have:=PJ n (l.map f) (hn h1 h3) fun x hx=>by
  obtain⟨y,hy,rfl⟩:=qt9.1 hx
  exact h2 y hy
 simpa using this
def WG(m:Nat)(s:St3):Nat:=((s.p.toNat*m+s.b0.toNat) *m+s.b1.toNat) *m+s.b2.toNat
end Go.Gv

namespace Go.Gv
open Go.Proofs
def qb:CC:=by refine(fun(_:G.ap (G.gn Tryz.prog Tryz.f41 [4,3,3057036,1060060] { bx:=[41],cu:=[6],ke:=[36,990] })=?c)=>?c) ?h;case h=>conv=>lhs; (conv=>arg 1;reduce);dsimp only[G.ap]
def pF:List ak:=[.tmp 6]
theorem KU:aq Tryz.prog rL [4,3,3057036,1060060] qb pF 64:=ai mixed (by kernel_rfl)
def pr:CC:=by refine(fun(_:G.ap (G.gn Tryz.prog Tryz.f19 [2,3] {})=?c)=>?c) ?h;case h=>conv=>lhs; (conv=>arg 1;reduce);dsimp only[G.ap]
def oP:List ak:=[.tmp 4]
theorem EM:aq Tryz.prog ia [2,3] pr oP 22:=ai mixed (by kernel_rfl)
def pq:CC:=by refine(fun(_:G.ap (G.gn Tryz.prog Tryz.f15 [2,3] {})=?c)=>?c) ?h;case h=>conv=>lhs; (conv=>arg 1;reduce);dsimp only[G.ap]
def oO:List ak:=[.tmp 4, .tmp 5]
theorem EL:aq Tryz.prog eY [2,3] pq oO 33:=ai mixed (by kernel_rfl)
def iH:CC:=by refine(fun(_:G.ap (G.gn Tryz.prog Tryz.f48 [] {})=?c)=>?c) ?h;case h=>conv=>lhs; (conv=>arg 1;reduce);dsimp only[G.ap]
def iA:List ak:=[.tmp 4]
theorem ym:aq Tryz.prog fl [] iH iA 36:=ai mixed (by kernel_rfl)
end Go.Gv

namespace Go.Gv
open Go.Proofs
open Cod (enc dec)
variable {S S0:Nat->Spc}
theorem Ha(a b:Int)(x y:List Int):eU (a::x) (b::y)=if yx a b≠0 then yx a b else eU x y:=rfl
abbrev SC:Spc:=bj (a2 (List Int) (List Int)) (fun _=>True) (enc (X:=Int)) fun x y=>y=eU x.1 x.2
theorem qfv(h1:S dY=fe):ar iH iA S (a2 (List Int) (List Int)) (fun _=>True) (enc (X:=Int)) fun x y=>y=eU x.1 x.2:=by
 rintro⟨l,m⟩ -
 simp[iH,iA, -Bool.forall_bool, -Bool.exists_bool]
 intro hl
 refine aj (X:=Unit) [0,1,9] [] l.length (fun k _=>eU l m=eU (l.drop k) (m.drop k)/\k<=m.length) (fun _=>[]) (fun _=>[]) () (by simp) (by simp) (by omega) (by simp) (by simp) (by simp) (by simp) (by simp) ?_ ?_
 ·intro k _ hk ⟨hP,hkm⟩
  obtain⟨x,hx⟩:∃x,l[k]? =some x:=⟨_,qtW hk⟩
  obtain⟨_,hgx⟩:=qtV.1 hx
  have hd:l.drop k=x::l.drop (k+1):=by rw[<-hgx];exact qux hk
  by_cases hm:k < m.length
  ·obtain⟨y,hy⟩:∃y,m[k]? =some y:=⟨_,qtW hm⟩
   obtain⟨_,hgy⟩:=qtV.1 hy
   have hd2:m.drop k=y::m.drop (k+1):=by rw[<-hgy];exact qux hm
   rw[hd,hd2,Ha]at hP
   have hm2:¬ (m.length:Int)<=k:=by omega
   have hm3:¬m.length<=k:=by omega
   simp[hk,hx,hgx,hy,hgy,hm,hm2,hm3,h1, -Bool.forall_bool, -Bool.exists_bool]
   refine fun hlm=>⟨fun h=>?_,fun h=>?_⟩
   ·rw[if_pos h]at hP;exact hP.symm
   ·rw[if_neg (by simp[h])]at hP;exact⟨hP,by omega⟩
  ·have hm2:(m.length:Int)<=k:=by omega
   have hm3:m.length<=k:=by omega
   have e:m.drop k=[]:=quT hm3
   rw[hd,e]at hP
   simp[hk,hx,hgx,hm2,hm3, -Bool.forall_bool, -Bool.exists_bool]
   intro _
   rw[hP];rfl
 ·intro _ ⟨hP,hkm⟩
  rw[quU]at hP
  simp[-Bool.forall_bool, -Bool.exists_bool]
  intro _ _
  constructor
  ·intro h
   cases hd:m.drop l.length with
   | nil=>have:=congrArg List.length hd;simp at this;omega
   | cons y r=>rw[hd]at hP;rw[hP];rfl
  ·intro h
   have e:m.drop l.length=[]:=quT (by omega)
   rw[e]at hP;rw[hP];rfl
abbrev s_cmpM:Spc:=bj (a2 Match Match) (fun _=>True) (enc (X:=Int)) fun x y=>y=xp x.1 x.2
theorem qfu(h1:S dY=fe)(h2:S fl=SC)(h3:S rN=wv):ar pr oP S (a2 Match Match) (fun _=>True) (enc (X:=Int)) fun x y=>y=xp x.1 x.2:=by
 rintro⟨a,b⟩ -
 simp[pr,oP,h1,h2,h3, -Bool.forall_bool, -Bool.exists_bool]
 rw[xp,Ha,Ha]
 generalize eU a.lbs b.lbs=z
 by_cases e1:yx a.b b.b=0
 ·by_cases e2:yx a.e b.e=0
  ·by_cases e3:z=0
   ·simp[e1,e2,e3]
   ·simp[e1,e2,List.find?,e3]
  ·simp[e1,List.find?,e2]
 ·simp[List.find?,e1]
def qiW(c:Corpus)(i:Int):Int:=gi c.texts fun t=>decide (t.b<=i) && decide (i < t.e)
abbrev EA:Spc:=bj (a2 Corpus Int) (fun _=>True) (enc (X:=Int)) fun x y=>y=qiW x.1 x.2
theorem VP:ar py oV S (a2 Corpus Int) (fun _=>True) (enc (X:=Int)) fun x y=>y=qiW x.1 x.2:=by
 rintro⟨c,i⟩ -
 simp[py,oV, -Bool.forall_bool, -Bool.exists_bool]
 intro hl
 refine aj (X:=Unit) [1,8] [] c.texts.length (fun k _=>∀t∈c.texts.take k,(decide (t.b<=i) && decide (i < t.e))=false) (fun _=>[]) (fun _=>[]) () (by simp) (by simp) (by omega) (by simp) (by simp) (by simp) (by simp) (by simp) ?_ ?_
 ·intro k _ hk hP
  obtain⟨x,hx⟩:∃x,c.texts[k]? =some x:=⟨_,qtW hk⟩
  obtain⟨_,hgx⟩:=qtV.1 hx
  have hno:(decide (x.b<=i) && decide (i < x.e))=false->∀t∈c.texts.take (k+1),(decide (t.b<=i) && decide (i < t.e))=false:=fun h t ht=>by
   rw[bJ hx]at ht
   rcases qtZ.1 ht with ht|ht
   ·exact hP t ht
   ·simp at ht;subst ht;exact h
  by_cases e1:x.b<=i
  ·by_cases e2:i < x.e
   ·simp[hk,hx,hgx,e1,e2, -Bool.forall_bool, -Bool.exists_bool]
    exact(tZ hx (by simp[e1,e2]) hP).symm
   ·simp[hk,hx,hgx,e1,e2, -Bool.forall_bool, -Bool.exists_bool]
    have:=hno (by simp[e2])
    simpa using this
  ·simp[hk,hx,hgx,e1, -Bool.forall_bool, -Bool.exists_bool]
   have:=hno (by simp[e1])
   simpa using this
 ·intro _ hP
  simp[-Bool.forall_bool, -Bool.exists_bool]
  exact(mz (by simpa using hP)).symm
theorem Ym{c:Corpus}{i:Int} :(qiW c i= -1/\Gh c i=none)\/ ∃k t,qiW c i=(k:Nat)/\c.texts[k]? =some t/\Gh c i=some t:=by
 unfold qiW Gh
 generalize hp:(fun t:mh=>decide (t.b<=i) && decide (i < t.e))=p
 generalize c.texts=l
 rcases BU p l with⟨h1,h2⟩|⟨k,x,h1,h2,h3,h4⟩
 ·refine .inl ⟨h1,qv6.2 fun x hx=>by simp[h2 x hx]⟩
 ·refine .inr ⟨k,x,h1,h2,?_⟩
  have e:l=l.take k++x::l.drop (k+1):=by
   obtain⟨hk,hg⟩:=qtV.1 h2
   rw[<-hg,<-qux hk,quH]
  rw[e,List.find?_append,qv6.2 fun x hx=>by simp[h4 x hx]]
  simp[h3]
end Go.Gv
