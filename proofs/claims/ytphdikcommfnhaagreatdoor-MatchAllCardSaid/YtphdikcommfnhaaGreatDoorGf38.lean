/- A part of the framework and of the walks: V60 V61 V62 V63 C67 W186. -/
import Derived.Test.YtphdikcommfnhaaGreatDoorGf37
import Derived.Test.YtphdikcommfnhaaGreatDoorGf29
import Derived.Test.YtphdikcommfnhaaGreatDoorGf20
import Derived.Test.YtphdikcommfnhaaGreatDoorGf18
import Derived.Test.YtphdikcommfnhaaGreatDoorGf21
set_option linter.unusedSimpArgs false
set_option linter.unusedVariables false
set_option linter.unusedSectionVars false
set_option maxRecDepth 100000
set_option maxHeartbeats 0

namespace Go.Gv
open Go.Proofs
open Cod (enc dec)
structure St3 where
 p:Int
 b0:Int
 b1:Int
 b2:Int
deriving DecidableEq
instance:Cod St3 where
 wd:=4
 enc s:= .agg [enc s.p,enc s.b0,enc s.b1,enc s.b2]
 dec| .agg [x0,x1,x2,x3]=>(dec x0).bind fun x0=>(dec x1).bind fun x1=>(dec x2).bind fun x2=>(dec x3).bind fun x3=>some ⟨x0,x1,x2,x3⟩|_=>none
 kn _:=rfl
 wid _:=rfl
 dec_enc s:=by simp
 le d x h:=by
  split at h
  ·simp only[qwN]at h
   obtain⟨x0,h0,x1,h1,x2,h2,x3,h3,h⟩:=h
   cases h
   exact LeL.agg (.cons (Cod.le _ _ h0) (.cons (Cod.le _ _ h1) (.cons (Cod.le _ _ h2) (.cons (Cod.le _ _ h3) .nil))))
  ·cases h
@[simp] theorem qqg(s:St3):enc s= .agg [enc s.p,enc s.b0,enc s.b1,enc s.b2]:=id rfl
@[simp] theorem qqp(x0 x1 x2 x3:D):dec (X:=St3) (.agg [x0,x1,x2,x3])=((dec x0).bind fun x0=>(dec x1).bind fun x1=>(dec x2).bind fun x2=>(dec x3).bind fun x3=>some ⟨x0,x1,x2,x3⟩):=id rfl
theorem Wd:Zn St3 true [.int .i64, .int .i64, .int .i64, .int .i64]:=⟨fun _=>rfl,fun _=>rfl⟩
structure Rn where
 c:Corpus
 lb:List B
 bg:Int
 en:Int
def St3.get(s:St3)(i:Nat):Int:=match i with|0=>s.b0|1=>s.b1|_=>s.b2
def St3.set(s:St3)(i:Nat)(x:Int):St3:=match i with|0=>⟨s.p,x,s.b1,s.b2⟩|1=>⟨s.p,s.b0,x,s.b2⟩|_=>⟨s.p,s.b0,s.b1,x⟩
def Pn(r:Rn)(s:St3):List Int:=(List.range r.lb.length).map fun i=>s.get i -1
def FI(r:Rn)(p:Pat)(s:St3):St3:=
 let s1:St3:=if p.lab=rO then s else s.set (gF r.lb fun z=>decide (z=p.lab)).toNat (s.p+1)
 ⟨s1.p+1,s1.b0,s1.b1,s1.b2⟩
def Bm(r:Rn)(p:Pat)(s:St3):Option Bool:=xH ⟨r.c,s.p,r.lb,Pn r s⟩ 21 p.cond
def UY(r:Rn)(p:Pat)(at_:Int):Bool:=r.c.regs.any fun x=>decide (x.ty=p.reg) && decide ((if p.op=3 then x.e else x.b)=at_) && decide (r.bg<=x.b) && decide (x.e<=r.en)
section
variable {α:Type}
def Pow(R:α->α->Prop):Nat->α->α->Prop
 | 0=>fun s t=>s=t
 | n+1=>fun s t=>∃u,R s u/\Pow R n u t
def Star(R:α->α->Prop)(s t:α):Prop:=∃n,Pow R n s t
theorem Pow.add{R:α->α->Prop} :∀ {m n:Nat} {s t u:α},Pow R m s t->Pow R n t u->Pow R (m+n) s u
 | 0,n,s,t,u,h,k=>by cases h;rwa [qxE]
 | m+1,n,s,t,u,⟨v,h1,h2⟩,k=>by
   rw[Nat.succ_add]
   exact⟨v,h1,h2.add k⟩
theorem Star.refl(R:α->α->Prop)(s:α):Star R s s:=⟨0,rfl⟩
theorem Star.one{R:α->α->Prop}{s t:α}(h:R s t):Star R s t:=⟨1,t,h,rfl⟩
theorem Star.trans{R:α->α->Prop}{s t u:α}(h:Star R s t)(k:Star R t u):Star R s u:=by
 obtain⟨m,h⟩:=h
 obtain⟨n,k⟩:=k
 exact⟨m+n,h.add k⟩
theorem Star.mono{R Q:α->α->Prop}(hR:∀s t,R s t->Star Q s t){s t:α}(h:Star R s t):Star Q s t:=by
 obtain⟨n,h⟩:=h
 induction n generalizing s with
 | zero=>cases h;exact .refl _ _
 | succ n ih=>
   obtain⟨u,h1,h2⟩:=h
   exact(hR _ _ h1).trans (ih h2)
theorem Pow.mono{R Q:α->α->Prop}(hR:∀s t,R s t->Q s t):∀ {n:Nat} {s t:α},Pow R n s t->Pow Q n s t
 | 0,_,_,h=>h
 | n+1,_,_,⟨u,h1,h2⟩=>⟨u,hR _ _ h1,h2.mono hR⟩
end
def C6(R:St3->St3->Prop)(s t:St3):Prop:=R s t/\s.p < t.p
def yq(R:St3->St3->Prop)(mn mx:Int)(s t:St3):Prop:=∃u,Pow R mn.toNat s u/\∃n:Nat,(mx < 0\/mn+n<=mx)/\Pow (C6 R) n u t
def yK(R:St3->St3->Prop):Prop:=∀s t,R s t->s=t\/s.p < t.p
theorem Rv{R:St3->St3->Prop}(hR:yK R){s t:St3} :Star (C6 R) s t↔Star R s t:=by
 constructor
 ·exact Star.mono fun s t h=> .one h.1
 ·exact Star.mono fun s t h=>by
   rcases hR s t h with rfl|h2
   ·exact .refl _ _
   ·exact .one ⟨h,h2⟩
theorem su{R:St3->St3->Prop}(hR:yK R){mn:Int}{s t:St3} :yq R mn (-1) s t↔ ∃u,Pow R mn.toNat s u/\Star R u t:=by
 constructor
 ·rintro⟨u,h1,n,_,h2⟩
  exact⟨u,h1,(Rv hR).1 ⟨n,h2⟩⟩
 ·rintro⟨u,h1,h2⟩
  obtain⟨n,h2⟩:=(Rv hR).2 h2
  exact⟨u,h1,n, .inl (by decide),h2⟩
theorem RE{R:St3->St3->Prop}(hR:yK R)(n:Nat):yK (Pow R n):=by
 induction n with
 | zero=>intro s t h;exact .inl h
 | succ n ih=>
   rintro s t ⟨u,h1,h2⟩
   rcases hR _ _ h1 with rfl|h1
   ·exact ih _ _ h2
   ·rcases ih _ _ h2 with rfl|h2
    ·exact .inr h1
    ·exact .inr (by omega)
theorem RD{R:St3->St3->Prop}(hR:yK R)(mn mx:Int):yK (yq R mn mx):=by
 rintro s t ⟨u,h1,n,_,h2⟩
 have g2:yK (Pow (C6 R) n):=RE (fun s t h=>hR s t h.1) n
 rcases RE hR _ _ _ h1 with rfl|h1
 ·exact g2 _ _ h2
 ·rcases g2 _ _ h2 with rfl|h2
  ·exact .inr h1
  ·exact .inr (by omega)
theorem qeR{R:St3->St3->Prop}(hR:yK R){m1 m2:Int}(h1:0<=m1/\m1<=1)(h2:0<=m2/\m2<=1)(s t:St3):yq (yq R m2 (-1)) m1 (-1) s t↔yq R (m1*m2) (-1) s t:=by
 have hR2:=RD hR m2 (-1)
 rw[su hR2,su hR]
 have sub:∀s t,yq R m2 (-1) s t->Star R s t:=fun s t h=>by
  obtain⟨u,h3,h4⟩:=(su hR).1 h
  exact Star.trans ⟨_,h3⟩ h4
 have sup:∀s t,R s t->yq R m2 (-1) s t:=fun s t h=>by
  rw[su hR]
  have:m2=0\/m2=1:=by omega
  rcases this with rfl|rfl
  ·exact⟨s,rfl, .one h⟩
  ·exact⟨t,⟨t,h,rfl⟩, .refl _ _⟩
 have eqS:∀s t,Star (yq R m2 (-1)) s t↔Star R s t:=fun s t=>⟨Star.mono sub,Star.mono fun s t h=> .one (sup s t h)⟩
 have c1:m1=0\/m1=1:=by omega
 rcases c1 with rfl|rfl
 ·rw[Int.zero_mul]
  constructor
  ·rintro⟨u,h3,h4⟩
   cases h3
   exact⟨_,rfl,(eqS _ _).1 h4⟩
  ·rintro⟨u,h3,h4⟩
   cases h3
   exact⟨_,rfl,(eqS _ _).2 h4⟩
 ·rw[Int.one_mul]
  constructor
  ·rintro⟨u,⟨v,h3,h5⟩,h4⟩
   cases h5
   obtain⟨u2,h6,h7⟩:=(su hR).1 h3
   exact⟨u2,h6,h7.trans ((eqS _ _).1 h4)⟩
  ·rintro⟨u,h3,h4⟩
   exact⟨t,⟨t,(su hR).2 ⟨u,h3,h4⟩,rfl⟩, .refl _ _⟩
mutual
def mG(r:Rn):Pat->St3->St3->Prop
 | .mk op cond lab reg mn mx ks=>fun s t=>
   if op=1 then s.p < r.en/\Bm r (.mk op cond lab reg mn mx ks) s=some true/\t=FI r (.mk op cond lab reg mn mx ks) s
   else if op=2\/op=3 then UY r (.mk op cond lab reg mn mx ks) s.p=true/\t=s
   else if op=4 then vQ r ks s t
   else if op=5 then vR r ks s t
   else ER r ks mn mx s t
def vQ(r:Rn):List Pat->St3->St3->Prop
 | []=>fun s t=>s=t
 | k::ks=>fun s t=>∃u,mG r k s u/\vQ r ks u t
def vR(r:Rn):List Pat->St3->St3->Prop
 | []=>fun _ _=>False
 | k::ks=>fun s t=>mG r k s t\/vR r ks s t
def ER(r:Rn):List Pat->Int->Int->St3->St3->Prop
 | []=>fun _ _ _ _=>False
 | k::_=>fun mn mx s t=>yq (mG r k) mn mx s t
end
mutual
theorem Et(r:Rn):∀p:Pat,yK (mG r p)
 | .mk op cond lab reg mn mx ks=>by
   intro s t h
   rw[mG]at h
   split at h
   ·obtain⟨_,_,rfl⟩:=h
    right
    unfold FI
    dsimp only
    split
    ·show s.p < s.p+1;omega
    ·generalize (gF r.lb fun z=>decide (z=lab)).toNat=i
     rcases i with _|_|i
     ·show s.p < s.p+1;omega
     ·show s.p < s.p+1;omega
     ·show s.p < s.p+1;omega
   ·split at h
    ·exact .inl h.2.symm
    ·split at h
     ·exact FQ r ks s t h
     ·split at h
      ·exact M0 r ks s t h
      ·exact YS r ks mn mx s t h
theorem FQ(r:Rn):∀ks:List Pat,yK (vQ r ks)
 | []=>fun s t h=>by rw[vQ]at h;exact .inl h
 | k::ks=>fun s t h=>by
   rw[vQ]at h
   obtain⟨u,h1,h2⟩:=h
   rcases Et r k s u h1 with rfl|h1
   ·exact FQ r ks _ _ h2
   ·rcases FQ r ks u t h2 with rfl|h2
    ·exact .inr h1
    ·exact .inr (by omega)
theorem M0(r:Rn):∀ks:List Pat,yK (vR r ks)
 | []=>fun s t h=>by rw[vR]at h;exact h.elim
 | k::ks=>fun s t h=>by
   rw[vR]at h
   rcases h with h|h
   ·exact Et r k s t h
   ·exact M0 r ks s t h
theorem YS(r:Rn):∀ (ks:List Pat) (mn mx:Int),yK (ER r ks mn mx)
 | [],_,_=>fun s t h=>by rw[ER]at h;exact h.elim
 | k::_,mn,mx=>fun s t h=>by
   rw[ER]at h
   exact RD (Et r k) mn mx s t h
end
end Go.Gv

namespace Go.Gv
open Go.Proofs
def SW(m:Int)(s:St3):Prop:=0<=s.p/\s.p<=m/\∀i,0<=s.get i/\s.get i<=m
def qdQ(m:Int)(R:St3->St3->Prop):Prop:=∀s t,R s t->SW m s->SW m t
theorem xE{m:Int}{R:St3->St3->Prop}(h:qdQ m R):∀n:Nat,qdQ m (Pow R n)
 | 0,s,t,e,hs=>by cases e;exact hs
 | n+1,s,t,⟨u,h1,h2⟩,hs=>xE h n _ _ h2 (h _ _ h1 hs)
theorem qi9{m:Int}{R:St3->St3->Prop}(h:qdQ m R)(mn mx:Int):qdQ m (yq R mn mx):=by
 rintro s t ⟨u,h1,n,_,h2⟩ hs
 exact xE (R:=C6 R) (fun s t q=>h s t q.1) n _ _ h2 (xE h _ _ _ h1 hs)
theorem qg7(r:Rn)(p:Pat)(s:St3):(FI r p s).p=s.p+1:=by
 unfold FI
 dsimp only
 split
 ·rfl
 ·generalize (gF r.lb fun z=>decide (z=p.lab)).toNat=i
  rcases i with _|_|i <;> rfl
theorem qfb(r:Rn)(p:Pat)(s:St3)(i:Nat):(FI r p s).get i=s.get i\/(FI r p s).get i=s.p+1:=by
 unfold FI
 dsimp only
 split
 ·rcases i with _|_|i <;> exact .inl rfl
 ·generalize (gF r.lb fun z=>decide (z=p.lab)).toNat=j
  rcases j with _|_|j <;> rcases i with _|_|i <;> first|exact .inl rfl|exact .inr rfl
mutual
theorem tf(r:Rn):∀p:Pat,qdQ r.en (mG r p)
 | .mk op cond lab reg mn mx ks=>by
   intro s t h hs
   rw[mG]at h
   split at h
   ·obtain⟨h1,_,rfl⟩:=h
    obtain⟨a,b,c⟩:=hs
    refine⟨by rw[qg7];omega,by rw[qg7];omega,fun i=>?_⟩
    rcases qfb r (.mk op cond lab reg mn mx ks) s i with e|e
    ·rw[e];exact c i
    ·rw[e];omega
   ·split at h
    ·rw[h.2];exact hs
    ·split at h
     ·exact OK r ks s t h hs
     ·split at h
      ·exact Wb r ks s t h hs
      ·exact qft r ks mn mx s t h hs
theorem OK(r:Rn):∀ks:List Pat,qdQ r.en (vQ r ks)
 | []=>fun s t h hs=>by rw[vQ]at h;rw[<-h];exact hs
 | k::ks=>fun s t h hs=>by
   rw[vQ]at h
   obtain⟨u,h1,h2⟩:=h
   exact OK r ks u t h2 (tf r k s u h1 hs)
theorem Wb(r:Rn):∀ks:List Pat,qdQ r.en (vR r ks)
 | []=>fun s t h=>by rw[vR]at h;exact h.elim
 | k::ks=>fun s t h hs=>by
   rw[vR]at h
   rcases h with h|h
   ·exact tf r k s t h hs
   ·exact Wb r ks s t h hs
theorem qft(r:Rn):∀ (ks:List Pat) (mn mx:Int),qdQ r.en (ER r ks mn mx)
 | [],_,_=>fun s t h=>by rw[ER]at h;exact h.elim
 | k::_,mn,mx=>fun s t h hs=>by
   rw[ER]at h
   exact qi9 (tf r k) mn mx s t h hs
end
theorem CJ{R:St3->St3->Prop} :∀ {n:Nat} {s t:St3},Pow (C6 R) n s t->s.p+n<=t.p
 | 0,s,t,h=>by cases h;omega
 | n+1,s,t,⟨u,h1,h2⟩=>by
   have:=CJ h2
   have:=h1.2
   omega
def BQ(m:Int)(f:St3->List St3)(R:St3->St3->Prop):Prop:=∀s,SW m s->∀t,t∈f s↔R s t
def X7(f:St3->List St3):Nat->St3->List St3
 | 0,s=>[s]
 | n+1,s=>(f s).flatMap (X7 f n)
theorem sq{m:Int}{f:St3->List St3}{R:St3->St3->Prop}(h:BQ m f R)(k:qdQ m R):∀n:Nat,BQ m (X7 f n) (Pow R n)
 | 0,s,hs,t=>by simp[X7,Pow,eq_comm]
 | n+1,s,hs,t=>by
   simp only[X7,qxU,Pow]
   constructor
   ·rintro⟨u,h1,h2⟩
    have h1:=(h s hs u).1 h1
    exact⟨u,h1,(sq h k n u (k _ _ h1 hs) t).1 h2⟩
   ·rintro⟨u,h1,h2⟩
    exact⟨u,(h s hs u).2 h1,(sq h k n u (k _ _ h1 hs) t).2 h2⟩
def qjk(f:St3->List St3)(s:St3):List St3:=(f s).filter fun t=>decide (s.p < t.p)
theorem Mh{m:Int}{f:St3->List St3}{R:St3->St3->Prop}(h:BQ m f R):BQ m (qjk f) (C6 R):=fun s hs t=>by
 unfold qjk C6
 rw[qx6,h s hs t,decide_eq_true_iff]
def qiw(N:Nat)(f:St3->List St3)(mn mx:Int)(s:St3):List St3:=
 (X7 f mn.toNat s).flatMap fun u=>(List.range ((if mx < 0 then N else(mx -mn).toNat) +1)).flatMap fun n=>X7 (qjk f) n u
theorem XO{N:Nat}{f:St3->List St3}{R:St3->St3->Prop}(h:BQ N f R)(k:qdQ N R)(mn mx:Int)(hm:0<=mx->mn<=mx):BQ N (qiw N f mn mx) (yq R mn mx):=fun s hs t=>by
 unfold qiw yq
 simp only[qxU,qyn]
 have ki:qdQ N (C6 R):=fun s t q=>k s t q.1
 constructor
 ·rintro⟨u,h1,n,h2,h3⟩
  have h1:=(sq h k _ s hs u).1 h1
  have hu:=xE k _ _ _ h1 hs
  refine⟨u,h1,n,?_,(sq (Mh h) ki n u hu t).1 h3⟩
  by_cases hx:mx < 0
  ·exact .inl hx
  ·rw[if_neg hx]at h2
   have:=hm (by omega)
   exact .inr (by omega)
 ·rintro⟨u,h1,n,h2,h3⟩
  have hu:=xE k _ _ _ h1 hs
  refine⟨u,(sq h k _ s hs u).2 h1,n,?_,(sq (Mh h) ki n u hu t).2 h3⟩
  by_cases hx:mx < 0
  ·rw[if_pos hx]
   have:=CJ h3
   have:=(xE ki _ _ _ h3 hu).2.1
   have:=hu.1
   omega
  ·rw[if_neg hx]
   rcases h2 with h2|h2
   ·exact absurd h2 hx
   ·omega
mutual
def Sa(r:Rn):Pat->St3->List St3
 | .mk op cond lab reg mn mx ks=>fun s=>
   if op=1 then(if decide (s.p < r.en) && (Bm r (.mk op cond lab reg mn mx ks) s==some true)then[FI r (.mk op cond lab reg mn mx ks) s]else[])
   else if op=2\/op=3 then(if UY r (.mk op cond lab reg mn mx ks) s.p then[s]else[])
   else if op=4 then R8 r ks s
   else if op=5 then R9 r ks s
   else WA r ks mn mx s
def R8(r:Rn):List Pat->St3->List St3
 | []=>fun s=>[s]
 | k::ks=>fun s=>(Sa r k s).flatMap (R8 r ks)
def R9(r:Rn):List Pat->St3->List St3
 | []=>fun _=>[]
 | k::ks=>fun s=>Sa r k s++R9 r ks s
def WA(r:Rn):List Pat->Int->Int->St3->List St3
 | []=>fun _ _ _=>[]
 | k::_=>fun mn mx s=>qiw r.en.toNat (Sa r k) mn mx s
end
mutual
def ri:Pat->List Pat
 | .mk op cond lab reg mn mx ks=> .mk op cond lab reg mn mx ks::xw ks
def xw:List Pat->List Pat
 | []=>[]
 | k::ks=>ri k++xw ks
end
def kW(C:Pat->Prop)(p:Pat):Prop:=∀q∈ri p,C q
theorem GN:∀ {ks:List Pat} {k q:Pat},k∈ks->q∈ri k->q∈xw ks
 | a::ks,k,q,h,hq=>by
   rw[xw,qwU]
   rcases qwT.1 h with rfl|h
   ·exact .inl hq
   ·exact .inr (GN h hq)
theorem ur:∀ {ks:List Pat} {q:Pat},q∈xw ks->∃k∈ks,q∈ri k
 | [],q,h=>by rw[xw]at h;cases h
 | a::ks,q,h=>by
   rw[xw,qwU]at h
   rcases h with h|h
   ·exact⟨a,by simp,h⟩
   ·obtain⟨k,h1,h2⟩:=ur h
    exact⟨k,by simp[h1],h2⟩
theorem GO(p:Pat):p∈ri p:=by cases p;rw[ri];simp
theorem jT{C:Pat->Prop}{p:Pat}(h:kW C p):C p:=h p (GO p)
theorem qC{C:Pat->Prop}{p k:Pat}(h:kW C p)(hk:k∈p.kids):kW C k:=fun q hq=>h q (by cases p;rw[ri];exact qyX _ (GN hk hq))
theorem qe3{C:Pat->Prop}{p:Pat}(h:C p)(hk:∀k∈p.kids,kW C k):kW C p:=fun q hq=>by
 cases p
 rw[ri]at hq
 rcases qwT.1 hq with rfl|hq
 ·exact h
 ·obtain⟨k,h1,h2⟩:=ur hq
  exact hk k h1 q h2
theorem sv{C D:Pat->Prop}{p:Pat}(h:kW C p)(hCD:∀q,C q->D q):kW D p:=fun q hq=>hCD q (h q hq)
def qdO(q:Pat):Prop:=q.op=1\/q.op=2\/q.op=3\/q.op=4\/q.op=5\/(0<=q.mx->q.mn<=q.mx)
mutual
theorem AZ(r:Rn)(hr:0<=r.en):∀p:Pat,kW qdO p->BQ r.en (Sa r p) (mG r p)
 | .mk op cond lab reg mn mx ks,h=>by
   have hs:=jT h
   have hk:∀k∈ks,kW qdO k:=fun k hk=>qC h hk
   intro s h1 t
   rw[Sa,mG]
   dsimp only
   by_cases e1:op=1
   ·rw[if_pos e1,if_pos e1]
    generalize Bm r (.mk op cond lab reg mn mx ks) s=q
    by_cases e2:s.p < r.en
    ·by_cases e3:q=some true
     ·simp[e2,e3]
     ·simp[e2,e3]
    ·simp[e2]
   rw[if_neg e1,if_neg e1]
   by_cases e2:op=2\/op=3
   ·rw[if_pos e2,if_pos e2]
    cases UY r (.mk op cond lab reg mn mx ks) s.p <;> simp
   rw[if_neg e2,if_neg e2]
   by_cases e4:op=4
   ·rw[if_pos e4,if_pos e4];exact IF r hr ks hk s h1 t
   rw[if_neg e4,if_neg e4]
   by_cases e5:op=5
   ·rw[if_pos e5,if_pos e5];exact IG r hr ks hk s h1 t
   rw[if_neg e5,if_neg e5]
   refine TD r hr ks mn mx hk ?_ s h1 t
   rcases hs with h|h|h|h|h|h
   ·exact absurd h e1
   ·exact absurd (.inl h) e2
   ·exact absurd (.inr h) e2
   ·exact absurd h e4
   ·exact absurd h e5
   ·exact h
theorem IF(r:Rn)(hr:0<=r.en):∀ks:List Pat,(∀k∈ks,kW qdO k)->BQ r.en (R8 r ks) (vQ r ks)
 | [],_=>fun s h t=>by rw[R8,vQ];simp[eq_comm]
 | k::ks,h=>fun s hs t=>by
   have i1:=AZ r hr k (h k (by simp))
   have i2:=IF r hr ks fun q hq=>h q (by simp[hq])
   rw[R8,vQ]
   dsimp only
   rw[qxU]
   constructor
   ·rintro⟨u,h1,h2⟩
    have h1:=(i1 s hs u).1 h1
    exact⟨u,h1,(i2 u (tf r k _ _ h1 hs) t).1 h2⟩
   ·rintro⟨u,h1,h2⟩
    exact⟨u,(i1 s hs u).2 h1,(i2 u (tf r k _ _ h1 hs) t).2 h2⟩
theorem IG(r:Rn)(hr:0<=r.en):∀ks:List Pat,(∀k∈ks,kW qdO k)->BQ r.en (R9 r ks) (vR r ks)
 | [],_=>fun s h t=>by rw[R9,vR];simp
 | k::ks,h=>fun s hs t=>by
   have i1:=AZ r hr k (h k (by simp))
   have i2:=IG r hr ks fun q hq=>h q (by simp[hq])
   rw[R9,vR]
   dsimp only
   rw[qwU,i1 s hs t,i2 s hs t]
theorem TD(r:Rn)(hr:0<=r.en):∀ (ks:List Pat) (mn mx:Int),(∀k∈ks,kW qdO k)->(0<=mx->mn<=mx)->BQ r.en (WA r ks mn mx) (ER r ks mn mx)
 | [],_,_,_,_=>fun s h t=>by rw[WA,ER];simp
 | k::ks,mn,mx,h,hm=>fun s hs t=>by
   have i1:=AZ r hr k (h k (by simp))
   rw[WA,ER]
   have e:((r.en.toNat:Nat):Int)=r.en:=by omega
   refine XO (N:=r.en.toNat) (f:=Sa r k) (R:=mG r k) (by rw[e];exact i1) (by rw[e];exact tf r k) mn mx hm s (by rw[e];exact hs) t
end
end Go.Gv

namespace Go.Gv
def eW:List Int->List Int->Int
 | [], []=>0
 | [],_::_=> -1
 | _::_, []=>1
 | a::x,b::y=>if yX a b≠0 then yX a b else eW x y
def xW(a b:Match):Int:=eW (a.b::a.e::a.lbs) (b.b::b.e::b.lbs)
theorem gM(a b:Int):(a < b/\yX a b= -1)\/(a=b/\yX a b=0)\/(b < a/\yX a b=1):=by
 unfold yX
 by_cases h:a < b
 ·exact .inl ⟨h,if_pos h⟩
 ·by_cases h2:b < a
  ·exact .inr (.inr ⟨h2,by rw[if_neg h,if_pos h2]⟩)
  ·exact .inr (.inl ⟨by omega,by rw[if_neg h,if_neg h2]⟩)
theorem qcV(a b:Int):yX b a= -yX a b:=by
 rcases gM a b with⟨h,e⟩|⟨h,e⟩|⟨h,e⟩ <;> rcases gM b a with⟨h',e'⟩|⟨h',e'⟩|⟨h',e'⟩ <;> first|(rw[e,e'];done)|(rw[e,e'];rfl)|omega
theorem Nf{a b:Int} :yX a b=0↔a=b:=by
 rcases gM a b with⟨h,e⟩|⟨h,e⟩|⟨h,e⟩ <;> rw[e] <;> constructor <;> intro h' <;> omega
theorem So:∀x y:List Int,eW y x= -eW x y
 | [], []=>rfl
 | [],_::_=>rfl
 | _::_, []=>rfl
 | a::x,b::y=>by
   unfold eW
   have h:=qcV a b
   by_cases e:yX a b=0
   ·rw[if_neg (by rw[h,e];simp),if_neg (by simp[e])]
    exact So x y
   ·rw[if_pos (by rw[h];omega),if_pos e,h]
theorem F3:∀ {x y:List Int},eW x y=0↔x=y
 | [], []=>by simp[eW]
 | [],_::_=>by simp[eW]
 | _::_, []=>by simp[eW]
 | a::x,b::y=>by
   unfold eW
   by_cases e:yX a b=0
   ·rw[if_neg (by simp[e]),F3,Nf.1 e]
    simp
   ·rw[if_pos e]
    constructor
    ·intro h;exact absurd h e
    ·intro h;injection h with h;exact absurd (Nf.2 h) e
theorem UP(x y:List Int):eW x y= -1\/eW x y=0\/eW x y=1:=by
 induction x generalizing y with
 | nil=>cases y <;> simp[eW]
 | cons a x ih=>
   cases y with
   | nil=>simp[eW]
   | cons b y=>
     unfold eW
     split
     ·rcases gM a b with⟨_,e⟩|⟨_,e⟩|⟨_,e⟩ <;> rw[e] <;> simp
     ·exact ih y
theorem KB:∀ {x y z:List Int},eW x y < 0->eW y z < 0->eW x z < 0
 | [], [],_,h,_=>by simp[eW]at h
 | [],_::_, [],_,h=>by simp[eW]at h
 | [],_::_,_::_,_,_=>by simp[eW]
 | _::_, [],_,h,_=>by simp[eW]at h
 | _::_,_::_, [],_,h=>by simp[eW]at h
 | a::x,b::y,c::z,h1,h2=>by
   unfold eW at h1 h2 ⊢
   rcases gM a b with⟨q1,e1⟩|⟨q1,e1⟩|⟨q1,e1⟩ <;> rcases gM b c with⟨q2,e2⟩|⟨q2,e2⟩|⟨q2,e2⟩ <;> rcases gM a c with⟨q3,e3⟩|⟨q3,e3⟩|⟨q3,e3⟩ <;> simp only[e1,e2,e3]at h1 h2 ⊢ <;> first|omega|(exact KB (by simpa using h1) (by simpa using h2))|(simp at h1;done)|(simp at h2;done)|skip
def Rh(a b:Match):Prop:=xW a b < 0
theorem sx{a b c:Match}(h1:Rh a b)(h2:Rh b c):Rh a c:=KB h1 h2
theorem A7(a:Match):¬Rh a a:=fun h=>by
 have:xW a a=0:=F3.2 rfl
 unfold Rh at h
 omega
theorem F2{a b:Match} :xW a b=0↔a=b:=by
 unfold xW
 rw[F3]
 obtain⟨a1,a2,a3⟩:=a
 obtain⟨b1,b2,b3⟩:=b
 simp
theorem qcU(a b:Match):xW b a= -xW a b:=So _ _
theorem Ek{a b:Match}(h:¬Rh a b):a=b\/Rh b a:=by
 rcases UP (a.b::a.e::a.lbs) (b.b::b.e::b.lbs)with e|e|e
 ·exact absurd (show xW a b < 0 by unfold xW;omega) h
 ·exact .inl (F2.1 e)
 ·right
  unfold Rh
  rw[qcU a b]
  show -eW _ _ < 0
  omega
def uK(l:List Match):Prop:=l.Pairwise Rh
theorem A0:∀ {l l':List Match},uK l->uK l'->(∀x,x∈l↔x∈l')->l=l'
 | [], [],_,_,_=>rfl
 | [],b::l',_,_,h=>by have:=(h b).2 (by simp);cases this
 | a::l, [],_,_,h=>by have:=(h a).1 (by simp);cases this
 | a::l,b::l',h1,h2,h=>by
   have h1':=qyJ.1 h1
   have h2':=qyJ.1 h2
   have e:a=b:=by
    rcases qwT.1 ((h a).1 (by simp))with e|m
    ·exact e
    ·rcases qwT.1 ((h b).2 (by simp))with e|m'
     ·exact e.symm
     ·exact absurd (sx (h1'.1 b m') (h2'.1 a m)) (A7 a)
   subst e
   rw[A0 h1'.2 h2'.2 fun x=>?_]
   constructor
   ·intro m
    rcases qwT.1 ((h x).1 (by simp[m]))with e|m'
    ·subst e;exact absurd (h1'.1 _ m) (A7 _)
    ·exact m'
   ·intro m
    rcases qwT.1 ((h x).2 (by simp[m]))with e|m'
    ·subst e;exact absurd (h2'.1 _ m) (A7 _)
    ·exact m'
end Go.Gv

namespace Go.Gv
open Go.Proofs
def XL(c:Corpus)(i:Int):Option ua:=c.texts.find? fun t=>decide (t.b<=i) && decide (i < t.e)
def LC(c:Corpus)(lb:List B)(t:ua):Rn:=⟨c,lb,t.b,min t.e c.toks.length⟩
def NW(i:Int):St3:=⟨i,0,0,0⟩
def qgD(c:Corpus)(lb:List B)(p:Pat)(m:Match):Prop:=0<=m.b/\m.b < c.toks.length/\∃t,XL c m.b=some t/\∃s,mG (LC c lb t) p (NW m.b) s/\m.b < s.p/\m.e=s.p/\m.lbs=Pn (LC c lb t) s
def Gn(c:Corpus)(lb:List B)(p:Pat)(i:Int)(l:List Match):Prop:=uK l/\∀m,m∈l↔m.b=i/\qgD c lb p m
def SY(c:Corpus)(lb:List B)(p:Pat)(l:List Match):Prop:=uK l/\∀m,m∈l↔qgD c lb p m
theorem MW{c:Corpus}{lb:List B}{p:Pat}{i:Int}{l l':List Match}(h:Gn c lb p i l)(h':Gn c lb p i l'):l=l':=A0 h.1 h'.1 fun x=>(h.2 x).trans (h'.2 x).symm
theorem Wf{c:Corpus}{lb:List B}{p:Pat}{l l':List Match}(h:SY c lb p l)(h':SY c lb p l'):l=l':=A0 h.1 h'.1 fun x=>(h.2 x).trans (h'.2 x).symm
theorem qmx{a b:Match}(h:a.b < b.b):Rh a b:=by
 unfold Rh xW eW
 rcases gM a.b b.b with⟨_,e⟩|⟨h2,_⟩|⟨h2,_⟩
 ·rw[e];simp
 ·omega
 ·omega
def SX(c:Corpus)(lb:List B)(p:Pat)(k:Int)(l:List Match):Prop:=uK l/\∀m,m∈l↔m.b < k/\qgD c lb p m
theorem MU(c:Corpus)(lb:List B)(p:Pat):SX c lb p 0 []:=⟨List.Pairwise.nil,fun m=>⟨fun h=>(by cases h),fun h=>(by have:=h.2.1;omega)⟩⟩
theorem MV{c:Corpus}{lb:List B}{p:Pat}{k:Int}{l l':List Match}(h:SX c lb p k l)(h':Gn c lb p k l'):SX c lb p (k+1) (l++l'):=by
 refine⟨qyl.2 ⟨h.1,h'.1,fun a ha b hb=>qmx ?_⟩,fun m=>?_⟩
 ·have:=((h.2 a).1 ha).1
  have:=((h'.2 b).1 hb).1
  omega
 ·rw[qwU,h.2,h'.2]
  constructor
  ·rintro(⟨h1,h2⟩|⟨h1,h2⟩)
   ·exact⟨by omega,h2⟩
   ·exact⟨by omega,h2⟩
  ·rintro⟨h1,h2⟩
   by_cases e:m.b=k
   ·exact .inr ⟨e,h2⟩
   ·exact .inl ⟨by omega,h2⟩
theorem Ru{c:Corpus}{lb:List B}{p:Pat}{l:List Match}(h:SX c lb p c.toks.length l):SY c lb p l:=⟨h.1,fun m=>(h.2 m).trans ⟨fun h=>h.2,fun h=>⟨h.2.1,h⟩⟩⟩
theorem WT(r:Rn)(s:St3):(Pn r s).length=r.lb.length:=by simp[Pn]
theorem Rb:∀ (n:Nat) (l:List Nat),l.Nodup->(∀x∈l,x < n)->l.length<=n
 | 0, [],_,_=>qwY _
 | 0,x::l,_,h=>absurd (h x (by simp)) (Nat.not_lt_zero _)
 | n+1,l,hn,h=>by
   have ih:=Rb n (l.erase n) (hn.erase n) fun x hx=>by
    have h1:=(List.Nodup.mem_erase_iff hn).1 hx
    have:=h x h1.2
    omega
   have h2:l.length<=(l.erase n).length+1:=by
    rw[List.length_erase]
    split <;> omega
   omega
theorem ML{α:Type}{l:List α}{f:α->Nat}{n:Nat}(h1:l.Nodup)(h2:∀x∈l,f x < n)(h3:∀x∈l,∀y∈l,f x=f y->x=y):l.length<=n:=by
 have hn:∀ {l:List α},l.Nodup->(∀x∈l,∀y∈l,f x=f y->x=y)->(l.map f).Nodup:=fun {l} h1 h3=>by
  induction l with
  | nil=>exact qyy
  | cons a l ih=>
    rw[qxf,qyF]
    have h4:=qyF.1 h1
    refine⟨fun hm=>?_,ih h4.2 fun x hx y hy=>h3 x (by simp[hx]) y (by simp[hy])⟩
    obtain⟨y,hy,e⟩:=qw3.1 hm
    have:=h3 y (by simp[hy]) a (by simp) e
    subst this
    exact h4.1 hy
 have:=Rb n (l.map f) (hn h1 h3) fun x hx=>by
  obtain⟨y,hy,rfl⟩:=qw3.1 hx
  exact h2 y hy
 simpa using this
def Yl(m:Nat)(s:St3):Nat:=((s.p.toNat*m+s.b0.toNat) *m+s.b1.toNat) *m+s.b2.toNat
end Go.Gv

namespace Go.Gv
open Go.Proofs
def qu:CC:=gq Tryz.f41 [4,3,3057036,1060060] { bx:=[41],cu:=[6],ke:=[36,990] } _
def qk:List aj:=[.tmp 6]
theorem LQ:ak Tryz.prog sd [4,3,3057036,1060060] qu qk 64:=fo
def pV:CC:=gq Tryz.f19 [2,3] {} _
def pg:List aj:=[.tmp 4]
theorem Fz:ak Tryz.prog lw [2,3] pV pg 22:=fo
def pU:CC:=gq Tryz.f15 [2,3] {} _
def pf:List aj:=[.tmp 4, .tmp 5]
theorem wm:ak Tryz.prog ig [2,3] pU pf 33:=fo
def vJ:CC:=gq Tryz.f22 [3,4] {} _
def uY:List aj:=[.tmp 6, .tmp 7]
theorem LR:ak Tryz.prog xR [3,4] vJ uY 34:=fo
def iJ:CC:=gq Tryz.f48 [] {} _
def iz:List aj:=[.tmp 4]
theorem yO:ak Tryz.prog jx [] iJ iz 36:=fo
end Go.Gv

namespace Go.Gv
open Go.Proofs
open Cod (enc dec)
variable {S S0:Nat->Spc}
theorem Ie(a b:Int)(x y:List Int):eW (a::x) (b::y)=if yX a b≠0 then yX a b else eW x y:=rfl
abbrev qaI:Spc:=aJ (a2 (List Int) (List Int)) (fun _=>True) (enc (X:=Int)) fun x y=>y=eW x.1 x.2
theorem qhZ(h1:S iX=mM):aq iJ iz S (a2 (List Int) (List Int)) (fun _=>True) (enc (X:=Int)) fun x y=>y=eW x.1 x.2:=by
 rintro⟨l,m⟩ -
 simp[iJ,iz, -Bool.forall_bool, -Bool.exists_bool]
 intro hl
 refine ai (X:=Unit) [0,1,9] [] l.length (fun k _=>eW l m=eW (l.drop k) (m.drop k)/\k<=m.length) (fun _=>[]) (fun _=>[]) () (by simp) (by simp) (by omega) (by simp) (by simp) (by simp) (by simp) (by simp) ?_ ?_
 ·intro k _ hk ⟨hP,hkm⟩
  obtain⟨x,hx⟩:∃x,l[k]? =some x:=⟨_,qwQ hk⟩
  obtain⟨_,hgx⟩:=qwP.1 hx
  have hd:l.drop k=x::l.drop (k+1):=by rw[<-hgx];exact qxr hk
  by_cases hm:k < m.length
  ·obtain⟨y,hy⟩:∃y,m[k]? =some y:=⟨_,qwQ hm⟩
   obtain⟨_,hgy⟩:=qwP.1 hy
   have hd2:m.drop k=y::m.drop (k+1):=by rw[<-hgy];exact qxr hm
   rw[hd,hd2,Ie]at hP
   have hm2:¬ (m.length:Int)<=k:=by omega
   have hm3:¬m.length<=k:=by omega
   simp[hk,hx,hgx,hy,hgy,hm,hm2,hm3,h1, -Bool.forall_bool, -Bool.exists_bool]
   refine fun hlm=>⟨fun h=>?_,fun h=>?_⟩
   ·rw[if_pos h]at hP;exact hP.symm
   ·rw[if_neg (by simp[h])]at hP;exact⟨hP,by omega⟩
  ·have hm2:(m.length:Int)<=k:=by omega
   have hm3:m.length<=k:=by omega
   have e:m.drop k=[]:=qxO hm3
   rw[hd,e]at hP
   simp[hk,hx,hgx,hm2,hm3, -Bool.forall_bool, -Bool.exists_bool]
   intro _
   rw[hP];rfl
 ·intro _ ⟨hP,hkm⟩
  rw[qxP]at hP
  simp[-Bool.forall_bool, -Bool.exists_bool]
  intro _ _
  constructor
  ·intro h
   cases hd:m.drop l.length with
   | nil=>have:=congrArg List.length hd;simp at this;omega
   | cons y r=>rw[hd]at hP;rw[hP];rfl
  ·intro h
   have e:m.drop l.length=[]:=qxO (by omega)
   rw[e]at hP;rw[hP];rfl
abbrev s_cmpM:Spc:=aJ (a2 Match Match) (fun _=>True) (enc (X:=Int)) fun x y=>y=xW x.1 x.2
theorem qhY(h1:S iX=mM)(h2:S jx=qaI)(h3:S xT=DQ):aq pV pg S (a2 Match Match) (fun _=>True) (enc (X:=Int)) fun x y=>y=xW x.1 x.2:=by
 rintro⟨a,b⟩ -
 simp[pV,pg,h1,h2,h3, -Bool.forall_bool, -Bool.exists_bool]
 rw[xW,Ie,Ie]
 generalize eW a.lbs b.lbs=z
 by_cases e1:yX a.b b.b=0
 ·by_cases e2:yX a.e b.e=0
  ·by_cases e3:z=0
   ·simp[e1,e2,e3]
   ·simp[e1,e2,List.find?,e3]
  ·simp[e1,List.find?,e2]
 ·simp[List.find?,e1]
def qlI(c:Corpus)(i:Int):Int:=gF c.texts fun t=>decide (t.b<=i) && decide (i < t.e)
abbrev My:Spc:=aJ (a2 Corpus Int) (fun _=>True) (enc (X:=Int)) fun x y=>y=qlI x.1 x.2
theorem XC:aq qb pn S (a2 Corpus Int) (fun _=>True) (enc (X:=Int)) fun x y=>y=qlI x.1 x.2:=by
 rintro⟨c,i⟩ -
 simp[qb,pn, -Bool.forall_bool, -Bool.exists_bool]
 intro hl
 refine ai (X:=Unit) [1,8] [] c.texts.length (fun k _=>∀t∈c.texts.take k,(decide (t.b<=i) && decide (i < t.e))=false) (fun _=>[]) (fun _=>[]) () (by simp) (by simp) (by omega) (by simp) (by simp) (by simp) (by simp) (by simp) ?_ ?_
 ·intro k _ hk hP
  obtain⟨x,hx⟩:∃x,c.texts[k]? =some x:=⟨_,qwQ hk⟩
  obtain⟨_,hgx⟩:=qwP.1 hx
  have hno:(decide (x.b<=i) && decide (i < x.e))=false->∀t∈c.texts.take (k+1),(decide (t.b<=i) && decide (i < t.e))=false:=fun h t ht=>by
   rw[br hx]at ht
   rcases qwU.1 ht with ht|ht
   ·exact hP t ht
   ·simp at ht;subst ht;exact h
  by_cases e1:x.b<=i
  ·by_cases e2:i < x.e
   ·simp[hk,hx,hgx,e1,e2, -Bool.forall_bool, -Bool.exists_bool]
    exact(ux hx (by simp[e1,e2]) hP).symm
   ·simp[hk,hx,hgx,e1,e2, -Bool.forall_bool, -Bool.exists_bool]
    have:=hno (by simp[e2])
    simpa using this
  ·simp[hk,hx,hgx,e1, -Bool.forall_bool, -Bool.exists_bool]
   have:=hno (by simp[e1])
   simpa using this
 ·intro _ hP
  simp[-Bool.forall_bool, -Bool.exists_bool]
  exact(mB (by simpa using hP)).symm
theorem ZQ{c:Corpus}{i:Int} :(qlI c i= -1/\XL c i=none)\/ ∃k t,qlI c i=(k:Nat)/\c.texts[k]? =some t/\XL c i=some t:=by
 unfold qlI XL
 generalize hp:(fun t:ua=>decide (t.b<=i) && decide (i < t.e))=p
 generalize c.texts=l
 rcases CK p l with⟨h1,h2⟩|⟨k,x,h1,h2,h3,h4⟩
 ·refine .inl ⟨h1,qzs.2 fun x hx=>by simp[h2 x hx]⟩
 ·refine .inr ⟨k,x,h1,h2,?_⟩
  have e:l=l.take k++x::l.drop (k+1):=by
   obtain⟨hk,hg⟩:=qwP.1 h2
   rw[<-hg,<-qxr hk,qxs]
  rw[e,List.find?_append,qzs.2 fun x hx=>by simp[h4 x hx]]
  simp[h3]
end Go.Gv
