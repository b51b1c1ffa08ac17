/- A part of the framework and of the walks: V60 V61 V62 V63 C67 W186. -/
import Derived.Test.YtphdikcommfnhaaGreatDoorGe37
import Derived.Test.YtphdikcommfnhaaGreatDoorGe29
import Derived.Test.YtphdikcommfnhaaGreatDoorGe20
import Derived.Test.YtphdikcommfnhaaGreatDoorGe18
import Derived.Test.YtphdikcommfnhaaGreatDoorGe21
set_option linter.unusedSimpArgs false
set_option linter.unusedVariables false
set_option linter.unusedSectionVars false
set_option maxRecDepth 100000
set_option maxHeartbeats 0

namespace Go.Gv
open Go.Proofs
open Cod (enc dec)
structure St3 where
 p:Int
 b0:Int
 b1:Int
 b2:Int
deriving DecidableEq
instance:Cod St3 where
 wd:=4
 enc s:= .agg [enc s.p,enc s.b0,enc s.b1,enc s.b2]
 dec| .agg [x0,x1,x2,x3]=>(dec x0).bind fun x0=>(dec x1).bind fun x1=>(dec x2).bind fun x2=>(dec x3).bind fun x3=>some ⟨x0,x1,x2,x3⟩|_=>none
 kn _:=rfl
 wid _:=rfl
 dec_enc s:=by simp
 le d x h:=by
  split at h
  ·simp only[qxx]at h
   obtain⟨x0,h0,x1,h1,x2,h2,x3,h3,h⟩:=h
   cases h
   exact LeL.agg (.cons (Cod.le _ _ h0) (.cons (Cod.le _ _ h1) (.cons (Cod.le _ _ h2) (.cons (Cod.le _ _ h3) .nil))))
  ·cases h
@[simp] theorem qqY(s:St3):enc s= .agg [enc s.p,enc s.b0,enc s.b1,enc s.b2]:=id rfl
@[simp] theorem qq7(x0 x1 x2 x3:D):dec (X:=St3) (.agg [x0,x1,x2,x3])=((dec x0).bind fun x0=>(dec x1).bind fun x1=>(dec x2).bind fun x2=>(dec x3).bind fun x3=>some ⟨x0,x1,x2,x3⟩):=id rfl
theorem WI:ZS St3 true [.int .i64, .int .i64, .int .i64, .int .i64]:=⟨fun _=>rfl,fun _=>rfl⟩
structure Rn where
 c:Corpus
 lb:List B
 bg:Int
 en:Int
def St3.get(s:St3)(i:Nat):Int:=match i with|0=>s.b0|1=>s.b1|_=>s.b2
def St3.set(s:St3)(i:Nat)(x:Int):St3:=match i with|0=>⟨s.p,x,s.b1,s.b2⟩|1=>⟨s.p,s.b0,x,s.b2⟩|_=>⟨s.p,s.b0,s.b1,x⟩
def NB(r:Rn)(s:St3):List Int:=(List.range r.lb.length).map fun i=>s.get i -1
def Ez(r:Rn)(p:Pat)(s:St3):St3:=
 let s1:St3:=if p.lab=se then s else s.set (fW r.lb fun z=>decide (z=p.lab)).toNat (s.p+1)
 ⟨s1.p+1,s1.b0,s1.b1,s1.b2⟩
def BB(r:Rn)(p:Pat)(s:St3):Option Bool:=xX ⟨r.c,s.p,r.lb,NB r s⟩ 21 p.cond
def Vi(r:Rn)(p:Pat)(at_:Int):Bool:=r.c.regs.any fun x=>decide (x.ty=p.reg) && decide ((if p.op=3 then x.e else x.b)=at_) && decide (r.bg<=x.b) && decide (x.e<=r.en)
section
variable {α:Type}
def Pow(R:α->α->Prop):Nat->α->α->Prop
 | 0=>fun s t=>s=t
 | n+1=>fun s t=>∃u,R s u/\Pow R n u t
def Star(R:α->α->Prop)(s t:α):Prop:=∃n,Pow R n s t
theorem Pow.add{R:α->α->Prop} :∀ {m n:Nat} {s t u:α},Pow R m s t->Pow R n t u->Pow R (m+n) s u
 | 0,n,s,t,u,h,k=>by cases h;rwa [qyo]
 | m+1,n,s,t,u,⟨v,h1,h2⟩,k=>by
   rw[Nat.succ_add]
   exact⟨v,h1,h2.add k⟩
theorem Star.refl(R:α->α->Prop)(s:α):Star R s s:=⟨0,rfl⟩
theorem Star.one{R:α->α->Prop}{s t:α}(h:R s t):Star R s t:=⟨1,t,h,rfl⟩
theorem Star.trans{R:α->α->Prop}{s t u:α}(h:Star R s t)(k:Star R t u):Star R s u:=by
 obtain⟨m,h⟩:=h
 obtain⟨n,k⟩:=k
 exact⟨m+n,h.add k⟩
theorem Star.mono{R Q:α->α->Prop}(hR:∀s t,R s t->Star Q s t){s t:α}(h:Star R s t):Star Q s t:=by
 obtain⟨n,h⟩:=h
 induction n generalizing s with
 | zero=>cases h;exact .refl _ _
 | succ n ih=>
   obtain⟨u,h1,h2⟩:=h
   exact(hR _ _ h1).trans (ih h2)
theorem Pow.mono{R Q:α->α->Prop}(hR:∀s t,R s t->Q s t):∀ {n:Nat} {s t:α},Pow R n s t->Pow Q n s t
 | 0,_,_,h=>h
 | n+1,_,_,⟨u,h1,h2⟩=>⟨u,hR _ _ h1,h2.mono hR⟩
end
def Dl(R:St3->St3->Prop)(s t:St3):Prop:=R s t/\s.p < t.p
def yH(R:St3->St3->Prop)(mn mx:Int)(s t:St3):Prop:=∃u,Pow R mn.toNat s u/\∃n:Nat,(mx < 0\/mn+n<=mx)/\Pow (Dl R) n u t
def za(R:St3->St3->Prop):Prop:=∀s t,R s t->s=t\/s.p < t.p
theorem RO{R:St3->St3->Prop}(hR:za R){s t:St3} :Star (Dl R) s t↔Star R s t:=by
 constructor
 ·exact Star.mono fun s t h=> .one h.1
 ·exact Star.mono fun s t h=>by
   rcases hR s t h with rfl|h2
   ·exact .refl _ _
   ·exact .one ⟨h,h2⟩
theorem sI{R:St3->St3->Prop}(hR:za R){mn:Int}{s t:St3} :yH R mn (-1) s t↔ ∃u,Pow R mn.toNat s u/\Star R u t:=by
 constructor
 ·rintro⟨u,h1,n,_,h2⟩
  exact⟨u,h1,(RO hR).1 ⟨n,h2⟩⟩
 ·rintro⟨u,h1,h2⟩
  obtain⟨n,h2⟩:=(RO hR).2 h2
  exact⟨u,h1,n, .inl (by decide),h2⟩
theorem RW{R:St3->St3->Prop}(hR:za R)(n:Nat):za (Pow R n):=by
 induction n with
 | zero=>intro s t h;exact .inl h
 | succ n ih=>
   rintro s t ⟨u,h1,h2⟩
   rcases hR _ _ h1 with rfl|h1
   ·exact ih _ _ h2
   ·rcases ih _ _ h2 with rfl|h2
    ·exact .inr h1
    ·exact .inr (by omega)
theorem RV{R:St3->St3->Prop}(hR:za R)(mn mx:Int):za (yH R mn mx):=by
 rintro s t ⟨u,h1,n,_,h2⟩
 have g2:za (Pow (Dl R) n):=RW (fun s t h=>hR s t h.1) n
 rcases RW hR _ _ _ h1 with rfl|h1
 ·exact g2 _ _ h2
 ·rcases g2 _ _ h2 with rfl|h2
  ·exact .inr h1
  ·exact .inr (by omega)
theorem qfx{R:St3->St3->Prop}(hR:za R){m1 m2:Int}(h1:0<=m1/\m1<=1)(h2:0<=m2/\m2<=1)(s t:St3):yH (yH R m2 (-1)) m1 (-1) s t↔yH R (m1*m2) (-1) s t:=by
 have hR2:=RV hR m2 (-1)
 rw[sI hR2,sI hR]
 have sub:∀s t,yH R m2 (-1) s t->Star R s t:=fun s t h=>by
  obtain⟨u,h3,h4⟩:=(sI hR).1 h
  exact Star.trans ⟨_,h3⟩ h4
 have sup:∀s t,R s t->yH R m2 (-1) s t:=fun s t h=>by
  rw[sI hR]
  have:m2=0\/m2=1:=by omega
  rcases this with rfl|rfl
  ·exact⟨s,rfl, .one h⟩
  ·exact⟨t,⟨t,h,rfl⟩, .refl _ _⟩
 have eqS:∀s t,Star (yH R m2 (-1)) s t↔Star R s t:=fun s t=>⟨Star.mono sub,Star.mono fun s t h=> .one (sup s t h)⟩
 have c1:m1=0\/m1=1:=by omega
 rcases c1 with rfl|rfl
 ·rw[Int.zero_mul]
  constructor
  ·rintro⟨u,h3,h4⟩
   cases h3
   exact⟨_,rfl,(eqS _ _).1 h4⟩
  ·rintro⟨u,h3,h4⟩
   cases h3
   exact⟨_,rfl,(eqS _ _).2 h4⟩
 ·rw[Int.one_mul]
  constructor
  ·rintro⟨u,⟨v,h3,h5⟩,h4⟩
   cases h5
   obtain⟨u2,h6,h7⟩:=(sI hR).1 h3
   exact⟨u2,h6,h7.trans ((eqS _ _).1 h4)⟩
  ·rintro⟨u,h3,h4⟩
   exact⟨t,⟨t,(sI hR).2 ⟨u,h3,h4⟩,rfl⟩, .refl _ _⟩
mutual
def lJ(r:Rn):Pat->St3->St3->Prop
 | .mk op cond lab reg mn mx ks=>fun s t=>
   if op=1 then s.p < r.en/\BB r (.mk op cond lab reg mn mx ks) s=some true/\t=Ez r (.mk op cond lab reg mn mx ks) s
   else if op=2\/op=3 then Vi r (.mk op cond lab reg mn mx ks) s.p=true/\t=s
   else if op=4 then uF r ks s t
   else if op=5 then uG r ks s t
   else Fd r ks mn mx s t
def uF(r:Rn):List Pat->St3->St3->Prop
 | []=>fun s t=>s=t
 | k::ks=>fun s t=>∃u,lJ r k s u/\uF r ks u t
def uG(r:Rn):List Pat->St3->St3->Prop
 | []=>fun _ _=>False
 | k::ks=>fun s t=>lJ r k s t\/uG r ks s t
def Fd(r:Rn):List Pat->Int->Int->St3->St3->Prop
 | []=>fun _ _ _ _=>False
 | k::_=>fun mn mx s t=>yH (lJ r k) mn mx s t
end
mutual
theorem EK(r:Rn):∀p:Pat,za (lJ r p)
 | .mk op cond lab reg mn mx ks=>by
   intro s t h
   rw[lJ]at h
   split at h
   ·obtain⟨_,_,rfl⟩:=h
    right
    unfold Ez
    dsimp only
    split
    ·show s.p < s.p+1;omega
    ·generalize (fW r.lb fun z=>decide (z=lab)).toNat=i
     rcases i with _|_|i
     ·show s.p < s.p+1;omega
     ·show s.p < s.p+1;omega
     ·show s.p < s.p+1;omega
   ·split at h
    ·exact .inl h.2.symm
    ·split at h
     ·exact Gb r ks s t h
     ·split at h
      ·exact Ng r ks s t h
      ·exact Zn r ks mn mx s t h
theorem Gb(r:Rn):∀ks:List Pat,za (uF r ks)
 | []=>fun s t h=>by rw[uF]at h;exact .inl h
 | k::ks=>fun s t h=>by
   rw[uF]at h
   obtain⟨u,h1,h2⟩:=h
   rcases EK r k s u h1 with rfl|h1
   ·exact Gb r ks _ _ h2
   ·rcases Gb r ks u t h2 with rfl|h2
    ·exact .inr h1
    ·exact .inr (by omega)
theorem Ng(r:Rn):∀ks:List Pat,za (uG r ks)
 | []=>fun s t h=>by rw[uG]at h;exact h.elim
 | k::ks=>fun s t h=>by
   rw[uG]at h
   rcases h with h|h
   ·exact EK r k s t h
   ·exact Ng r ks s t h
theorem Zn(r:Rn):∀ (ks:List Pat) (mn mx:Int),za (Fd r ks mn mx)
 | [],_,_=>fun s t h=>by rw[Fd]at h;exact h.elim
 | k::_,mn,mx=>fun s t h=>by
   rw[Fd]at h
   exact RV (EK r k) mn mx s t h
end
end Go.Gv

namespace Go.Gv
open Go.Proofs
def P2(m:Int)(s:St3):Prop:=0<=s.p/\s.p<=m/\∀i,0<=s.get i/\s.get i<=m
def qeu(m:Int)(R:St3->St3->Prop):Prop:=∀s t,R s t->P2 m s->P2 m t
theorem xU{m:Int}{R:St3->St3->Prop}(h:qeu m R):∀n:Nat,qeu m (Pow R n)
 | 0,s,t,e,hs=>by cases e;exact hs
 | n+1,s,t,⟨u,h1,h2⟩,hs=>xU h n _ _ h2 (h _ _ h1 hs)
theorem qjQ{m:Int}{R:St3->St3->Prop}(h:qeu m R)(mn mx:Int):qeu m (yH R mn mx):=by
 rintro s t ⟨u,h1,n,_,h2⟩ hs
 exact xU (R:=Dl R) (fun s t q=>h s t q.1) n _ _ h2 (xU h _ _ _ h1 hs)
theorem qhO(r:Rn)(p:Pat)(s:St3):(Ez r p s).p=s.p+1:=by
 unfold Ez
 dsimp only
 split
 ·rfl
 ·generalize (fW r.lb fun z=>decide (z=p.lab)).toNat=i
  rcases i with _|_|i <;> rfl
theorem qfS(r:Rn)(p:Pat)(s:St3)(i:Nat):(Ez r p s).get i=s.get i\/(Ez r p s).get i=s.p+1:=by
 unfold Ez
 dsimp only
 split
 ·rcases i with _|_|i <;> exact .inl rfl
 ·generalize (fW r.lb fun z=>decide (z=p.lab)).toNat=j
  rcases j with _|_|j <;> rcases i with _|_|i <;> first|exact .inl rfl|exact .inr rfl
mutual
theorem rE(r:Rn):∀p:Pat,qeu r.en (lJ r p)
 | .mk op cond lab reg mn mx ks=>by
   intro s t h hs
   rw[lJ]at h
   split at h
   ·obtain⟨h1,_,rfl⟩:=h
    obtain⟨a,b,c⟩:=hs
    refine⟨by rw[qhO];omega,by rw[qhO];omega,fun i=>?_⟩
    rcases qfS r (.mk op cond lab reg mn mx ks) s i with e|e
    ·rw[e];exact c i
    ·rw[e];omega
   ·split at h
    ·rw[h.2];exact hs
    ·split at h
     ·exact O4 r ks s t h hs
     ·split at h
      ·exact WG r ks s t h hs
      ·exact qf9 r ks mn mx s t h hs
theorem O4(r:Rn):∀ks:List Pat,qeu r.en (uF r ks)
 | []=>fun s t h hs=>by rw[uF]at h;rw[<-h];exact hs
 | k::ks=>fun s t h hs=>by
   rw[uF]at h
   obtain⟨u,h1,h2⟩:=h
   exact O4 r ks u t h2 (rE r k s u h1 hs)
theorem WG(r:Rn):∀ks:List Pat,qeu r.en (uG r ks)
 | []=>fun s t h=>by rw[uG]at h;exact h.elim
 | k::ks=>fun s t h hs=>by
   rw[uG]at h
   rcases h with h|h
   ·exact rE r k s t h hs
   ·exact WG r ks s t h hs
theorem qf9(r:Rn):∀ (ks:List Pat) (mn mx:Int),qeu r.en (Fd r ks mn mx)
 | [],_,_=>fun s t h=>by rw[Fd]at h;exact h.elim
 | k::_,mn,mx=>fun s t h hs=>by
   rw[Fd]at h
   exact qjQ (rE r k) mn mx s t h hs
end
theorem C0{R:St3->St3->Prop} :∀ {n:Nat} {s t:St3},Pow (Dl R) n s t->s.p+n<=t.p
 | 0,s,t,h=>by cases h;omega
 | n+1,s,t,⟨u,h1,h2⟩=>by
   have:=C0 h2
   have:=h1.2
   omega
def B6(m:Int)(f:St3->List St3)(R:St3->St3->Prop):Prop:=∀s,P2 m s->∀t,t∈f s↔R s t
def YA(f:St3->List St3):Nat->St3->List St3
 | 0,s=>[s]
 | n+1,s=>(f s).flatMap (YA f n)
theorem sF{m:Int}{f:St3->List St3}{R:St3->St3->Prop}(h:B6 m f R)(k:qeu m R):∀n:Nat,B6 m (YA f n) (Pow R n)
 | 0,s,hs,t=>by simp[YA,Pow,eq_comm]
 | n+1,s,hs,t=>by
   simp only[YA,qyE,Pow]
   constructor
   ·rintro⟨u,h1,h2⟩
    have h1:=(h s hs u).1 h1
    exact⟨u,h1,(sF h k n u (k _ _ h1 hs) t).1 h2⟩
   ·rintro⟨u,h1,h2⟩
    exact⟨u,(h s hs u).2 h1,(sF h k n u (k _ _ h1 hs) t).2 h2⟩
def qj1(f:St3->List St3)(s:St3):List St3:=(f s).filter fun t=>decide (s.p < t.p)
theorem MB{m:Int}{f:St3->List St3}{R:St3->St3->Prop}(h:B6 m f R):B6 m (qj1 f) (Dl R):=fun s hs t=>by
 unfold qj1 Dl
 rw[qy3,h s hs t,decide_eq_true_iff]
def qjc(N:Nat)(f:St3->List St3)(mn mx:Int)(s:St3):List St3:=
 (YA f mn.toNat s).flatMap fun u=>(List.range ((if mx < 0 then N else(mx -mn).toNat) +1)).flatMap fun n=>YA (qj1 f) n u
theorem Yh{N:Nat}{f:St3->List St3}{R:St3->St3->Prop}(h:B6 N f R)(k:qeu N R)(mn mx:Int)(hm:0<=mx->mn<=mx):B6 N (qjc N f mn mx) (yH R mn mx):=fun s hs t=>by
 unfold qjc yH
 simp only[qyE,qyU]
 have ki:qeu N (Dl R):=fun s t q=>k s t q.1
 constructor
 ·rintro⟨u,h1,n,h2,h3⟩
  have h1:=(sF h k _ s hs u).1 h1
  have hu:=xU k _ _ _ h1 hs
  refine⟨u,h1,n,?_,(sF (MB h) ki n u hu t).1 h3⟩
  by_cases hx:mx < 0
  ·exact .inl hx
  ·rw[if_neg hx]at h2
   have:=hm (by omega)
   exact .inr (by omega)
 ·rintro⟨u,h1,n,h2,h3⟩
  have hu:=xU k _ _ _ h1 hs
  refine⟨u,(sF h k _ s hs u).2 h1,n,?_,(sF (MB h) ki n u hu t).2 h3⟩
  by_cases hx:mx < 0
  ·rw[if_pos hx]
   have:=C0 h3
   have:=(xU ki _ _ _ h3 hu).2.1
   have:=hu.1
   omega
  ·rw[if_neg hx]
   rcases h2 with h2|h2
   ·exact absurd h2 hx
   ·omega
mutual
def Su(r:Rn):Pat->St3->List St3
 | .mk op cond lab reg mn mx ks=>fun s=>
   if op=1 then(if decide (s.p < r.en) && (BB r (.mk op cond lab reg mn mx ks) s==some true)then[Ez r (.mk op cond lab reg mn mx ks) s]else[])
   else if op=2\/op=3 then(if Vi r (.mk op cond lab reg mn mx ks) s.p then[s]else[])
   else if op=4 then Sr r ks s
   else if op=5 then Ss r ks s
   else Xe r ks mn mx s
def Sr(r:Rn):List Pat->St3->List St3
 | []=>fun s=>[s]
 | k::ks=>fun s=>(Su r k s).flatMap (Sr r ks)
def Ss(r:Rn):List Pat->St3->List St3
 | []=>fun _=>[]
 | k::ks=>fun s=>Su r k s++Ss r ks s
def Xe(r:Rn):List Pat->Int->Int->St3->List St3
 | []=>fun _ _ _=>[]
 | k::_=>fun mn mx s=>qjc r.en.toNat (Su r k) mn mx s
end
mutual
def rD:Pat->List Pat
 | .mk op cond lab reg mn mx ks=> .mk op cond lab reg mn mx ks::xP ks
def xP:List Pat->List Pat
 | []=>[]
 | k::ks=>rD k++xP ks
end
def ll(C:Pat->Prop)(p:Pat):Prop:=∀q∈rD p,C q
theorem G8:∀ {ks:List Pat} {k q:Pat},k∈ks->q∈rD k->q∈xP ks
 | a::ks,k,q,h,hq=>by
   rw[xP,qxE]
   rcases qxD.1 h with rfl|h
   ·exact .inl hq
   ·exact .inr (G8 h hq)
theorem uN:∀ {ks:List Pat} {q:Pat},q∈xP ks->∃k∈ks,q∈rD k
 | [],q,h=>by rw[xP]at h;cases h
 | a::ks,q,h=>by
   rw[xP,qxE]at h
   rcases h with h|h
   ·exact⟨a,by simp,h⟩
   ·obtain⟨k,h1,h2⟩:=uN h
    exact⟨k,by simp[h1],h2⟩
theorem G9(p:Pat):p∈rD p:=by cases p;rw[rD];simp
theorem jY{C:Pat->Prop}{p:Pat}(h:ll C p):C p:=h p (G9 p)
theorem qM{C:Pat->Prop}{p k:Pat}(h:ll C p)(hk:k∈p.kids):ll C k:=fun q hq=>h q (by cases p;rw[rD];exact qzn _ (G8 hk hq))
theorem qfJ{C:Pat->Prop}{p:Pat}(h:C p)(hk:∀k∈p.kids,ll C k):ll C p:=fun q hq=>by
 cases p
 rw[rD]at hq
 rcases qxD.1 hq with rfl|hq
 ·exact h
 ·obtain⟨k,h1,h2⟩:=uN hq
  exact hk k h1 q h2
theorem sK{C D:Pat->Prop}{p:Pat}(h:ll C p)(hCD:∀q,C q->D q):ll D p:=fun q hq=>hCD q (h q hq)
def qer(q:Pat):Prop:=q.op=1\/q.op=2\/q.op=3\/q.op=4\/q.op=5\/(0<=q.mx->q.mn<=q.mx)
mutual
theorem Be(r:Rn)(hr:0<=r.en):∀p:Pat,ll qer p->B6 r.en (Su r p) (lJ r p)
 | .mk op cond lab reg mn mx ks,h=>by
   have hs:=jY h
   have hk:∀k∈ks,ll qer k:=fun k hk=>qM h hk
   intro s h1 t
   rw[Su,lJ]
   dsimp only
   by_cases e1:op=1
   ·rw[if_pos e1,if_pos e1]
    generalize BB r (.mk op cond lab reg mn mx ks) s=q
    by_cases e2:s.p < r.en
    ·by_cases e3:q=some true
     ·simp[e2,e3]
     ·simp[e2,e3]
    ·simp[e2]
   rw[if_neg e1,if_neg e1]
   by_cases e2:op=2\/op=3
   ·rw[if_pos e2,if_pos e2]
    cases Vi r (.mk op cond lab reg mn mx ks) s.p <;> simp
   rw[if_neg e2,if_neg e2]
   by_cases e4:op=4
   ·rw[if_pos e4,if_pos e4];exact IY r hr ks hk s h1 t
   rw[if_neg e4,if_neg e4]
   by_cases e5:op=5
   ·rw[if_pos e5,if_pos e5];exact IZ r hr ks hk s h1 t
   rw[if_neg e5,if_neg e5]
   refine TT r hr ks mn mx hk ?_ s h1 t
   rcases hs with h|h|h|h|h|h
   ·exact absurd h e1
   ·exact absurd (.inl h) e2
   ·exact absurd (.inr h) e2
   ·exact absurd h e4
   ·exact absurd h e5
   ·exact h
theorem IY(r:Rn)(hr:0<=r.en):∀ks:List Pat,(∀k∈ks,ll qer k)->B6 r.en (Sr r ks) (uF r ks)
 | [],_=>fun s h t=>by rw[Sr,uF];simp[eq_comm]
 | k::ks,h=>fun s hs t=>by
   have i1:=Be r hr k (h k (by simp))
   have i2:=IY r hr ks fun q hq=>h q (by simp[hq])
   rw[Sr,uF]
   dsimp only
   rw[qyE]
   constructor
   ·rintro⟨u,h1,h2⟩
    have h1:=(i1 s hs u).1 h1
    exact⟨u,h1,(i2 u (rE r k _ _ h1 hs) t).1 h2⟩
   ·rintro⟨u,h1,h2⟩
    exact⟨u,(i1 s hs u).2 h1,(i2 u (rE r k _ _ h1 hs) t).2 h2⟩
theorem IZ(r:Rn)(hr:0<=r.en):∀ks:List Pat,(∀k∈ks,ll qer k)->B6 r.en (Ss r ks) (uG r ks)
 | [],_=>fun s h t=>by rw[Ss,uG];simp
 | k::ks,h=>fun s hs t=>by
   have i1:=Be r hr k (h k (by simp))
   have i2:=IZ r hr ks fun q hq=>h q (by simp[hq])
   rw[Ss,uG]
   dsimp only
   rw[qxE,i1 s hs t,i2 s hs t]
theorem TT(r:Rn)(hr:0<=r.en):∀ (ks:List Pat) (mn mx:Int),(∀k∈ks,ll qer k)->(0<=mx->mn<=mx)->B6 r.en (Xe r ks mn mx) (Fd r ks mn mx)
 | [],_,_,_,_=>fun s h t=>by rw[Xe,Fd];simp
 | k::ks,mn,mx,h,hm=>fun s hs t=>by
   have i1:=Be r hr k (h k (by simp))
   rw[Xe,Fd]
   have e:((r.en.toNat:Nat):Int)=r.en:=by omega
   refine Yh (N:=r.en.toNat) (f:=Su r k) (R:=lJ r k) (by rw[e];exact i1) (by rw[e];exact rE r k) mn mx hm s (by rw[e];exact hs) t
end
end Go.Gv

namespace Go.Gv
def eX:List Int->List Int->Int
 | [], []=>0
 | [],_::_=> -1
 | _::_, []=>1
 | a::x,b::y=>if zw a b≠0 then zw a b else eX x y
def vT(a b:Match):Int:=eX (a.b::a.e::a.lbs) (b.b::b.e::b.lbs)
theorem gQ(a b:Int):(a < b/\zw a b= -1)\/(a=b/\zw a b=0)\/(b < a/\zw a b=1):=by
 unfold zw
 by_cases h:a < b
 ·exact .inl ⟨h,if_pos h⟩
 ·by_cases h2:b < a
  ·exact .inr (.inr ⟨h2,by rw[if_neg h,if_pos h2]⟩)
  ·exact .inr (.inl ⟨by omega,by rw[if_neg h,if_neg h2]⟩)
theorem qdy(a b:Int):zw b a= -zw a b:=by
 rcases gQ a b with⟨h,e⟩|⟨h,e⟩|⟨h,e⟩ <;> rcases gQ b a with⟨h',e'⟩|⟨h',e'⟩|⟨h',e'⟩ <;> first|(rw[e,e'];done)|(rw[e,e'];rfl)|omega
theorem Nw{a b:Int} :zw a b=0↔a=b:=by
 rcases gQ a b with⟨h,e⟩|⟨h,e⟩|⟨h,e⟩ <;> rw[e] <;> constructor <;> intro h' <;> omega
theorem SH:∀x y:List Int,eX y x= -eX x y
 | [], []=>rfl
 | [],_::_=>rfl
 | _::_, []=>rfl
 | a::x,b::y=>by
   unfold eX
   have h:=qdy a b
   by_cases e:zw a b=0
   ·rw[if_neg (by rw[h,e];simp),if_neg (by simp[e])]
    exact SH x y
   ·rw[if_pos (by rw[h];omega),if_pos e,h]
theorem Gp:∀ {x y:List Int},eX x y=0↔x=y
 | [], []=>by simp[eX]
 | [],_::_=>by simp[eX]
 | _::_, []=>by simp[eX]
 | a::x,b::y=>by
   unfold eX
   by_cases e:zw a b=0
   ·rw[if_neg (by simp[e]),Gp,Nw.1 e]
    simp
   ·rw[if_pos e]
    constructor
    ·intro h;exact absurd h e
    ·intro h;injection h with h;exact absurd (Nw.2 h) e
theorem U7(x y:List Int):eX x y= -1\/eX x y=0\/eX x y=1:=by
 induction x generalizing y with
 | nil=>cases y <;> simp[eX]
 | cons a x ih=>
   cases y with
   | nil=>simp[eX]
   | cons b y=>
     unfold eX
     split
     ·rcases gQ a b with⟨_,e⟩|⟨_,e⟩|⟨_,e⟩ <;> rw[e] <;> simp
     ·exact ih y
theorem KW:∀ {x y z:List Int},eX x y < 0->eX y z < 0->eX x z < 0
 | [], [],_,h,_=>by simp[eX]at h
 | [],_::_, [],_,h=>by simp[eX]at h
 | [],_::_,_::_,_,_=>by simp[eX]
 | _::_, [],_,h,_=>by simp[eX]at h
 | _::_,_::_, [],_,h=>by simp[eX]at h
 | a::x,b::y,c::z,h1,h2=>by
   unfold eX at h1 h2 ⊢
   rcases gQ a b with⟨q1,e1⟩|⟨q1,e1⟩|⟨q1,e1⟩ <;> rcases gQ b c with⟨q2,e2⟩|⟨q2,e2⟩|⟨q2,e2⟩ <;> rcases gQ a c with⟨q3,e3⟩|⟨q3,e3⟩|⟨q3,e3⟩ <;> simp only[e1,e2,e3]at h1 h2 ⊢ <;> first|omega|(exact KW (by simpa using h1) (by simpa using h2))|(simp at h1;done)|(simp at h2;done)|skip
def RC(a b:Match):Prop:=vT a b < 0
theorem sM{a b c:Match}(h1:RC a b)(h2:RC b c):RC a c:=KW h1 h2
theorem Bl(a:Match):¬RC a a:=fun h=>by
 have:vT a a=0:=Gp.2 rfl
 unfold RC at h
 omega
theorem Gn{a b:Match} :vT a b=0↔a=b:=by
 unfold vT
 rw[Gp]
 obtain⟨a1,a2,a3⟩:=a
 obtain⟨b1,b2,b3⟩:=b
 simp
theorem qdx(a b:Match):vT b a= -vT a b:=SH _ _
theorem EC{a b:Match}(h:¬RC a b):a=b\/RC b a:=by
 rcases U7 (a.b::a.e::a.lbs) (b.b::b.e::b.lbs)with e|e|e
 ·exact absurd (show vT a b < 0 by unfold vT;omega) h
 ·exact .inl (Gn.1 e)
 ·right
  unfold RC
  rw[qdx a b]
  show -eX _ _ < 0
  omega
def vi(l:List Match):Prop:=l.Pairwise RC
theorem FC:∀ {l l':List Match},vi l->vi l'->(∀x,x∈l↔x∈l')->l=l'
 | [], [],_,_,_=>rfl
 | [],b::l',_,_,h=>by have:=(h b).2 (by simp);cases this
 | a::l, [],_,_,h=>by have:=(h a).1 (by simp);cases this
 | a::l,b::l',h1,h2,h=>by
   have h1':=qzw.1 h1
   have h2':=qzw.1 h2
   have e:a=b:=by
    rcases qxD.1 ((h a).1 (by simp))with e|m
    ·exact e
    ·rcases qxD.1 ((h b).2 (by simp))with e|m'
     ·exact e.symm
     ·exact absurd (sM (h1'.1 b m') (h2'.1 a m)) (Bl a)
   subst e
   rw[FC h1'.2 h2'.2 fun x=>?_]
   constructor
   ·intro m
    rcases qxD.1 ((h x).1 (by simp[m]))with e|m'
    ·subst e;exact absurd (h1'.1 _ m) (Bl _)
    ·exact m'
   ·intro m
    rcases qxD.1 ((h x).2 (by simp[m]))with e|m'
    ·subst e;exact absurd (h2'.1 _ m) (Bl _)
    ·exact m'
end Go.Gv

namespace Go.Gv
open Go.Proofs
def LW(c:Corpus)(i:Int):Option oW:=c.texts.find? fun t=>decide (t.b<=i) && decide (i < t.e)
def FJ(c:Corpus)(lb:List B)(t:oW):Rn:=⟨c,lb,t.b,min t.e c.toks.length⟩
def Je(i:Int):St3:=⟨i,0,0,0⟩
def qes(c:Corpus)(lb:List B)(p:Pat)(m:Match):Prop:=0<=m.b/\m.b < c.toks.length/\∃t,LW c m.b=some t/\∃s,lJ (FJ c lb t) p (Je m.b) s/\m.b < s.p/\m.e=s.p/\m.lbs=NB (FJ c lb t) s
def qev(c:Corpus)(lb:List B)(p:Pat)(i:Int)(l:List Match):Prop:=vi l/\∀m,m∈l↔m.b=i/\qes c lb p m
def Vu(c:Corpus)(lb:List B)(p:Pat)(l:List Match):Prop:=vi l/\∀m,m∈l↔qes c lb p m
theorem qgh{c:Corpus}{lb:List B}{p:Pat}{l l':List Match}(h:Vu c lb p l)(h':Vu c lb p l'):l=l':=FC h.1 h'.1 fun x=>(h.2 x).trans (h'.2 x).symm
theorem qnf{a b:Match}(h:a.b < b.b):RC a b:=by
 unfold RC vT eX
 rcases gQ a.b b.b with⟨_,e⟩|⟨h2,_⟩|⟨h2,_⟩
 ·rw[e];simp
 ·omega
 ·omega
def Vt(c:Corpus)(lb:List B)(p:Pat)(k:Int)(l:List Match):Prop:=vi l/\∀m,m∈l↔m.b < k/\qes c lb p m
theorem Zd(c:Corpus)(lb:List B)(p:Pat):Vt c lb p 0 []:=⟨List.Pairwise.nil,fun m=>⟨fun h=>(by cases h),fun h=>(by have:=h.2.1;omega)⟩⟩
theorem Ze{c:Corpus}{lb:List B}{p:Pat}{k:Int}{l l':List Match}(h:Vt c lb p k l)(h':qev c lb p k l'):Vt c lb p (k+1) (l++l'):=by
 refine⟨qy6.2 ⟨h.1,h'.1,fun a ha b hb=>qnf ?_⟩,fun m=>?_⟩
 ·have:=((h.2 a).1 ha).1
  have:=((h'.2 b).1 hb).1
  omega
 ·rw[qxE,h.2,h'.2]
  constructor
  ·rintro(⟨h1,h2⟩|⟨h1,h2⟩)
   ·exact⟨by omega,h2⟩
   ·exact⟨by omega,h2⟩
  ·rintro⟨h1,h2⟩
   by_cases e:m.b=k
   ·exact .inr ⟨e,h2⟩
   ·exact .inl ⟨by omega,h2⟩
theorem qct{c:Corpus}{lb:List B}{p:Pat}{l:List Match}(h:Vt c lb p c.toks.length l):Vu c lb p l:=⟨h.1,fun m=>(h.2 m).trans ⟨fun h=>h.2,fun h=>⟨h.2.1,h⟩⟩⟩
theorem qha(r:Rn)(s:St3):(NB r s).length=r.lb.length:=by simp[NB]
theorem Rv:∀ (n:Nat) (l:List Nat),l.Nodup->(∀x∈l,x < n)->l.length<=n
 | 0, [],_,_=>qxI _
 | 0,x::l,_,h=>absurd (h x (by simp)) (Nat.not_lt_zero _)
 | n+1,l,hn,h=>by
   have ih:=Rv n (l.erase n) (hn.erase n) fun x hx=>by
    have h1:=(List.Nodup.mem_erase_iff hn).1 hx
    have:=h x h1.2
    omega
   have h2:l.length<=(l.erase n).length+1:=by
    rw[List.length_erase]
    split <;> omega
   omega
theorem M4{α:Type}{l:List α}{f:α->Nat}{n:Nat}(h1:l.Nodup)(h2:∀x∈l,f x < n)(h3:∀x∈l,∀y∈l,f x=f y->x=y):l.length<=n:=by
 have hn:∀ {l:List α},l.Nodup->(∀x∈l,∀y∈l,f x=f y->x=y)->(l.map f).Nodup:=fun {l} h1 h3=>by
  induction l with
  | nil=>exact qzk
  | cons a l ih=>
    rw[qxZ,qzr]
    have h4:=qzr.1 h1
    refine⟨fun hm=>?_,ih h4.2 fun x hx y hy=>h3 x (by simp[hx]) y (by simp[hy])⟩
    obtain⟨y,hy,e⟩:=qxL.1 hm
    have:=h3 y (by simp[hy]) a (by simp) e
    subst this
    exact h4.1 hy
 have:=Rv n (l.map f) (hn h1 h3) fun x hx=>by
  obtain⟨y,hy,rfl⟩:=qxL.1 hx
  exact h2 y hy
 simpa using this
def YO(m:Nat)(s:St3):Nat:=((s.p.toNat*m+s.b0.toNat) *m+s.b1.toNat) *m+s.b2.toNat
end Go.Gv

namespace Go.Gv
open Go.Proofs
def qF:CC:=gq Tryz.f41 [4,3,3057036,1060060] { bx:=[41],cu:=[6],ke:=[36,990] } _
def qu:List aj:=[.tmp 6]
theorem Me:ak Tryz.prog yh [4,3,3057036,1060060] qF qu 64:=fo
def qe:CC:=gq Tryz.f19 [2,3] {} _
def pr:List aj:=[.tmp 4]
theorem FU:ak Tryz.prog iq [2,3] qe pr 22:=fo
def qd:CC:=gq Tryz.f15 [2,3] {} _
def pq:List aj:=[.tmp 4, .tmp 5]
theorem wJ:ak Tryz.prog ip [2,3] qd pq 33:=fo
def iP:CC:=gq Tryz.f48 [] {} _
def iF:List aj:=[.tmp 4]
theorem zi:ak Tryz.prog jC [] iP iF 36:=fo
end Go.Gv

namespace Go.Gv
open Go.Proofs
open Cod (enc dec)
variable {S S0:Nat->Spc}
theorem Iv(a b:Int)(x y:List Int):eX (a::x) (b::y)=if zw a b≠0 then zw a b else eX x y:=rfl
abbrev qbh:Spc:=aI (a2 (List Int) (List Int)) (fun _=>True) (enc (X:=Int)) fun x y=>y=eX x.1 x.2
theorem qiG(h1:S jd=mV):aq iP iF S (a2 (List Int) (List Int)) (fun _=>True) (enc (X:=Int)) fun x y=>y=eX x.1 x.2:=by
 rintro⟨l,m⟩ -
 simp[iP,iF, -Bool.forall_bool, -Bool.exists_bool]
 intro hl
 refine ai (X:=Unit) [0,1,9] [] l.length (fun k _=>eX l m=eX (l.drop k) (m.drop k)/\k<=m.length) (fun _=>[]) (fun _=>[]) () (by simp) (by simp) (by omega) (by simp) (by simp) (by simp) (by simp) (by simp) ?_ ?_
 ·intro k _ hk ⟨hP,hkm⟩
  obtain⟨x,hx⟩:∃x,l[k]? =some x:=⟨_,qxA hk⟩
  obtain⟨_,hgx⟩:=qxz.1 hx
  have hd:l.drop k=x::l.drop (k+1):=by rw[<-hgx];exact qyb hk
  by_cases hm:k < m.length
  ·obtain⟨y,hy⟩:∃y,m[k]? =some y:=⟨_,qxA hm⟩
   obtain⟨_,hgy⟩:=qxz.1 hy
   have hd2:m.drop k=y::m.drop (k+1):=by rw[<-hgy];exact qyb hm
   rw[hd,hd2,Iv]at hP
   have hm2:¬ (m.length:Int)<=k:=by omega
   have hm3:¬m.length<=k:=by omega
   simp[hk,hx,hgx,hy,hgy,hm,hm2,hm3,h1, -Bool.forall_bool, -Bool.exists_bool]
   refine fun hlm=>⟨fun h=>?_,fun h=>?_⟩
   ·rw[if_pos h]at hP;exact hP.symm
   ·rw[if_neg (by simp[h])]at hP;exact⟨hP,by omega⟩
  ·have hm2:(m.length:Int)<=k:=by omega
   have hm3:m.length<=k:=by omega
   have e:m.drop k=[]:=qyy hm3
   rw[hd,e]at hP
   simp[hk,hx,hgx,hm2,hm3, -Bool.forall_bool, -Bool.exists_bool]
   intro _
   rw[hP];rfl
 ·intro _ ⟨hP,hkm⟩
  rw[qyz]at hP
  simp[-Bool.forall_bool, -Bool.exists_bool]
  intro _ _
  constructor
  ·intro h
   cases hd:m.drop l.length with
   | nil=>have:=congrArg List.length hd;simp at this;omega
   | cons y r=>rw[hd]at hP;rw[hP];rfl
  ·intro h
   have e:m.drop l.length=[]:=qyy (by omega)
   rw[e]at hP;rw[hP];rfl
abbrev s_cmpM:Spc:=aI (a2 Match Match) (fun _=>True) (enc (X:=Int)) fun x y=>y=vT x.1 x.2
theorem qiF(h1:S jd=mV)(h2:S jC=qbh)(h3:S yj=D6):aq qe pr S (a2 Match Match) (fun _=>True) (enc (X:=Int)) fun x y=>y=vT x.1 x.2:=by
 rintro⟨a,b⟩ -
 simp[qe,pr,h1,h2,h3, -Bool.forall_bool, -Bool.exists_bool]
 rw[vT,Iv,Iv]
 generalize eX a.lbs b.lbs=z
 by_cases e1:zw a.b b.b=0
 ·by_cases e2:zw a.e b.e=0
  ·by_cases e3:z=0
   ·simp[e1,e2,e3]
   ·simp[e1,e2,List.find?,e3]
  ·simp[e1,List.find?,e2]
 ·simp[List.find?,e1]
def qmq(c:Corpus)(i:Int):Int:=fW c.texts fun t=>decide (t.b<=i) && decide (i < t.e)
abbrev MS:Spc:=aI (a2 Corpus Int) (fun _=>True) (enc (X:=Int)) fun x y=>y=qmq x.1 x.2
theorem X6:aq qj pz S (a2 Corpus Int) (fun _=>True) (enc (X:=Int)) fun x y=>y=qmq x.1 x.2:=by
 rintro⟨c,i⟩ -
 simp[qj,pz, -Bool.forall_bool, -Bool.exists_bool]
 intro hl
 refine ai (X:=Unit) [1,8] [] c.texts.length (fun k _=>∀t∈c.texts.take k,(decide (t.b<=i) && decide (i < t.e))=false) (fun _=>[]) (fun _=>[]) () (by simp) (by simp) (by omega) (by simp) (by simp) (by simp) (by simp) (by simp) ?_ ?_
 ·intro k _ hk hP
  obtain⟨x,hx⟩:∃x,c.texts[k]? =some x:=⟨_,qxA hk⟩
  obtain⟨_,hgx⟩:=qxz.1 hx
  have hno:(decide (x.b<=i) && decide (i < x.e))=false->∀t∈c.texts.take (k+1),(decide (t.b<=i) && decide (i < t.e))=false:=fun h t ht=>by
   rw[bc hx]at ht
   rcases qxE.1 ht with ht|ht
   ·exact hP t ht
   ·simp at ht;subst ht;exact h
  by_cases e1:x.b<=i
  ·by_cases e2:i < x.e
   ·simp[hk,hx,hgx,e1,e2, -Bool.forall_bool, -Bool.exists_bool]
    exact(uR hx (by simp[e1,e2]) hP).symm
   ·simp[hk,hx,hgx,e1,e2, -Bool.forall_bool, -Bool.exists_bool]
    have:=hno (by simp[e2])
    simpa using this
  ·simp[hk,hx,hgx,e1, -Bool.forall_bool, -Bool.exists_bool]
   have:=hno (by simp[e1])
   simpa using this
 ·intro _ hP
  simp[-Bool.forall_bool, -Bool.exists_bool]
  exact(mM (by simpa using hP)).symm
theorem qap{c:Corpus}{i:Int} :(qmq c i= -1/\LW c i=none)\/ ∃k t,qmq c i=(k:Nat)/\c.texts[k]? =some t/\LW c i=some t:=by
 unfold qmq LW
 generalize hp:(fun t:oW=>decide (t.b<=i) && decide (i < t.e))=p
 generalize c.texts=l
 rcases C1 p l with⟨h1,h2⟩|⟨k,x,h1,h2,h3,h4⟩
 ·refine .inl ⟨h1,qzM.2 fun x hx=>by simp[h2 x hx]⟩
 ·refine .inr ⟨k,x,h1,h2,?_⟩
  have e:l=l.take k++x::l.drop (k+1):=by
   obtain⟨hk,hg⟩:=qxz.1 h2
   rw[<-hg,<-qyb hk,qyc]
  rw[e,List.find?_append,qzM.2 fun x hx=>by simp[h4 x hx]]
  simp[h3]
end Go.Gv
