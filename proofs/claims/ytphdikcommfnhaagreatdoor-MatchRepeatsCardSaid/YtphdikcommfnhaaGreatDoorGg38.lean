/- A part of the framework and of the walks: V60 V61 V62 V63 C67 W186. -/
import Derived.Test.YtphdikcommfnhaaGreatDoorGg37
import Derived.Test.YtphdikcommfnhaaGreatDoorGg29
import Derived.Test.YtphdikcommfnhaaGreatDoorGg20
import Derived.Test.YtphdikcommfnhaaGreatDoorGg18
import Derived.Test.YtphdikcommfnhaaGreatDoorGg21
set_option linter.unusedSimpArgs false
set_option linter.unusedVariables false
set_option linter.unusedSectionVars false
set_option maxRecDepth 100000
set_option maxHeartbeats 0

namespace Go.Gv
open Go.Proofs
open Cod (enc dec)
structure St3 where
 p:Int
 b0:Int
 b1:Int
 b2:Int
deriving DecidableEq
instance:Cod St3 where
 wd:=4
 enc s:= .agg [enc s.p,enc s.b0,enc s.b1,enc s.b2]
 dec| .agg [x0,x1,x2,x3]=>(dec x0).bind fun x0=>(dec x1).bind fun x1=>(dec x2).bind fun x2=>(dec x3).bind fun x3=>some ⟨x0,x1,x2,x3⟩|_=>none
 kn _:=rfl
 wid _:=rfl
 dec_enc s:=by simp
 le d x h:=by
  split at h
  ·simp only[qtE]at h
   obtain⟨x0,h0,x1,h1,x2,h2,x3,h3,h⟩:=h
   cases h
   exact LeL.agg (.cons (Cod.le _ _ h0) (.cons (Cod.le _ _ h1) (.cons (Cod.le _ _ h2) (.cons (Cod.le _ _ h3) .nil))))
  ·cases h
@[simp] theorem qnc(s:St3):enc s= .agg [enc s.p,enc s.b0,enc s.b1,enc s.b2]:=id rfl
@[simp] theorem qnl(x0 x1 x2 x3:D):dec (X:=St3) (.agg [x0,x1,x2,x3])=((dec x0).bind fun x0=>(dec x1).bind fun x1=>(dec x2).bind fun x2=>(dec x3).bind fun x3=>some ⟨x0,x1,x2,x3⟩):=id rfl
theorem Tz:WO St3 true [.int .i64, .int .i64, .int .i64, .int .i64]:=⟨fun _=>rfl,fun _=>rfl⟩
structure Rn where
 c:Corpus
 lb:List B
 bg:Int
 en:Int
def St3.get(s:St3)(i:Nat):Int:=match i with|0=>s.b0|1=>s.b1|_=>s.b2
def St3.set(s:St3)(i:Nat)(x:Int):St3:=match i with|0=>⟨s.p,x,s.b1,s.b2⟩|1=>⟨s.p,s.b0,x,s.b2⟩|_=>⟨s.p,s.b0,s.b1,x⟩
def Nl(r:Rn)(s:St3):List Int:=(List.range r.lb.length).map fun i=>s.get i -1
def Ed(r:Rn)(p:Pat)(s:St3):St3:=
 let s1:St3:=if p.lab=qz then s else s.set (fS r.lb fun z=>decide (z=p.lab)).toNat (s.p+1)
 ⟨s1.p+1,s1.b0,s1.b1,s1.b2⟩
def zV(r:Rn)(p:Pat)(s:St3):Option Bool:=wi ⟨r.c,s.p,r.lb,Nl r s⟩ 21 p.cond
def Sp(r:Rn)(p:Pat)(at_:Int):Bool:=r.c.regs.any fun x=>decide (x.ty=p.reg) && decide ((if p.op=3 then x.e else x.b)=at_) && decide (r.bg<=x.b) && decide (x.e<=r.en)
section
variable {α:Type}
def Pow(R:α->α->Prop):Nat->α->α->Prop
 | 0=>fun s t=>s=t
 | n+1=>fun s t=>∃u,R s u/\Pow R n u t
def Star(R:α->α->Prop)(s t:α):Prop:=∃n,Pow R n s t
theorem Pow.add{R:α->α->Prop} :∀ {m n:Nat} {s t u:α},Pow R m s t->Pow R n t u->Pow R (m+n) s u
 | 0,n,s,t,u,h,k=>by cases h;rwa [quu]
 | m+1,n,s,t,u,⟨v,h1,h2⟩,k=>by
   rw[Nat.succ_add]
   exact⟨v,h1,h2.add k⟩
theorem Star.refl(R:α->α->Prop)(s:α):Star R s s:=⟨0,rfl⟩
theorem Star.one{R:α->α->Prop}{s t:α}(h:R s t):Star R s t:=⟨1,t,h,rfl⟩
theorem Star.trans{R:α->α->Prop}{s t u:α}(h:Star R s t)(k:Star R t u):Star R s u:=by
 obtain⟨m,h⟩:=h
 obtain⟨n,k⟩:=k
 exact⟨m+n,h.add k⟩
theorem Star.mono{R Q:α->α->Prop}(hR:∀s t,R s t->Star Q s t){s t:α}(h:Star R s t):Star Q s t:=by
 obtain⟨n,h⟩:=h
 induction n generalizing s with
 | zero=>cases h;exact .refl _ _
 | succ n ih=>
   obtain⟨u,h1,h2⟩:=h
   exact(hR _ _ h1).trans (ih h2)
theorem Pow.mono{R Q:α->α->Prop}(hR:∀s t,R s t->Q s t):∀ {n:Nat} {s t:α},Pow R n s t->Pow Q n s t
 | 0,_,_,h=>h
 | n+1,_,_,⟨u,h1,h2⟩=>⟨u,hR _ _ h1,h2.mono hR⟩
end
def BI(R:St3->St3->Prop)(s t:St3):Prop:=R s t/\s.p < t.p
def wS(R:St3->St3->Prop)(mn mx:Int)(s t:St3):Prop:=∃u,Pow R mn.toNat s u/\∃n:Nat,(mx < 0\/mn+n<=mx)/\Pow (BI R) n u t
def xm(R:St3->St3->Prop):Prop:=∀s t,R s t->s=t\/s.p < t.p
theorem Pa{R:St3->St3->Prop}(hR:xm R){s t:St3} :Star (BI R) s t↔Star R s t:=by
 constructor
 ·exact Star.mono fun s t h=> .one h.1
 ·exact Star.mono fun s t h=>by
   rcases hR s t h with rfl|h2
   ·exact .refl _ _
   ·exact .one ⟨h,h2⟩
theorem nN{R:St3->St3->Prop}(hR:xm R){mn:Int}{s t:St3} :wS R mn (-1) s t↔ ∃u,Pow R mn.toNat s u/\Star R u t:=by
 constructor
 ·rintro⟨u,h1,n,_,h2⟩
  exact⟨u,h1,(Pa hR).1 ⟨n,h2⟩⟩
 ·rintro⟨u,h1,h2⟩
  obtain⟨n,h2⟩:=(Pa hR).2 h2
  exact⟨u,h1,n, .inl (by decide),h2⟩
theorem Ph{R:St3->St3->Prop}(hR:xm R)(n:Nat):xm (Pow R n):=by
 induction n with
 | zero=>intro s t h;exact .inl h
 | succ n ih=>
   rintro s t ⟨u,h1,h2⟩
   rcases hR _ _ h1 with rfl|h1
   ·exact ih _ _ h2
   ·rcases ih _ _ h2 with rfl|h2
    ·exact .inr h1
    ·exact .inr (by omega)
theorem Pg{R:St3->St3->Prop}(hR:xm R)(mn mx:Int):xm (wS R mn mx):=by
 rintro s t ⟨u,h1,n,_,h2⟩
 have g2:xm (Pow (BI R) n):=Ph (fun s t h=>hR s t h.1) n
 rcases Ph hR _ _ _ h1 with rfl|h1
 ·exact g2 _ _ h2
 ·rcases g2 _ _ h2 with rfl|h2
  ·exact .inr h1
  ·exact .inr (by omega)
theorem qcg{R:St3->St3->Prop}(hR:xm R){m1 m2:Int}(h1:0<=m1/\m1<=1)(h2:0<=m2/\m2<=1)(s t:St3):wS (wS R m2 (-1)) m1 (-1) s t↔wS R (m1*m2) (-1) s t:=by
 have hR2:=Pg hR m2 (-1)
 rw[nN hR2,nN hR]
 have sub:∀s t,wS R m2 (-1) s t->Star R s t:=fun s t h=>by
  obtain⟨u,h3,h4⟩:=(nN hR).1 h
  exact Star.trans ⟨_,h3⟩ h4
 have sup:∀s t,R s t->wS R m2 (-1) s t:=fun s t h=>by
  rw[nN hR]
  have:m2=0\/m2=1:=by omega
  rcases this with rfl|rfl
  ·exact⟨s,rfl, .one h⟩
  ·exact⟨t,⟨t,h,rfl⟩, .refl _ _⟩
 have eqS:∀s t,Star (wS R m2 (-1)) s t↔Star R s t:=fun s t=>⟨Star.mono sub,Star.mono fun s t h=> .one (sup s t h)⟩
 have c1:m1=0\/m1=1:=by omega
 rcases c1 with rfl|rfl
 ·rw[Int.zero_mul]
  constructor
  ·rintro⟨u,h3,h4⟩
   cases h3
   exact⟨_,rfl,(eqS _ _).1 h4⟩
  ·rintro⟨u,h3,h4⟩
   cases h3
   exact⟨_,rfl,(eqS _ _).2 h4⟩
 ·rw[Int.one_mul]
  constructor
  ·rintro⟨u,⟨v,h3,h5⟩,h4⟩
   cases h5
   obtain⟨u2,h6,h7⟩:=(nN hR).1 h3
   exact⟨u2,h6,h7.trans ((eqS _ _).1 h4)⟩
  ·rintro⟨u,h3,h4⟩
   exact⟨t,⟨t,(nN hR).2 ⟨u,h3,h4⟩,rfl⟩, .refl _ _⟩
mutual
def jW(r:Rn):Pat->St3->St3->Prop
 | .mk op cond lab reg mn mx ks=>fun s t=>
   if op=1 then s.p < r.en/\zV r (.mk op cond lab reg mn mx ks) s=some true/\t=Ed r (.mk op cond lab reg mn mx ks) s
   else if op=2\/op=3 then Sp r (.mk op cond lab reg mn mx ks) s.p=true/\t=s
   else if op=4 then uB r ks s t
   else if op=5 then uC r ks s t
   else Dt r ks mn mx s t
def uB(r:Rn):List Pat->St3->St3->Prop
 | []=>fun s t=>s=t
 | k::ks=>fun s t=>∃u,jW r k s u/\uB r ks u t
def uC(r:Rn):List Pat->St3->St3->Prop
 | []=>fun _ _=>False
 | k::ks=>fun s t=>jW r k s t\/uC r ks s t
def Dt(r:Rn):List Pat->Int->Int->St3->St3->Prop
 | []=>fun _ _ _ _=>False
 | k::_=>fun mn mx s t=>wS (jW r k) mn mx s t
end
mutual
theorem yJ(r:Rn):∀p:Pat,xm (jW r p)
 | .mk op cond lab reg mn mx ks=>by
   intro s t h
   rw[jW]at h
   split at h
   ·obtain⟨_,_,rfl⟩:=h
    right
    unfold Ed
    dsimp only
    split
    ·show s.p < s.p+1;omega
    ·generalize (fS r.lb fun z=>decide (z=lab)).toNat=i
     rcases i with _|_|i
     ·show s.p < s.p+1;omega
     ·show s.p < s.p+1;omega
     ·show s.p < s.p+1;omega
   ·split at h
    ·exact .inl h.2.symm
    ·split at h
     ·exact El r ks s t h
     ·split at h
      ·exact KZ r ks s t h
      ·exact Wi r ks mn mx s t h
theorem El(r:Rn):∀ks:List Pat,xm (uB r ks)
 | []=>fun s t h=>by rw[uB]at h;exact .inl h
 | k::ks=>fun s t h=>by
   rw[uB]at h
   obtain⟨u,h1,h2⟩:=h
   rcases yJ r k s u h1 with rfl|h1
   ·exact El r ks _ _ h2
   ·rcases El r ks u t h2 with rfl|h2
    ·exact .inr h1
    ·exact .inr (by omega)
theorem KZ(r:Rn):∀ks:List Pat,xm (uC r ks)
 | []=>fun s t h=>by rw[uC]at h;exact h.elim
 | k::ks=>fun s t h=>by
   rw[uC]at h
   rcases h with h|h
   ·exact yJ r k s t h
   ·exact KZ r ks s t h
theorem Wi(r:Rn):∀ (ks:List Pat) (mn mx:Int),xm (Dt r ks mn mx)
 | [],_,_=>fun s t h=>by rw[Dt]at h;exact h.elim
 | k::_,mn,mx=>fun s t h=>by
   rw[Dt]at h
   exact Pg (yJ r k) mn mx s t h
end
end Go.Gv

namespace Go.Gv
open Go.Proofs
def QB(m:Int)(s:St3):Prop:=0<=s.p/\s.p<=m/\∀i,0<=s.get i/\s.get i<=m
def qbh(m:Int)(R:St3->St3->Prop):Prop:=∀s t,R s t->QB m s->QB m t
theorem we{m:Int}{R:St3->St3->Prop}(h:qbh m R):∀n:Nat,qbh m (Pow R n)
 | 0,s,t,e,hs=>by cases e;exact hs
 | n+1,s,t,⟨u,h1,h2⟩,hs=>we h n _ _ h2 (h _ _ h1 hs)
theorem qgg{m:Int}{R:St3->St3->Prop}(h:qbh m R)(mn mx:Int):qbh m (wS R mn mx):=by
 rintro s t ⟨u,h1,n,_,h2⟩ hs
 exact we (R:=BI R) (fun s t q=>h s t q.1) n _ _ h2 (we h _ _ _ h1 hs)
theorem qen(r:Rn)(p:Pat)(s:St3):(Ed r p s).p=s.p+1:=by
 unfold Ed
 dsimp only
 split
 ·rfl
 ·generalize (fS r.lb fun z=>decide (z=p.lab)).toNat=i
  rcases i with _|_|i <;> rfl
theorem qct(r:Rn)(p:Pat)(s:St3)(i:Nat):(Ed r p s).get i=s.get i\/(Ed r p s).get i=s.p+1:=by
 unfold Ed
 dsimp only
 split
 ·rcases i with _|_|i <;> exact .inl rfl
 ·generalize (fS r.lb fun z=>decide (z=p.lab)).toNat=j
  rcases j with _|_|j <;> rcases i with _|_|i <;> first|exact .inl rfl|exact .inr rfl
mutual
theorem rJ(r:Rn):∀p:Pat,qbh r.en (jW r p)
 | .mk op cond lab reg mn mx ks=>by
   intro s t h hs
   rw[jW]at h
   split at h
   ·obtain⟨h1,_,rfl⟩:=h
    obtain⟨a,b,c⟩:=hs
    refine⟨by rw[qen];omega,by rw[qen];omega,fun i=>?_⟩
    rcases qct r (.mk op cond lab reg mn mx ks) s i with e|e
    ·rw[e];exact c i
    ·rw[e];omega
   ·split at h
    ·rw[h.2];exact hs
    ·split at h
     ·exact MI r ks s t h hs
     ·split at h
      ·exact Tx r ks s t h hs
      ·exact qcN r ks mn mx s t h hs
theorem MI(r:Rn):∀ks:List Pat,qbh r.en (uB r ks)
 | []=>fun s t h hs=>by rw[uB]at h;rw[<-h];exact hs
 | k::ks=>fun s t h hs=>by
   rw[uB]at h
   obtain⟨u,h1,h2⟩:=h
   exact MI r ks u t h2 (rJ r k s u h1 hs)
theorem Tx(r:Rn):∀ks:List Pat,qbh r.en (uC r ks)
 | []=>fun s t h=>by rw[uC]at h;exact h.elim
 | k::ks=>fun s t h hs=>by
   rw[uC]at h
   rcases h with h|h
   ·exact rJ r k s t h hs
   ·exact Tx r ks s t h hs
theorem qcN(r:Rn):∀ (ks:List Pat) (mn mx:Int),qbh r.en (Dt r ks mn mx)
 | [],_,_=>fun s t h=>by rw[Dt]at h;exact h.elim
 | k::_,mn,mx=>fun s t h hs=>by
   rw[Dt]at h
   exact qgg (rJ r k) mn mx s t h hs
end
theorem Bn{R:St3->St3->Prop} :∀ {n:Nat} {s t:St3},Pow (BI R) n s t->s.p+n<=t.p
 | 0,s,t,h=>by cases h;omega
 | n+1,s,t,⟨u,h1,h2⟩=>by
   have:=Bn h2
   have:=h1.2
   omega
def Av(m:Int)(f:St3->List St3)(R:St3->St3->Prop):Prop:=∀s,QB m s->∀t,t∈f s↔R s t
def Vl(f:St3->List St3):Nat->St3->List St3
 | 0,s=>[s]
 | n+1,s=>(f s).flatMap (Vl f n)
theorem qQ{m:Int}{f:St3->List St3}{R:St3->St3->Prop}(h:Av m f R)(k:qbh m R):∀n:Nat,Av m (Vl f n) (Pow R n)
 | 0,s,hs,t=>by simp[Vl,Pow,eq_comm]
 | n+1,s,hs,t=>by
   simp only[Vl,quM,Pow]
   constructor
   ·rintro⟨u,h1,h2⟩
    have h1:=(h s hs u).1 h1
    exact⟨u,h1,(qQ h k n u (k _ _ h1 hs) t).1 h2⟩
   ·rintro⟨u,h1,h2⟩
    exact⟨u,(h s hs u).2 h1,(qQ h k n u (k _ _ h1 hs) t).2 h2⟩
def qgr(f:St3->List St3)(s:St3):List St3:=(f s).filter fun t=>decide (s.p < t.p)
theorem Ke{m:Int}{f:St3->List St3}{R:St3->St3->Prop}(h:Av m f R):Av m (qgr f) (BI R):=fun s hs t=>by
 unfold qgr BI
 rw[qva,h s hs t,decide_eq_true_iff]
def qfL(N:Nat)(f:St3->List St3)(mn mx:Int)(s:St3):List St3:=
 (Vl f mn.toNat s).flatMap fun u=>(List.range ((if mx < 0 then N else(mx -mn).toNat) +1)).flatMap fun n=>Vl (qgr f) n u
theorem U2{N:Nat}{f:St3->List St3}{R:St3->St3->Prop}(h:Av N f R)(k:qbh N R)(mn mx:Int)(hm:0<=mx->mn<=mx):Av N (qfL N f mn mx) (wS R mn mx):=fun s hs t=>by
 unfold qfL wS
 simp only[quM,qve]
 have ki:qbh N (BI R):=fun s t q=>k s t q.1
 constructor
 ·rintro⟨u,h1,n,h2,h3⟩
  have h1:=(qQ h k _ s hs u).1 h1
  have hu:=we k _ _ _ h1 hs
  refine⟨u,h1,n,?_,(qQ (Ke h) ki n u hu t).1 h3⟩
  by_cases hx:mx < 0
  ·exact .inl hx
  ·rw[if_neg hx]at h2
   have:=hm (by omega)
   exact .inr (by omega)
 ·rintro⟨u,h1,n,h2,h3⟩
  have hu:=we k _ _ _ h1 hs
  refine⟨u,(qQ h k _ s hs u).2 h1,n,?_,(qQ (Ke h) ki n u hu t).2 h3⟩
  by_cases hx:mx < 0
  ·rw[if_pos hx]
   have:=Bn h3
   have:=(we ki _ _ _ h3 hu).2.1
   have:=hu.1
   omega
  ·rw[if_neg hx]
   rcases h2 with h2|h2
   ·exact absurd h2 hx
   ·omega
mutual
def PO(r:Rn):Pat->St3->List St3
 | .mk op cond lab reg mn mx ks=>fun s=>
   if op=1 then(if decide (s.p < r.en) && (zV r (.mk op cond lab reg mn mx ks) s==some true)then[Ed r (.mk op cond lab reg mn mx ks) s]else[])
   else if op=2\/op=3 then(if Sp r (.mk op cond lab reg mn mx ks) s.p then[s]else[])
   else if op=4 then PM r ks s
   else if op=5 then PN r ks s
   else TU r ks mn mx s
def PM(r:Rn):List Pat->St3->List St3
 | []=>fun s=>[s]
 | k::ks=>fun s=>(PO r k s).flatMap (PM r ks)
def PN(r:Rn):List Pat->St3->List St3
 | []=>fun _=>[]
 | k::ks=>fun s=>PO r k s++PN r ks s
def TU(r:Rn):List Pat->Int->Int->St3->List St3
 | []=>fun _ _ _=>[]
 | k::_=>fun mn mx s=>qfL r.en.toNat (PO r k) mn mx s
end
mutual
def gO:Pat->List Pat
 | .mk op cond lab reg mn mx ks=> .mk op cond lab reg mn mx ks::vX ks
def vX:List Pat->List Pat
 | []=>[]
 | k::ks=>gO k++vX ks
end
def jv(C:Pat->Prop)(p:Pat):Prop:=∀q∈gO p,C q
theorem yB:∀ {ks:List Pat} {k q:Pat},k∈ks->q∈gO k->q∈vX ks
 | a::ks,k,q,h,hq=>by
   rw[vX,qtK]
   rcases qtM.1 h with rfl|h
   ·exact .inl hq
   ·exact .inr (yB h hq)
theorem sZ:∀ {ks:List Pat} {q:Pat},q∈vX ks->∃k∈ks,q∈gO k
 | [],q,h=>by rw[vX]at h;cases h
 | a::ks,q,h=>by
   rw[vX,qtK]at h
   rcases h with h|h
   ·exact⟨a,by simp,h⟩
   ·obtain⟨k,h1,h2⟩:=sZ h
    exact⟨k,by simp[h1],h2⟩
theorem E9(p:Pat):p∈gO p:=by cases p;rw[gO];simp
theorem jl{C:Pat->Prop}{p:Pat}(h:jv C p):C p:=h p (E9 p)
theorem pr{C:Pat->Prop}{p k:Pat}(h:jv C p)(hk:k∈p.kids):jv C k:=fun q hq=>h q (by cases p;rw[gO];exact qvs _ (yB hk hq))
theorem qcl{C:Pat->Prop}{p:Pat}(h:C p)(hk:∀k∈p.kids,jv C k):jv C p:=fun q hq=>by
 cases p
 rw[gO]at hq
 rcases qtM.1 hq with rfl|hq
 ·exact h
 ·obtain⟨k,h1,h2⟩:=sZ hq
  exact hk k h1 q h2
theorem qT{C D:Pat->Prop}{p:Pat}(h:jv C p)(hCD:∀q,C q->D q):jv D p:=fun q hq=>hCD q (h q hq)
def qbg(q:Pat):Prop:=q.op=1\/q.op=2\/q.op=3\/q.op=4\/q.op=5\/(0<=q.mx->q.mn<=q.mx)
mutual
theorem zG(r:Rn)(hr:0<=r.en):∀p:Pat,jv qbg p->Av r.en (PO r p) (jW r p)
 | .mk op cond lab reg mn mx ks,h=>by
   have hs:=jl h
   have hk:∀k∈ks,jv qbg k:=fun k hk=>pr h hk
   intro s h1 t
   rw[PO,jW]
   dsimp only
   by_cases e1:op=1
   ·rw[if_pos e1,if_pos e1]
    generalize zV r (.mk op cond lab reg mn mx ks) s=q
    by_cases e2:s.p < r.en
    ·by_cases e3:q=some true
     ·simp[e2,e3]
     ·simp[e2,e3]
    ·simp[e2]
   rw[if_neg e1,if_neg e1]
   by_cases e2:op=2\/op=3
   ·rw[if_pos e2,if_pos e2]
    cases Sp r (.mk op cond lab reg mn mx ks) s.p <;> simp
   rw[if_neg e2,if_neg e2]
   by_cases e4:op=4
   ·rw[if_pos e4,if_pos e4];exact GP r hr ks hk s h1 t
   rw[if_neg e4,if_neg e4]
   by_cases e5:op=5
   ·rw[if_pos e5,if_pos e5];exact GQ r hr ks hk s h1 t
   rw[if_neg e5,if_neg e5]
   refine Q5 r hr ks mn mx hk ?_ s h1 t
   rcases hs with h|h|h|h|h|h
   ·exact absurd h e1
   ·exact absurd (.inl h) e2
   ·exact absurd (.inr h) e2
   ·exact absurd h e4
   ·exact absurd h e5
   ·exact h
theorem GP(r:Rn)(hr:0<=r.en):∀ks:List Pat,(∀k∈ks,jv qbg k)->Av r.en (PM r ks) (uB r ks)
 | [],_=>fun s h t=>by rw[PM,uB];simp[eq_comm]
 | k::ks,h=>fun s hs t=>by
   have i1:=zG r hr k (h k (by simp))
   have i2:=GP r hr ks fun q hq=>h q (by simp[hq])
   rw[PM,uB]
   dsimp only
   rw[quM]
   constructor
   ·rintro⟨u,h1,h2⟩
    have h1:=(i1 s hs u).1 h1
    exact⟨u,h1,(i2 u (rJ r k _ _ h1 hs) t).1 h2⟩
   ·rintro⟨u,h1,h2⟩
    exact⟨u,(i1 s hs u).2 h1,(i2 u (rJ r k _ _ h1 hs) t).2 h2⟩
theorem GQ(r:Rn)(hr:0<=r.en):∀ks:List Pat,(∀k∈ks,jv qbg k)->Av r.en (PN r ks) (uC r ks)
 | [],_=>fun s h t=>by rw[PN,uC];simp
 | k::ks,h=>fun s hs t=>by
   have i1:=zG r hr k (h k (by simp))
   have i2:=GQ r hr ks fun q hq=>h q (by simp[hq])
   rw[PN,uC]
   dsimp only
   rw[qtK,i1 s hs t,i2 s hs t]
theorem Q5(r:Rn)(hr:0<=r.en):∀ (ks:List Pat) (mn mx:Int),(∀k∈ks,jv qbg k)->(0<=mx->mn<=mx)->Av r.en (TU r ks mn mx) (Dt r ks mn mx)
 | [],_,_,_,_=>fun s h t=>by rw[TU,Dt];simp
 | k::ks,mn,mx,h,hm=>fun s hs t=>by
   have i1:=zG r hr k (h k (by simp))
   rw[TU,Dt]
   have e:((r.en.toNat:Nat):Int)=r.en:=by omega
   refine U2 (N:=r.en.toNat) (f:=PO r k) (R:=jW r k) (by rw[e];exact i1) (by rw[e];exact rJ r k) mn mx hm s (by rw[e];exact hs) t
end
end Go.Gv

namespace Go.Gv
def eD:List Int->List Int->Int
 | [], []=>0
 | [],_::_=> -1
 | _::_, []=>1
 | a::x,b::y=>if xH a b≠0 then xH a b else eD x y
def wz(a b:Match):Int:=eD (a.b::a.e::a.lbs) (b.b::b.e::b.lbs)
theorem fY(a b:Int):(a < b/\xH a b= -1)\/(a=b/\xH a b=0)\/(b < a/\xH a b=1):=by
 unfold xH
 by_cases h:a < b
 ·exact .inl ⟨h,if_pos h⟩
 ·by_cases h2:b < a
  ·exact .inr (.inr ⟨h2,by rw[if_neg h,if_pos h2]⟩)
  ·exact .inr (.inl ⟨by omega,by rw[if_neg h,if_neg h2]⟩)
theorem qao(a b:Int):xH b a= -xH a b:=by
 rcases fY a b with⟨h,e⟩|⟨h,e⟩|⟨h,e⟩ <;> rcases fY b a with⟨h',e'⟩|⟨h',e'⟩|⟨h',e'⟩ <;> first|(rw[e,e'];done)|(rw[e,e'];rfl)|omega
theorem Lf{a b:Int} :xH a b=0↔a=b:=by
 rcases fY a b with⟨h,e⟩|⟨h,e⟩|⟨h,e⟩ <;> rw[e] <;> constructor <;> intro h' <;> omega
theorem P2:∀x y:List Int,eD y x= -eD x y
 | [], []=>rfl
 | [],_::_=>rfl
 | _::_, []=>rfl
 | a::x,b::y=>by
   unfold eD
   have h:=qao a b
   by_cases e:xH a b=0
   ·rw[if_neg (by rw[h,e];simp),if_neg (by simp[e])]
    exact P2 x y
   ·rw[if_pos (by rw[h];omega),if_pos e,h]
theorem Ey:∀ {x y:List Int},eD x y=0↔x=y
 | [], []=>by simp[eD]
 | [],_::_=>by simp[eD]
 | _::_, []=>by simp[eD]
 | a::x,b::y=>by
   unfold eD
   by_cases e:xH a b=0
   ·rw[if_neg (by simp[e]),Ey,Lf.1 e]
    simp
   ·rw[if_pos e]
    constructor
    ·intro h;exact absurd h e
    ·intro h;injection h with h;exact absurd (Lf.2 h) e
theorem Se(x y:List Int):eD x y= -1\/eD x y=0\/eD x y=1:=by
 induction x generalizing y with
 | nil=>cases y <;> simp[eD]
 | cons a x ih=>
   cases y with
   | nil=>simp[eD]
   | cons b y=>
     unfold eD
     split
     ·rcases fY a b with⟨_,e⟩|⟨_,e⟩|⟨_,e⟩ <;> rw[e] <;> simp
     ·exact ih y
theorem IE:∀ {x y z:List Int},eD x y < 0->eD y z < 0->eD x z < 0
 | [], [],_,h,_=>by simp[eD]at h
 | [],_::_, [],_,h=>by simp[eD]at h
 | [],_::_,_::_,_,_=>by simp[eD]
 | _::_, [],_,h,_=>by simp[eD]at h
 | _::_,_::_, [],_,h=>by simp[eD]at h
 | a::x,b::y,c::z,h1,h2=>by
   unfold eD at h1 h2 ⊢
   rcases fY a b with⟨q1,e1⟩|⟨q1,e1⟩|⟨q1,e1⟩ <;> rcases fY b c with⟨q2,e2⟩|⟨q2,e2⟩|⟨q2,e2⟩ <;> rcases fY a c with⟨q3,e3⟩|⟨q3,e3⟩|⟨q3,e3⟩ <;> simp only[e1,e2,e3]at h1 h2 ⊢ <;> first|omega|(exact IE (by simpa using h1) (by simpa using h2))|(simp at h1;done)|(simp at h2;done)|skip
def OZ(a b:Match):Prop:=wz a b < 0
theorem qV{a b c:Match}(h1:OZ a b)(h2:OZ b c):OZ a c:=IE h1 h2
theorem zM(a:Match):¬OZ a a:=fun h=>by
 have:wz a a=0:=Ey.2 rfl
 unfold OZ at h
 omega
theorem Ew{a b:Match} :wz a b=0↔a=b:=by
 unfold wz
 rw[Ey]
 obtain⟨a1,a2,a3⟩:=a
 obtain⟨b1,b2,b3⟩:=b
 simp
theorem qan(a b:Match):wz b a= -wz a b:=P2 _ _
theorem C0{a b:Match}(h:¬OZ a b):a=b\/OZ b a:=by
 rcases Se (a.b::a.e::a.lbs) (b.b::b.e::b.lbs)with e|e|e
 ·exact absurd (show wz a b < 0 by unfold wz;omega) h
 ·exact .inl (Ew.1 e)
 ·right
  unfold OZ
  rw[qan a b]
  show -eD _ _ < 0
  omega
def tv(l:List Match):Prop:=l.Pairwise OZ
theorem zH:∀ {l l':List Match},tv l->tv l'->(∀x,x∈l↔x∈l')->l=l'
 | [], [],_,_,_=>rfl
 | [],b::l',_,_,h=>by have:=(h b).2 (by simp);cases this
 | a::l, [],_,_,h=>by have:=(h a).1 (by simp);cases this
 | a::l,b::l',h1,h2,h=>by
   have h1':=qvB.1 h1
   have h2':=qvB.1 h2
   have e:a=b:=by
    rcases qtM.1 ((h a).1 (by simp))with e|m
    ·exact e
    ·rcases qtM.1 ((h b).2 (by simp))with e|m'
     ·exact e.symm
     ·exact absurd (qV (h1'.1 b m') (h2'.1 a m)) (zM a)
   subst e
   rw[zH h1'.2 h2'.2 fun x=>?_]
   constructor
   ·intro m
    rcases qtM.1 ((h x).1 (by simp[m]))with e|m'
    ·subst e;exact absurd (h1'.1 _ m) (zM _)
    ·exact m'
   ·intro m
    rcases qtM.1 ((h x).2 (by simp[m]))with e|m'
    ·subst e;exact absurd (h2'.1 _ m) (zM _)
    ·exact m'
end Go.Gv

namespace Go.Gv
open Go.Proofs
def UZ(c:Corpus)(i:Int):Option sH:=c.texts.find? fun t=>decide (t.b<=i) && decide (i < t.e)
def Hm(c:Corpus)(lb:List B)(t:sH):Rn:=⟨c,lb,t.b,min t.e c.toks.length⟩
def LX(i:Int):St3:=⟨i,0,0,0⟩
def Sy(c:Corpus)(lb:List B)(p:Pat)(m:Match):Prop:=0<=m.b/\m.b < c.toks.length/\∃t,UZ c m.b=some t/\∃s,jW (Hm c lb t) p (LX m.b) s/\m.b < s.p/\m.e=s.p/\m.lbs=Nl (Hm c lb t) s
def qbi(c:Corpus)(lb:List B)(p:Pat)(i:Int)(l:List Match):Prop:=tv l/\∀m,m∈l↔m.b=i/\Sy c lb p m
def J7(c:Corpus)(lb:List B)(p:Pat)(l:List Match):Prop:=tv l/\∀m,m∈l↔Sy c lb p m
theorem qcV{c:Corpus}{lb:List B}{p:Pat}{l l':List Match}(h:J7 c lb p l)(h':J7 c lb p l'):l=l':=zH h.1 h'.1 fun x=>(h.2 x).trans (h'.2 x).symm
theorem qjw{a b:Match}(h:a.b < b.b):OZ a b:=by
 unfold OZ wz eD
 rcases fY a.b b.b with⟨_,e⟩|⟨h2,_⟩|⟨h2,_⟩
 ·rw[e];simp
 ·omega
 ·omega
def QC(c:Corpus)(lb:List B)(p:Pat)(k:Int)(l:List Match):Prop:=tv l/\∀m,m∈l↔m.b < k/\Sy c lb p m
theorem KU(c:Corpus)(lb:List B)(p:Pat):QC c lb p 0 []:=⟨List.Pairwise.nil,fun m=>⟨fun h=>(by cases h),fun h=>(by have:=h.2.1;omega)⟩⟩
theorem KV{c:Corpus}{lb:List B}{p:Pat}{k:Int}{l l':List Match}(h:QC c lb p k l)(h':qbi c lb p k l'):QC c lb p (k+1) (l++l'):=by
 refine⟨qvc.2 ⟨h.1,h'.1,fun a ha b hb=>qjw ?_⟩,fun m=>?_⟩
 ·have:=((h.2 a).1 ha).1
  have:=((h'.2 b).1 hb).1
  omega
 ·rw[qtK,h.2,h'.2]
  constructor
  ·rintro(⟨h1,h2⟩|⟨h1,h2⟩)
   ·exact⟨by omega,h2⟩
   ·exact⟨by omega,h2⟩
  ·rintro⟨h1,h2⟩
   by_cases e:m.b=k
   ·exact .inr ⟨e,h2⟩
   ·exact .inl ⟨by omega,h2⟩
theorem O9{c:Corpus}{lb:List B}{p:Pat}{l:List Match}(h:QC c lb p c.toks.length l):J7 c lb p l:=⟨h.1,fun m=>(h.2 m).trans ⟨fun h=>h.2,fun h=>⟨h.2.1,h⟩⟩⟩
theorem Ul(r:Rn)(s:St3):(Nl r s).length=r.lb.length:=by simp[Nl]
theorem OS:∀ (n:Nat) (l:List Nat),l.Nodup->(∀x∈l,x < n)->l.length<=n
 | 0, [],_,_=>qtP _
 | 0,x::l,_,h=>absurd (h x (by simp)) (Nat.not_lt_zero _)
 | n+1,l,hn,h=>by
   have ih:=OS n (l.erase n) (hn.erase n) fun x hx=>by
    have h1:=(List.Nodup.mem_erase_iff hn).1 hx
    have:=h x h1.2
    omega
   have h2:l.length<=(l.erase n).length+1:=by
    rw[List.length_erase]
    split <;> omega
   omega
theorem KH{α:Type}{l:List α}{f:α->Nat}{n:Nat}(h1:l.Nodup)(h2:∀x∈l,f x < n)(h3:∀x∈l,∀y∈l,f x=f y->x=y):l.length<=n:=by
 have hn:∀ {l:List α},l.Nodup->(∀x∈l,∀y∈l,f x=f y->x=y)->(l.map f).Nodup:=fun {l} h1 h3=>by
  induction l with
  | nil=>exact qvp
  | cons a l ih=>
    rw[qt7,qvx]
    have h4:=qvx.1 h1
    refine⟨fun hm=>?_,ih h4.2 fun x hx y hy=>h3 x (by simp[hx]) y (by simp[hy])⟩
    obtain⟨y,hy,e⟩:=qtU.1 hm
    have:=h3 y (by simp[hy]) a (by simp) e
    subst this
    exact h4.1 hy
 have:=OS n (l.map f) (hn h1 h3) fun x hx=>by
  obtain⟨y,hy,rfl⟩:=qtU.1 hx
  exact h2 y hy
 simpa using this
def Vy(m:Nat)(s:St3):Nat:=((s.p.toNat*m+s.b0.toNat) *m+s.b1.toNat) *m+s.b2.toNat
end Go.Gv

namespace Go.Gv
open Go.Proofs
def pf:CC:=gq Tryz.f41 [4,3,3057036,1060060] { bx:=[41],cu:=[6],ke:=[36,990] } _
def oP:List aj:=[.tmp 6]
theorem JN:am Tryz.prog qK [4,3,3057036,1060060] pf oP 64:=fo
def om:CC:=gq Tryz.f19 [2,3] {} _
def nH:List aj:=[.tmp 4]
theorem D5:am Tryz.prog kC [2,3] om nH 22:=fo
def ed:CC:=gq Tryz.f15 [2,3] {} _
def dZ:List aj:=[.tmp 4, .tmp 5]
theorem uQ:am Tryz.prog gz [2,3] ed dZ 33:=fo
def gU:CC:=gq Tryz.f48 [] {} _
def gH:List aj:=[.tmp 4]
theorem xr:am Tryz.prog iM [] gU gH 36:=fo
end Go.Gv

namespace Go.Gv
open Go.Proofs
open Cod (enc dec)
variable {S S0:Nat->Spc}
theorem Gj(a b:Int)(x y:List Int):eD (a::x) (b::y)=if xH a b≠0 then xH a b else eD x y:=rfl
abbrev Yk:Spc:=aS (a2 (List Int) (List Int)) (fun _=>True) (enc (X:=Int)) fun x y=>y=eD x.1 x.2
theorem qfg(h1:S iq=lO):aq gU gH S (a2 (List Int) (List Int)) (fun _=>True) (enc (X:=Int)) fun x y=>y=eD x.1 x.2:=by
 rintro⟨l,m⟩ -
 simp[gU,gH, -Bool.forall_bool, -Bool.exists_bool]
 intro hl
 refine ai (X:=Unit) [0,1,9] [] l.length (fun k _=>eD l m=eD (l.drop k) (m.drop k)/\k<=m.length) (fun _=>[]) (fun _=>[]) () (by simp) (by simp) (by omega) (by simp) (by simp) (by simp) (by simp) (by simp) ?_ ?_
 ·intro k _ hk ⟨hP,hkm⟩
  obtain⟨x,hx⟩:∃x,l[k]? =some x:=⟨_,qtH hk⟩
  obtain⟨_,hgx⟩:=qtG.1 hx
  have hd:l.drop k=x::l.drop (k+1):=by rw[<-hgx];exact quh hk
  by_cases hm:k < m.length
  ·obtain⟨y,hy⟩:∃y,m[k]? =some y:=⟨_,qtH hm⟩
   obtain⟨_,hgy⟩:=qtG.1 hy
   have hd2:m.drop k=y::m.drop (k+1):=by rw[<-hgy];exact quh hm
   rw[hd,hd2,Gj]at hP
   have hm2:¬ (m.length:Int)<=k:=by omega
   have hm3:¬m.length<=k:=by omega
   simp[hk,hx,hgx,hy,hgy,hm,hm2,hm3,h1, -Bool.forall_bool, -Bool.exists_bool]
   refine fun hlm=>⟨fun h=>?_,fun h=>?_⟩
   ·rw[if_pos h]at hP;exact hP.symm
   ·rw[if_neg (by simp[h])]at hP;exact⟨hP,by omega⟩
  ·have hm2:(m.length:Int)<=k:=by omega
   have hm3:m.length<=k:=by omega
   have e:m.drop k=[]:=quG hm3
   rw[hd,e]at hP
   simp[hk,hx,hgx,hm2,hm3, -Bool.forall_bool, -Bool.exists_bool]
   intro _
   rw[hP];rfl
 ·intro _ ⟨hP,hkm⟩
  rw[quH]at hP
  simp[-Bool.forall_bool, -Bool.exists_bool]
  intro _ _
  constructor
  ·intro h
   cases hd:m.drop l.length with
   | nil=>have:=congrArg List.length hd;simp at this;omega
   | cons y r=>rw[hd]at hP;rw[hP];rfl
  ·intro h
   have e:m.drop l.length=[]:=quG (by omega)
   rw[e]at hP;rw[hP];rfl
abbrev s_cmpM:Spc:=aS (a2 Match Match) (fun _=>True) (enc (X:=Int)) fun x y=>y=wz x.1 x.2
theorem qff(h1:S iq=lO)(h2:S iM=Yk)(h3:S ww=Cs):aq om nH S (a2 Match Match) (fun _=>True) (enc (X:=Int)) fun x y=>y=wz x.1 x.2:=by
 rintro⟨a,b⟩ -
 simp[om,nH,h1,h2,h3, -Bool.forall_bool, -Bool.exists_bool]
 rw[wz,Gj,Gj]
 generalize eD a.lbs b.lbs=z
 by_cases e1:xH a.b b.b=0
 ·by_cases e2:xH a.e b.e=0
  ·by_cases e3:z=0
   ·simp[e1,e2,e3]
   ·simp[e1,e2,List.find?,e3]
  ·simp[e1,List.find?,e2]
 ·simp[List.find?,e1]
def qiG(c:Corpus)(i:Int):Int:=fS c.texts fun t=>decide (t.b<=i) && decide (i < t.e)
abbrev Kv:Spc:=aS (a2 Corpus Int) (fun _=>True) (enc (X:=Int)) fun x y=>y=qiG x.1 x.2
theorem UR:aq ov nL S (a2 Corpus Int) (fun _=>True) (enc (X:=Int)) fun x y=>y=qiG x.1 x.2:=by
 rintro⟨c,i⟩ -
 simp[ov,nL, -Bool.forall_bool, -Bool.exists_bool]
 intro hl
 refine ai (X:=Unit) [1,8] [] c.texts.length (fun k _=>∀t∈c.texts.take k,(decide (t.b<=i) && decide (i < t.e))=false) (fun _=>[]) (fun _=>[]) () (by simp) (by simp) (by omega) (by simp) (by simp) (by simp) (by simp) (by simp) ?_ ?_
 ·intro k _ hk hP
  obtain⟨x,hx⟩:∃x,c.texts[k]? =some x:=⟨_,qtH hk⟩
  obtain⟨_,hgx⟩:=qtG.1 hx
  have hno:(decide (x.b<=i) && decide (i < x.e))=false->∀t∈c.texts.take (k+1),(decide (t.b<=i) && decide (i < t.e))=false:=fun h t ht=>by
   rw[bM hx]at ht
   rcases qtK.1 ht with ht|ht
   ·exact hP t ht
   ·simp at ht;subst ht;exact h
  by_cases e1:x.b<=i
  ·by_cases e2:i < x.e
   ·simp[hk,hx,hgx,e1,e2, -Bool.forall_bool, -Bool.exists_bool]
    exact(tc hx (by simp[e1,e2]) hP).symm
   ·simp[hk,hx,hgx,e1,e2, -Bool.forall_bool, -Bool.exists_bool]
    have:=hno (by simp[e2])
    simpa using this
  ·simp[hk,hx,hgx,e1, -Bool.forall_bool, -Bool.exists_bool]
   have:=hno (by simp[e1])
   simpa using this
 ·intro _ hP
  simp[-Bool.forall_bool, -Bool.exists_bool]
  exact(lG (by simpa using hP)).symm
theorem Xq{c:Corpus}{i:Int} :(qiG c i= -1/\UZ c i=none)\/ ∃k t,qiG c i=(k:Nat)/\c.texts[k]? =some t/\UZ c i=some t:=by
 unfold qiG UZ
 generalize hp:(fun t:sH=>decide (t.b<=i) && decide (i < t.e))=p
 generalize c.texts=l
 rcases Bo p l with⟨h1,h2⟩|⟨k,x,h1,h2,h3,h4⟩
 ·refine .inl ⟨h1,qwj.2 fun x hx=>by simp[h2 x hx]⟩
 ·refine .inr ⟨k,x,h1,h2,?_⟩
  have e:l=l.take k++x::l.drop (k+1):=by
   obtain⟨hk,hg⟩:=qtG.1 h2
   rw[<-hg,<-quh hk,qus]
  rw[e,List.find?_append,qwj.2 fun x hx=>by simp[h4 x hx]]
  simp[h3]
end Go.Gv
