/- A part of the framework and of the walks: V60 V61 V62 V63 C67 W186. -/
import Derived.Test.YtphdikcommfnhaaGreatDoorGa34
import Derived.Test.YtphdikcommfnhaaGreatDoorGa25
import Derived.Test.YtphdikcommfnhaaGreatDoorGa33
import Derived.Test.YtphdikcommfnhaaGreatDoorGa22
import Derived.Test.YtphdikcommfnhaaGreatDoorGa18
import Derived.Test.YtphdikcommfnhaaGreatDoorGa21
set_option linter.unusedSimpArgs false
set_option linter.unusedVariables false
set_option maxRecDepth 100000

namespace Go.Gv
open Go.Proofs
open Cod (enc dec)
structure St3 where
 p:Int
 b0:Int
 b1:Int
 b2:Int
deriving DecidableEq
instance:Cod St3 where
 wd:=4
 enc s:= .agg [enc s.p,enc s.b0,enc s.b1,enc s.b2]
 dec | .agg [x0,x1,x2,x3]=> (dec x0).bind fun x0=> (dec x1).bind fun x1=> (dec x2).bind fun x2=> (dec x3).bind fun x3=> some ⟨x0,x1,x2,x3⟩ | _=> none
 kn _:=rfl
 wid _:=rfl
 dec_enc s:=by simp
 le d x h:=by
  split at h
  ·simp only[Option.bind_eq_some_iff] at h
   obtain⟨x0,h0,x1,h1,x2,h2,x3,h3,h⟩:=h
   cases h
   exact LeL.agg (.cons (Cod.le _ _ h0) (.cons (Cod.le _ _ h1) (.cons (Cod.le _ _ h2) (.cons (Cod.le _ _ h3) .nil))))
  ·cases h
@[simp] theorem qeR (s:St3):enc s= .agg [enc s.p,enc s.b0,enc s.b1,enc s.b2]:=id rfl
@[simp] theorem qe0 (x0 x1 x2 x3:D):dec (X:=St3) (.agg [x0,x1,x2,x3])=((dec x0).bind fun x0=> (dec x1).bind fun x1=> (dec x2).bind fun x2=> (dec x3).bind fun x3=> some ⟨x0,x1,x2,x3⟩):=id rfl
theorem OG:Rc St3 true [.int .i64, .int .i64, .int .i64, .int .i64]:=⟨fun _=> rfl,fun _=> rfl⟩
structure Rn where
 c:Corpus
 lb:List B
 bg:Int
 en:Int
def St3.get (s:St3) (i:Nat):Int:=match i with | 0=> s.b0 | 1=> s.b1 | _=> s.b2
def St3.set (s:St3) (i:Nat) (x:Int):St3:=match i with | 0=> ⟨s.p,x,s.b1,s.b2⟩ | 1=> ⟨s.p,s.b0,x,s.b2⟩ | _=> ⟨s.p,s.b0,s.b1,x⟩
def Mh (r:Rn) (s:St3):List Int:=(List.range r.lb.length).map fun i=> s.get i -1
def A6 (r:Rn) (p:Pat) (s:St3):St3:=
 let s1:St3:=if p.lab=oj then s else s.set (gT r.lb fun z=> decide (z=p.lab)).toNat (s.p+1)
 ⟨s1.p+1,s1.b0,s1.b1,s1.b2⟩
def vE (r:Rn) (p:Pat) (s:St3):Option Bool:=J3 ⟨r.c,s.p,r.lb,Mh r s⟩ 21 p.cond
def N4 (r:Rn) (p:Pat) (at_:Int):Bool:=r.c.regs.any fun x=> decide (x.ty=p.reg) && decide ((if p.op=3 then x.e else x.b)=at_) && decide (r.bg<=x.b) && decide (x.e<=r.en)
section
variable {α:Type}
def Pow (R:α->α->Prop):Nat->α->α->Prop
 | 0=> fun s t=> s=t
 | n+1=> fun s t=> ∃u,R s u/\Pow R n u t
def Star (R:α->α->Prop) (s t:α):Prop:= ∃n,Pow R n s t
theorem Pow.add {R:α->α->Prop} : ∀ {m n:Nat} {s t u:α},Pow R m s t->Pow R n t u->Pow R (m+n) s u
 | 0,n,s,t,u,h,k=> by cases h;rwa [Nat.zero_add]
 | m+1,n,s,t,u,⟨v,h1,h2⟩,k=> by
   rw[Nat.succ_add]
   exact⟨v,h1,h2.add k⟩
theorem Star.refl (R:α->α->Prop) (s:α):Star R s s:=⟨0,rfl⟩
theorem Star.one {R:α->α->Prop} {s t:α} (h:R s t):Star R s t:=⟨1,t,h,rfl⟩
theorem Star.trans {R:α->α->Prop} {s t u:α} (h:Star R s t) (k:Star R t u):Star R s u:=by
 obtain⟨m,h⟩:=h
 obtain⟨n,k⟩:=k
 exact⟨m+n,h.add k⟩
theorem Star.mono {R Q:α->α->Prop} (hR: ∀s t,R s t->Star Q s t) {s t:α} (h:Star R s t):Star Q s t:=by
 obtain⟨n,h⟩:=h
 induction n generalizing s with
 | zero=> cases h;exact .refl _ _
 | succ n ih=>
   obtain⟨u,h1,h2⟩:=h
   exact(hR _ _ h1).trans (ih h2)
theorem Pow.mono {R Q:α->α->Prop} (hR: ∀s t,R s t->Q s t): ∀ {n:Nat} {s t:α},Pow R n s t->Pow Q n s t
 | 0,_,_,h=> h
 | n+1,_,_,⟨u,h1,h2⟩=> ⟨u,hR _ _ h1,h2.mono hR⟩
end
def xY (R:St3->St3->Prop) (s t:St3):Prop:=R s t/\s.p < t.p
def tg (R:St3->St3->Prop) (mn mx:Int) (s t:St3):Prop:= ∃u,Pow R mn.toNat s u/\ ∃n:Nat,(mx < 0\/mn+n<=mx)/\Pow (xY R) n u t
def tB (R:St3->St3->Prop):Prop:= ∀s t,R s t->s=t\/s.p < t.p
theorem K0 {R:St3->St3->Prop} (hR:tB R) {s t:St3} :Star (xY R) s t↔Star R s t:=by
 constructor
 ·exact Star.mono fun s t h=> .one h.1
 ·exact Star.mono fun s t h=> by
   rcases hR s t h with rfl | h2
   ·exact .refl _ _
   ·exact .one ⟨h,h2⟩
theorem oR {R:St3->St3->Prop} (hR:tB R) {mn:Int} {s t:St3} :tg R mn (-1) s t↔ ∃u,Pow R mn.toNat s u/\Star R u t:=by
 constructor
 ·rintro⟨u,h1,n,_,h2⟩
  exact⟨u,h1,(K0 hR).1 ⟨n,h2⟩⟩
 ·rintro⟨u,h1,h2⟩
  obtain⟨n,h2⟩:=(K0 hR).2 h2
  exact⟨u,h1,n, .inl (by decide),h2⟩
theorem K9 {R:St3->St3->Prop} (hR:tB R) (n:Nat):tB (Pow R n):=by
 induction n with
 | zero=> intro s t h;exact .inl h
 | succ n ih=>
   rintro s t ⟨u,h1,h2⟩
   rcases hR _ _ h1 with rfl | h1
   ·exact ih _ _ h2
   ·rcases ih _ _ h2 with rfl | h2
    ·exact .inr h1
    ·exact .inr (by omega)
theorem K8 {R:St3->St3->Prop} (hR:tB R) (mn mx:Int):tB (tg R mn mx):=by
 rintro s t ⟨u,h1,n,_,h2⟩
 have g2:tB (Pow (xY R) n):=K9 (fun s t h=> hR s t h.1) n
 rcases K9 hR _ _ _ h1 with rfl | h1
 ·exact g2 _ _ h2
 ·rcases g2 _ _ h2 with rfl | h2
  ·exact .inr h1
  ·exact .inr (by omega)
theorem VG {R:St3->St3->Prop} (hR:tB R) {m1 m2:Int} (h1:0<=m1/\m1<=1) (h2:0<=m2/\m2<=1) (s t:St3):tg (tg R m2 (-1)) m1 (-1) s t↔tg R (m1*m2) (-1) s t:=by
 have hR2:=K8 hR m2 (-1)
 rw[oR hR2,oR hR]
 have sub: ∀s t,tg R m2 (-1) s t->Star R s t:=fun s t h=> by
  obtain⟨u,h3,h4⟩:=(oR hR).1 h
  exact Star.trans ⟨_,h3⟩ h4
 have sup: ∀s t,R s t->tg R m2 (-1) s t:=fun s t h=> by
  rw[oR hR]
  have:m2=0\/m2=1:=by omega
  rcases this with rfl | rfl
  ·exact⟨s,rfl, .one h⟩
  ·exact⟨t,⟨t,h,rfl⟩, .refl _ _⟩
 have eqS: ∀s t,Star (tg R m2 (-1)) s t↔Star R s t:=fun s t=> ⟨Star.mono sub,Star.mono fun s t h=> .one (sup s t h)⟩
 have c1:m1=0\/m1=1:=by omega
 rcases c1 with rfl | rfl
 ·rw[Int.zero_mul]
  constructor
  ·rintro⟨u,h3,h4⟩
   cases h3
   exact⟨_,rfl,(eqS _ _).1 h4⟩
  ·rintro⟨u,h3,h4⟩
   cases h3
   exact⟨_,rfl,(eqS _ _).2 h4⟩
 ·rw[Int.one_mul]
  constructor
  ·rintro⟨u,⟨v,h3,h5⟩,h4⟩
   cases h5
   obtain⟨u2,h6,h7⟩:=(oR hR).1 h3
   exact⟨u2,h6,h7.trans ((eqS _ _).1 h4)⟩
  ·rintro⟨u,h3,h4⟩
   exact⟨t,⟨t,(oR hR).2 ⟨u,h3,h4⟩,rfl⟩, .refl _ _⟩
mutual
def ld (r:Rn):Pat->St3->St3->Prop
 | .mk op cond lab reg mn mx ks=> fun s t=>
   if op=1 then s.p < r.en/\vE r (.mk op cond lab reg mn mx ks) s=some true/\t=A6 r (.mk op cond lab reg mn mx ks) s
   else if op=2\/op=3 then N4 r (.mk op cond lab reg mn mx ks) s.p=true/\t=s
   else if op=4 then rp r ks s t
   else if op=5 then rq r ks s t
   else Aj r ks mn mx s t
def rp (r:Rn):List Pat->St3->St3->Prop
 | []=> fun s t=> s=t
 | k::ks=> fun s t=> ∃u,ld r k s u/\rp r ks u t
def rq (r:Rn):List Pat->St3->St3->Prop
 | []=> fun _ _=> False
 | k::ks=> fun s t=> ld r k s t\/rq r ks s t
def Aj (r:Rn):List Pat->Int->Int->St3->St3->Prop
 | []=> fun _ _ _ _=> False
 | k::_=> fun mn mx s t=> tg (ld r k) mn mx s t
end
mutual
theorem zR (r:Rn): ∀p:Pat,tB (ld r p)
 | .mk op cond lab reg mn mx ks=> by
   intro s t h
   rw[ld] at h
   split at h
   ·obtain⟨_,_,rfl⟩:=h
    right
    unfold A6
    dsimp only
    split
    ·show s.p < s.p+1;omega
    ·generalize (gT r.lb fun z=> decide (z=lab)).toNat=i
     rcases i with _ | _ | i
     ·show s.p < s.p+1;omega
     ·show s.p < s.p+1;omega
     ·show s.p < s.p+1;omega
   ·split at h
    ·exact .inl h.2.symm
    ·split at h
     ·exact Bu r ks s t h
     ·split at h
      ·exact HI r ks s t h
      ·exact QN r ks mn mx s t h
theorem Bu (r:Rn): ∀ks:List Pat,tB (rp r ks)
 | []=> fun s t h=> by rw[rp] at h;exact .inl h
 | k::ks=> fun s t h=> by
   rw[rp] at h
   obtain⟨u,h1,h2⟩:=h
   rcases zR r k s u h1 with rfl | h1
   ·exact Bu r ks _ _ h2
   ·rcases Bu r ks u t h2 with rfl | h2
    ·exact .inr h1
    ·exact .inr (by omega)
theorem HI (r:Rn): ∀ks:List Pat,tB (rq r ks)
 | []=> fun s t h=> by rw[rq] at h;exact h.elim
 | k::ks=> fun s t h=> by
   rw[rq] at h
   rcases h with h | h
   ·exact zR r k s t h
   ·exact HI r ks s t h
theorem QN (r:Rn): ∀ (ks:List Pat) (mn mx:Int),tB (Aj r ks mn mx)
 | [],_,_=> fun s t h=> by rw[Aj] at h;exact h.elim
 | k::_,mn,mx=> fun s t h=> by
   rw[Aj] at h
   exact K8 (zR r k) mn mx s t h
end
end Go.Gv

namespace Go.Gv
open Go.Proofs
def Mc (m:Int) (s:St3):Prop:=0<=s.p/\s.p<=m/\ ∀i,0<=s.get i/\s.get i<=m
def UZ (m:Int) (R:St3->St3->Prop):Prop:= ∀s t,R s t->Mc m s->Mc m t
theorem sP {m:Int} {R:St3->St3->Prop} (h:UZ m R): ∀n:Nat,UZ m (Pow R n)
 | 0,s,t,e,hs=> by cases e;exact hs
 | n+1,s,t,⟨u,h1,h2⟩,hs=> sP h n _ _ h2 (h _ _ h1 hs)
theorem YP {m:Int} {R:St3->St3->Prop} (h:UZ m R) (mn mx:Int):UZ m (tg R mn mx):=by
 rintro s t ⟨u,h1,n,_,h2⟩ hs
 exact sP (R:=xY R) (fun s t q=> h s t q.1) n _ _ h2 (sP h _ _ _ h1 hs)
theorem Xw (r:Rn) (p:Pat) (s:St3): (A6 r p s).p=s.p+1:=by
 unfold A6
 dsimp only
 split
 ·rfl
 ·generalize (gT r.lb fun z=> decide (z=p.lab)).toNat=i
  rcases i with _ | _ | i <;> rfl
theorem VP (r:Rn) (p:Pat) (s:St3) (i:Nat): (A6 r p s).get i=s.get i\/(A6 r p s).get i=s.p+1:=by
 unfold A6
 dsimp only
 split
 ·rcases i with _ | _ | i <;> exact .inl rfl
 ·generalize (gT r.lb fun z=> decide (z=p.lab)).toNat=j
  rcases j with _ | _ | j <;> rcases i with _ | _ | i <;> first | exact .inl rfl | exact .inr rfl
mutual
theorem pE (r:Rn): ∀p:Pat,UZ r.en (ld r p)
 | .mk op cond lab reg mn mx ks=> by
   intro s t h hs
   rw[ld] at h
   split at h
   ·obtain⟨h1,_,rfl⟩:=h
    obtain⟨a,b,c⟩:=hs
    refine⟨by rw[Xw];omega,by rw[Xw];omega,fun i=> ?_⟩
    rcases VP r (.mk op cond lab reg mn mx ks) s i with e | e
    ·rw[e];exact c i
    ·rw[e];omega
   ·split at h
    ·rw[h.2];exact hs
    ·split at h
     ·exact Jh r ks s t h hs
     ·split at h
      ·exact OE r ks s t h hs
      ·exact Wc r ks mn mx s t h hs
theorem Jh (r:Rn): ∀ks:List Pat,UZ r.en (rp r ks)
 | []=> fun s t h hs=> by rw[rp] at h;rw[<-h];exact hs
 | k::ks=> fun s t h hs=> by
   rw[rp] at h
   obtain⟨u,h1,h2⟩:=h
   exact Jh r ks u t h2 (pE r k s u h1 hs)
theorem OE (r:Rn): ∀ks:List Pat,UZ r.en (rq r ks)
 | []=> fun s t h=> by rw[rq] at h;exact h.elim
 | k::ks=> fun s t h hs=> by
   rw[rq] at h
   rcases h with h | h
   ·exact pE r k s t h hs
   ·exact OE r ks s t h hs
theorem Wc (r:Rn): ∀ (ks:List Pat) (mn mx:Int),UZ r.en (Aj r ks mn mx)
 | [],_,_=> fun s t h=> by rw[Aj] at h;exact h.elim
 | k::_,mn,mx=> fun s t h hs=> by
   rw[Aj] at h
   exact YP (pE r k) mn mx s t h hs
end
theorem xk {R:St3->St3->Prop} : ∀ {n:Nat} {s t:St3},Pow (xY R) n s t->s.p+n<=t.p
 | 0,s,t,h=> by cases h;omega
 | n+1,s,t,⟨u,h1,h2⟩=> by
   have:=xk h2
   have:=h1.2
   omega
def wv (m:Int) (f:St3->List St3) (R:St3->St3->Prop):Prop:= ∀s,Mc m s-> ∀t,t∈f s↔R s t
def P6 (f:St3->List St3):Nat->St3->List St3
 | 0,s=> [s]
 | n+1,s=> (f s).flatMap (P6 f n)
theorem oO {m:Int} {f:St3->List St3} {R:St3->St3->Prop} (h:wv m f R) (k:UZ m R): ∀n:Nat,wv m (P6 f n) (Pow R n)
 | 0,s,hs,t=> by simp[P6,Pow,eq_comm]
 | n+1,s,hs,t=> by
   simp only[P6,List.mem_flatMap,Pow]
   constructor
   ·rintro⟨u,h1,h2⟩
    have h1:=(h s hs u).1 h1
    exact⟨u,h1,(oO h k n u (k _ _ h1 hs) t).1 h2⟩
   ·rintro⟨u,h1,h2⟩
    exact⟨u,(h s hs u).2 h1,(oO h k n u (k _ _ h1 hs) t).2 h2⟩
def YY (f:St3->List St3) (s:St3):List St3:=(f s).filter fun t=> decide (s.p < t.p)
theorem Hd {m:Int} {f:St3->List St3} {R:St3->St3->Prop} (h:wv m f R):wv m (YY f) (xY R):=fun s hs t=> by
 unfold YY xY
 rw[List.mem_filter,h s hs t,decide_eq_true_iff]
def Yw (N:Nat) (f:St3->List St3) (mn mx:Int) (s:St3):List St3:=
 (P6 f mn.toNat s).flatMap fun u=> (List.range ((if mx < 0 then N else(mx -mn).toNat) +1)).flatMap fun n=> P6 (YY f) n u
theorem PP {N:Nat} {f:St3->List St3} {R:St3->St3->Prop} (h:wv N f R) (k:UZ N R) (mn mx:Int) (hm:0<=mx->mn<=mx):wv N (Yw N f mn mx) (tg R mn mx):=fun s hs t=> by
 unfold Yw tg
 simp only[List.mem_flatMap,List.mem_range]
 have ki:UZ N (xY R):=fun s t q=> k s t q.1
 constructor
 ·rintro⟨u,h1,n,h2,h3⟩
  have h1:=(oO h k _ s hs u).1 h1
  have hu:=sP k _ _ _ h1 hs
  refine⟨u,h1,n,?_,(oO (Hd h) ki n u hu t).1 h3⟩
  by_cases hx:mx < 0
  ·exact .inl hx
  ·rw[if_neg hx] at h2
   have:=hm (by omega)
   exact .inr (by omega)
 ·rintro⟨u,h1,n,h2,h3⟩
  have hu:=sP k _ _ _ h1 hs
  refine⟨u,(oO h k _ s hs u).2 h1,n,?_,(oO (Hd h) ki n u hu t).2 h3⟩
  by_cases hx:mx < 0
  ·rw[if_pos hx]
   have:=xk h3
   have:=(sP ki _ _ _ h3 hu).2.1
   have:=hu.1
   omega
  ·rw[if_neg hx]
   rcases h2 with h2 | h2
   ·exact absurd h2 hx
   ·omega
mutual
def LD (r:Rn):Pat->St3->List St3
 | .mk op cond lab reg mn mx ks=> fun s=>
   if op=1 then(if decide (s.p < r.en) && (vE r (.mk op cond lab reg mn mx ks) s==some true) then[A6 r (.mk op cond lab reg mn mx ks) s] else[])
   else if op=2\/op=3 then(if N4 r (.mk op cond lab reg mn mx ks) s.p then[s] else[])
   else if op=4 then LB r ks s
   else if op=5 then LC r ks s
   else OZ r ks mn mx s
def LB (r:Rn):List Pat->St3->List St3
 | []=> fun s=> [s]
 | k::ks=> fun s=> (LD r k s).flatMap (LB r ks)
def LC (r:Rn):List Pat->St3->List St3
 | []=> fun _=> []
 | k::ks=> fun s=> LD r k s++LC r ks s
def OZ (r:Rn):List Pat->Int->Int->St3->List St3
 | []=> fun _ _ _=> []
 | k::_=> fun mn mx s=> Yw r.en.toNat (LD r k) mn mx s
end
mutual
def A7:Pat->List Pat
 | .mk op cond lab reg mn mx ks=> .mk op cond lab reg mn mx ks::Dj ks
def Dj:List Pat->List Pat
 | []=> []
 | k::ks=> A7 k++Dj ks
end
def mD (C:Pat->Prop) (p:Pat):Prop:= ∀q∈A7 p,C q
theorem Ca: ∀ {ks:List Pat} {k q:Pat},k∈ks->q∈A7 k->q∈Dj ks
 | a::ks,k,q,h,hq=> by
   rw[Dj,List.mem_append]
   rcases List.mem_cons.1 h with rfl | h
   ·exact .inl hq
   ·exact .inr (Ca h hq)
theorem Cb (p:Pat):p∈A7 p:=by cases p;rw[A7];simp
theorem kW {C:Pat->Prop} {p:Pat} (h:mD C p):C p:=h p (Cb p)
theorem pC {C:Pat->Prop} {p k:Pat} (h:mD C p) (hk:k∈p.kids):mD C k:=fun q hq=> h q (by cases p;rw[A7];exact List.mem_cons_of_mem _ (Ca hk hq))
theorem rI {C D:Pat->Prop} {p:Pat} (h:mD C p) (hCD: ∀q,C q->D q):mD D p:=fun q hq=> hCD q (h q hq)
def UX (q:Pat):Prop:=q.op=1\/q.op=2\/q.op=3\/q.op=4\/q.op=5\/(0<=q.mx->q.mn<=q.mx)
mutual
theorem vn (r:Rn) (hr:0<=r.en): ∀p:Pat,mD UX p->wv r.en (LD r p) (ld r p)
 | .mk op cond lab reg mn mx ks,h=> by
   have hs:=kW h
   have hk: ∀k∈ks,mD UX k:=fun k hk=> pC h hk
   intro s h1 t
   rw[LD,ld]
   dsimp only
   by_cases e1:op=1
   ·rw[if_pos e1,if_pos e1]
    generalize vE r (.mk op cond lab reg mn mx ks) s=q
    by_cases e2:s.p < r.en
    ·by_cases e3:q=some true
     ·simp[e2,e3]
     ·simp[e2,e3]
    ·simp[e2]
   rw[if_neg e1,if_neg e1]
   by_cases e2:op=2\/op=3
   ·rw[if_pos e2,if_pos e2]
    cases N4 r (.mk op cond lab reg mn mx ks) s.p <;> simp
   rw[if_neg e2,if_neg e2]
   by_cases e4:op=4
   ·rw[if_pos e4,if_pos e4];exact DO r hr ks hk s h1 t
   rw[if_neg e4,if_neg e4]
   by_cases e5:op=5
   ·rw[if_pos e5,if_pos e5];exact DP r hr ks hk s h1 t
   rw[if_neg e5,if_neg e5]
   refine MD r hr ks mn mx hk ?_ s h1 t
   rcases hs with h | h | h | h | h | h
   ·exact absurd h e1
   ·exact absurd (.inl h) e2
   ·exact absurd (.inr h) e2
   ·exact absurd h e4
   ·exact absurd h e5
   ·exact h
theorem DO (r:Rn) (hr:0<=r.en): ∀ks:List Pat,(∀k∈ks,mD UX k)->wv r.en (LB r ks) (rp r ks)
 | [],_=> fun s h t=> by rw[LB,rp];simp[eq_comm]
 | k::ks,h=> fun s hs t=> by
   have i1:=vn r hr k (h k (by simp))
   have i2:=DO r hr ks fun q hq=> h q (by simp[hq])
   rw[LB,rp]
   dsimp only
   rw[List.mem_flatMap]
   constructor
   ·rintro⟨u,h1,h2⟩
    have h1:=(i1 s hs u).1 h1
    exact⟨u,h1,(i2 u (pE r k _ _ h1 hs) t).1 h2⟩
   ·rintro⟨u,h1,h2⟩
    exact⟨u,(i1 s hs u).2 h1,(i2 u (pE r k _ _ h1 hs) t).2 h2⟩
theorem DP (r:Rn) (hr:0<=r.en): ∀ks:List Pat,(∀k∈ks,mD UX k)->wv r.en (LC r ks) (rq r ks)
 | [],_=> fun s h t=> by rw[LC,rq];simp
 | k::ks,h=> fun s hs t=> by
   have i1:=vn r hr k (h k (by simp))
   have i2:=DP r hr ks fun q hq=> h q (by simp[hq])
   rw[LC,rq]
   dsimp only
   rw[List.mem_append,i1 s hs t,i2 s hs t]
theorem MD (r:Rn) (hr:0<=r.en): ∀ (ks:List Pat) (mn mx:Int),(∀k∈ks,mD UX k)->(0<=mx->mn<=mx)->wv r.en (OZ r ks mn mx) (Aj r ks mn mx)
 | [],_,_,_,_=> fun s h t=> by rw[OZ,Aj];simp
 | k::ks,mn,mx,h,hm=> fun s hs t=> by
   have i1:=vn r hr k (h k (by simp))
   rw[OZ,Aj]
   have e: ((r.en.toNat:Nat):Int)=r.en:=by omega
   refine PP (N:=r.en.toNat) (f:=LD r k) (R:=ld r k) (by rw[e];exact i1) (by rw[e];exact pE r k) mn mx hm s (by rw[e];exact hs) t
end
end Go.Gv

namespace Go.Gv
def e9:List Int->List Int->Int
 | [], []=> 0
 | [],_::_=> -1
 | _::_, []=> 1
 | a::x,b::y=> if tU a b≠0 then tU a b else e9 x y
def qr (a b:Match):Int:=e9 (a.b::a.e::a.lbs) (b.b::b.e::b.lbs)
theorem gF (a b:Int): (a < b/\tU a b= -1)\/(a=b/\tU a b=0)\/(b < a/\tU a b=1):=by
 unfold tU
 by_cases h:a < b
 ·exact .inl ⟨h,if_pos h⟩
 ·by_cases h2:b < a
  ·exact .inr (.inr ⟨h2,by rw[if_neg h,if_pos h2]⟩)
  ·exact .inr (.inl ⟨by omega,by rw[if_neg h,if_neg h2]⟩)
theorem Ud (a b:Int):tU b a= -tU a b:=by
 rcases gF a b with⟨h,e⟩ | ⟨h,e⟩ | ⟨h,e⟩ <;> rcases gF b a with⟨h',e'⟩ | ⟨h',e'⟩ | ⟨h',e'⟩ <;> first | (rw[e,e'];done) | (rw[e,e'];rfl) | omega
theorem HX {a b:Int} :tU a b=0↔a=b:=by
 rcases gF a b with⟨h,e⟩ | ⟨h,e⟩ | ⟨h,e⟩ <;> rw[e] <;> constructor <;> intro h' <;> omega
theorem FM: ∀x y:List Int,e9 y x= -e9 x y
 | [], []=> rfl
 | [],_::_=> rfl
 | _::_, []=> rfl
 | a::x,b::y=> by
   unfold e9
   have h:=Ud a b
   by_cases e:tU a b=0
   ·rw[if_neg (by rw[h,e];simp),if_neg (by simp[e])]
    exact FM x y
   ·rw[if_pos (by rw[h];omega),if_pos e,h]
theorem BH: ∀ {x y:List Int},e9 x y=0↔x=y
 | [], []=> by simp[e9]
 | [],_::_=> by simp[e9]
 | _::_, []=> by simp[e9]
 | a::x,b::y=> by
   unfold e9
   by_cases e:tU a b=0
   ·rw[if_neg (by simp[e]),BH,HX.1 e]
    simp
   ·rw[if_pos e]
    constructor
    ·intro h;exact absurd h e
    ·intro h;injection h with h;exact absurd (HX.2 h) e
theorem FN (x y:List Int):e9 x y= -1\/e9 x y=0\/e9 x y=1:=by
 induction x generalizing y with
 | nil=> cases y <;> simp[e9]
 | cons a x ih=>
   cases y with
   | nil=> simp[e9]
   | cons b y=>
     unfold e9
     split
     ·rcases gF a b with⟨_,e⟩ | ⟨_,e⟩ | ⟨_,e⟩ <;> rw[e] <;> simp
     ·exact ih y
theorem FL: ∀ {x y z:List Int},e9 x y < 0->e9 y z < 0->e9 x z < 0
 | [], [],_,h,_=> by simp[e9] at h
 | [],_::_, [],_,h=> by simp[e9] at h
 | [],_::_,_::_,_,_=> by simp[e9]
 | _::_, [],_,h,_=> by simp[e9] at h
 | _::_,_::_, [],_,h=> by simp[e9] at h
 | a::x,b::y,c::z,h1,h2=> by
   unfold e9 at h1 h2 ⊢
   rcases gF a b with⟨q1,e1⟩ | ⟨q1,e1⟩ | ⟨q1,e1⟩ <;> rcases gF b c with⟨q2,e2⟩ | ⟨q2,e2⟩ | ⟨q2,e2⟩ <;> rcases gF a c with⟨q3,e3⟩ | ⟨q3,e3⟩ | ⟨q3,e3⟩ <;> simp only[e1,e2,e3] at h1 h2 ⊢ <;> first | omega | (exact FL (by simpa using h1) (by simpa using h2)) | (simp at h1;done) | (simp at h2;done) | skip
def KR (a b:Match):Prop:=qr a b < 0
theorem oV {a b c:Match} (h1:KR a b) (h2:KR b c):KR a c:=FL h1 h2
theorem vq (a:Match): ¬KR a a:=fun h=> by
 have:qr a a=0:=BH.2 rfl
 unfold KR at h
 omega
theorem vw {a b:Match} :qr a b=0↔a=b:=by
 unfold qr
 rw[BH]
 obtain⟨a1,a2,a3⟩:=a
 obtain⟨b1,b2,b3⟩:=b
 simp
theorem Uc (a b:Match):qr b a= -qr a b:=FM _ _
theorem zo {a b:Match} (h: ¬KR a b):a=b\/KR b a:=by
 rcases FN (a.b::a.e::a.lbs) (b.b::b.e::b.lbs) with e | e | e
 ·exact absurd (show qr a b < 0 by unfold qr;omega) h
 ·exact .inl (vw.1 e)
 ·right
  unfold KR
  rw[Uc a b]
  show -e9 _ _ < 0
  omega
def qM (l:List Match):Prop:=l.Pairwise KR
theorem AF: ∀ {l l':List Match},qM l->qM l'->(∀x,x∈l↔x∈l')->l=l'
 | [], [],_,_,_=> rfl
 | [],b::l',_,_,h=> by have:=(h b).2 (by simp);cases this
 | a::l, [],_,_,h=> by have:=(h a).1 (by simp);cases this
 | a::l,b::l',h1,h2,h=> by
   have h1':=List.pairwise_cons.1 h1
   have h2':=List.pairwise_cons.1 h2
   have e:a=b:=by
    rcases List.mem_cons.1 ((h a).1 (by simp)) with e | m
    ·exact e
    ·rcases List.mem_cons.1 ((h b).2 (by simp)) with e | m'
     ·exact e.symm
     ·exact absurd (oV (h1'.1 b m') (h2'.1 a m)) (vq a)
   subst e
   rw[AF h1'.2 h2'.2 fun x=> ?_]
   constructor
   ·intro m
    rcases List.mem_cons.1 ((h x).1 (by simp[m])) with e | m'
    ·subst e;exact absurd (h1'.1 _ m) (vq _)
    ·exact m'
   ·intro m
    rcases List.mem_cons.1 ((h x).2 (by simp[m])) with e | m'
    ·subst e;exact absurd (h2'.1 _ m) (vq _)
    ·exact m'
end Go.Gv

namespace Go.Gv
open Go.Proofs
def PM (c:Corpus) (i:Int):Option F0:=c.texts.find? fun t=> decide (t.b<=i) && decide (i < t.e)
def PY (c:Corpus) (lb:List B) (t:F0):Rn:=⟨c,lb,t.b,min t.e c.toks.length⟩
def Ir (i:Int):St3:=⟨i,0,0,0⟩
def Xf (c:Corpus) (lb:List B) (p:Pat) (m:Match):Prop:=0<=m.b/\m.b < c.toks.length/\ ∃t,PM c m.b=some t/\ ∃s,ld (PY c lb t) p (Ir m.b) s/\m.b < s.p/\m.e=s.p/\m.lbs=Mh (PY c lb t) s
def U0 (c:Corpus) (lb:List B) (p:Pat) (i:Int) (l:List Match):Prop:=qM l/\ ∀m,m∈l↔m.b=i/\Xf c lb p m
def Md (c:Corpus) (lb:List B) (p:Pat) (l:List Match):Prop:=qM l/\ ∀m,m∈l↔Xf c lb p m
theorem Wj {c:Corpus} {lb:List B} {p:Pat} {l l':List Match} (h:Md c lb p l) (h':Md c lb p l'):l=l':=AF h.1 h'.1 fun x=> (h.2 x).trans (h'.2 x).symm
theorem qbw {a b:Match} (h:a.b < b.b):KR a b:=by
 unfold KR qr e9
 rcases gF a.b b.b with⟨_,e⟩ | ⟨h2,_⟩ | ⟨h2,_⟩
 ·rw[e];simp
 ·omega
 ·omega
def Rd (c:Corpus) (lb:List B) (p:Pat) (k:Int) (l:List Match):Prop:=qM l/\ ∀m,m∈l↔m.b < k/\Xf c lb p m
theorem QD (c:Corpus) (lb:List B) (p:Pat):Rd c lb p 0 []:=⟨List.Pairwise.nil,fun m=> ⟨fun h=> (by cases h),fun h=> (by have:=h.2.1;omega)⟩⟩
theorem QE {c:Corpus} {lb:List B} {p:Pat} {k:Int} {l l':List Match} (h:Rd c lb p k l) (h':U0 c lb p k l'):Rd c lb p (k+1) (l++l'):=by
 refine⟨List.pairwise_append.2 ⟨h.1,h'.1,fun a ha b hb=> qbw ?_⟩,fun m=> ?_⟩
 ·have:=((h.2 a).1 ha).1
  have:=((h'.2 b).1 hb).1
  omega
 ·rw[List.mem_append,h.2,h'.2]
  constructor
  ·rintro(⟨h1,h2⟩ | ⟨h1,h2⟩)
   ·exact⟨by omega,h2⟩
   ·exact⟨by omega,h2⟩
  ·rintro⟨h1,h2⟩
   by_cases e:m.b=k
   ·exact .inr ⟨e,h2⟩
   ·exact .inl ⟨by omega,h2⟩
theorem SZ {c:Corpus} {lb:List B} {p:Pat} {l:List Match} (h:Rd c lb p c.toks.length l):Md c lb p l:=⟨h.1,fun m=> (h.2 m).trans ⟨fun h=> h.2,fun h=> ⟨h.2.1,h⟩⟩⟩
theorem KJ: ∀ (n:Nat) (l:List Nat),l.Nodup->(∀x∈l,x < n)->l.length<=n
 | 0, [],_,_=> Nat.le_refl _
 | 0,x::l,_,h=> absurd (h x (by simp)) (Nat.not_lt_zero _)
 | n+1,l,hn,h=> by
   have ih:=KJ n (l.erase n) (hn.erase n) fun x hx=> by
    have h1:=(List.Nodup.mem_erase_iff hn).1 hx
    have:=h x h1.2
    omega
   have h2:l.length<=(l.erase n).length+1:=by
    rw[List.length_erase]
    split <;> omega
   omega
theorem Qj {α:Type} {l:List α} {f:α->Nat} {n:Nat} (h1:l.Nodup) (h2: ∀x∈l,f x < n) (h3: ∀x∈l,∀y∈l,f x=f y->x=y):l.length<=n:=by
 have hn: ∀ {l:List α},l.Nodup->(∀x∈l,∀y∈l,f x=f y->x=y)->(l.map f).Nodup:=fun {l} h1 h3=> by
  induction l with
  | nil=> exact List.nodup_nil
  | cons a l ih=>
    rw[List.map_cons,List.nodup_cons]
    have h4:=List.nodup_cons.1 h1
    refine⟨fun hm=> ?_,ih h4.2 fun x hx y hy=> h3 x (by simp[hx]) y (by simp[hy])⟩
    obtain⟨y,hy,e⟩:=List.mem_map.1 hm
    have:=h3 y (by simp[hy]) a (by simp) e
    subst this
    exact h4.1 hy
 have:=KJ n (l.map f) (hn h1 h3) fun x hx=> by
  obtain⟨y,hy,rfl⟩:=List.mem_map.1 hx
  exact h2 y hy
 simpa using this
def Qg (m:Nat) (s:St3):Nat:=((s.p.toNat*m+s.b0.toNat) *m+s.b1.toNat) *m+s.b2.toNat
end Go.Gv

namespace Go.Gv
open Go.Proofs
def nc:CC:=oX [oB 3 (.box jc true (oT 0)),oB 4 (.box o6 true (oT 1)),oB 6 (.mv (.const on))] [2,3,4] [36,990,0] (oX [oD 12 7 3,oA 13 2,oZ 14 gX [oT 12,oT 13],oA 7 14] [2,3,4,7] [36,990,0] (.seq (oX [oA 15 7,oB 16 (.cmp .lss (oT 15) (oN 0))] [2,3,4,7,16] [36,990,0] (.ite (oT 16) (oX [oB 6 (.mv (.const on))] [6] [36,990,60] (.ret)) (.skip)))
 (.keep [2,3,4,7] [36,990,0] (oX [oE 17 2 3,oC 18 1 17,oA 19 7,oB 20 (.iaddr 4 (oT 18) (oT 19)),oD 21 4 20,oB 8 (.alloc Io [oe,oi,oi,on]),oF 4 8 21] [2,3,4,8] [36,990,0,8] (qQ 43 (.regd [oD 22 7 3,oE 23 0 4,oD 24 13 23,oZ 25 iP [oT 24],oE 26 1 8,oC 27 1 26,oE 28 2 8,oC 29 1 28,oE 30 1 3,oC 31 1 30,oB 32 (.len (oT 31)),oB 33 (.mm false [oT 29,oT 32]),
 oB 34 (.m .mk [])] [oB 35 (.build [on,on,on,on,on,on,on,on,oi,oi,.map none] [(0,7,oT 22),(7,1,oT 25),(8,1,oT 27),(9,1,oT 33),(10,1,oT 34)]),oB 36 (.box In false (oT 35)),oA 9 36]) (.keep [2,4,9] [990,34,36] (oX [oB 10 (.mv (.const on))] [2,4,9,10] [990,34,36,60] (.seq (oX [oA 37 9,oE 38 0 4,oA 39 2,oB 40 (.build [oi,oi,oi,oi] [(0,1,oT 39)]),
 oZ 41 aQ [oT 37,oT 38,oT 40],oB 42 (.m .rng [oT 41])] [2,9,10,42] [990,34,36,42,60] (.block 0 (.loop 1 (oX [oB 43 (.m .next [oT 42]),oB 44 (.ext (oT 43) 0)] [2,9,10,42,44] [990,34,36,42,60] (.seq (.ite (oT 44) (.skip) (.exit 0)) (.keep [2,9,10,42] [990,34,36,42,60] (.block 1 (oX [oB 45 (.m .entry [oT 42]),oB 46 (.ext (oT 45) 0),oB 11 (.alloc bO [oi,oi,oi,oi]),
 oF 4 11 46] [2,9,10,11,42] [990,11,34,36,42,60] (oX [oE 47 0 11,oC 48 1 47,oA 49 2,oB 50 (.cmp .gtr (oT 48) (oT 49))] [2,9,10,11,42,50] [990,11,34,36,42,60] (.ite (oT 50) (.regd [oA 51 10,oA 52 2,oE 53 0 11,oC 54 1 53,oA 55 9,oD 56 4 11,oB 57 (.callb 36 bq [oT 55,oT 56]),oB 58 (.build [oi,oi,on] [(0,1,oT 52),(1,1,oT 54),(2,1,oT 57)]),
 oB 59 (.bslice c9 3 [oT 58])] [oB 60 (.append (some 60) c9 3 40 (oT 51) (oT 59)),oA 10 60]) (.skip))))))))))) (.keep [10] [36,990,60] (oX [oA 61 10,oZ 62 d5 [oT 61,.func cr]] [10] [36,990,60] (oX [oA 63 10,oA 6 63] [6] [36,990,60] (.ret))))))))))))
def na:List ar:= [.tmp 6]
def GP:List Nat:= [4,3,3057036,1060060]
theorem GG:ay Tryz.prog lT GP nc na 64:=ak mixed (by kernel_rfl)
def m0:CC:=oX [oB 2 (.box c9 true (oT 0)),oB 3 (.box c9 true (oT 1)),oB 4 (.mv (oN 0))] [2,3] [] (.seq (.regd [oE 5 0 2,oC 6 1 5,oE 7 0 3,oC 8 1 7,oZ 9 cg [oT 6,oT 8],oE 10 1 2,oC 11 1 10,oE 12 1 3,oC 13 1 12,oZ 14 cg [oT 11,oT 13],oE 15 2 2,oC 16 1 15,oE 17 2 3,oC 18 1 17] [oZ 19 dQ [oT 16,oT 18],
 oB 20 (.bslice fV 1 [oT 9,oT 14,oT 19]),oZ 21 lV [oT 20],oA 4 21]) (.keep [4] [] (.ret)))
def mK:List ar:= [.tmp 4]
def Bj:List Nat:= [2,3]
theorem AZ:ay Tryz.prog cr Bj m0 mK 22:=ak mixed (by kernel_rfl)
def mZ:CC:=oX [oB 2 (.box jc true (oT 0)),oB 3 (.box o6 true (oT 1)),oB 4 (.mv (.const on)),oB 5 (.mv (oN 0))] [2,3] [] (.seq (oX [oD 9 26 3,oE 10 0 2,oC 11 1 10,oZ 12 ga [oT 9,oT 11],oA 6 12] [2,3,6] [] (oX [oA 13 6,oB 14 (.eql true false [.int] (oT 13) (oN 0))] [2,3,6,14] [] (.ite (oT 14) (oX [oA 15 6,oB 4 (.mv (.const on)),
 oA 5 15] [4,5] [27] (.ret)) (.skip)))) (.keep [2,3] [] (oX [oB 7 (.mv (.const on))] [2,3,7] [27] (.seq (oX [oE 16 1 2,oC 17 1 16,oB 18 (.len (oT 17)),oB 19 (.mv (oN 0))] [2,3,7,18,19] [27] (aP 0 19 18 20 1 (oX [oA 21 19,oA 8 21] [2,3,7,8,18,19] [27] (oX [oA 22 7,oD 23 7 2,oD 24 26 3,oA 25 8,oZ 26 lT [oT 23,oT 24,oT 25],
 oB 27 (.append none c9 3 40 (oT 22) (oT 26)),oA 7 27] [2,3,7,18,19] [27] (oX [oA 28 7,oB 29 (.len (oT 28)),oB 30 (.cmp .gtr (oT 29) (oN 4096))] [2,3,7,18,19,30] [27] (.ite (oT 30) (oX [oB 4 (.mv (.const on)),oB 5 (.mv (oN 2))] [4,5] [27] (.ret)) (.skip))))) 31)) (.keep [7] [27] (oX [oA 32 7,oA 4 32,oB 5 (.mv (oN 0))] [4,5] [27] (.ret)))))))
def mJ:List ar:= [.tmp 4, .tmp 5]
def Bh:List Nat:= [2,3]
theorem AY:ay Tryz.prog gV Bh mZ mJ 33:=ak mixed (by kernel_rfl)
def ip:CC:=oX [oB 4 (.mv (oN 0))] [0,1] [] (.seq (oX [oA 9 0,oB 10 (.len (oT 9)),oB 11 (.mv (oN 0))] [0,1,9,10,11] [] (aP 0 11 10 12 1 (oX [oA 13 11,oB 14 (.iaddr 1 (oT 9) (oT 11)),oC 15 1 14,oA 5 13,oA 6 15] [0,1,5,6,9,10,11] [] (.seq (oX [oA 16 5,oA 17 1,oB 18 (.len (oT 17)),oB 19 (.cmp .geq (oT 16) (oT 18))] [0,1,5,6,9,10,11,19] [] (.ite (oT 19) (oX [
 oB 4 (.mv (oN 1))] [4] [] (.ret)) (.skip))) (.keep [0,1,5,6,9,10,11] [] (oX [oA 20 1,oA 21 5,oB 22 (.iaddr 1 (oT 20) (oT 21)),oC 23 1 22,oA 7 23] [0,1,6,7,9,10,11] [] (oX [oA 24 6,oA 25 7,oZ 26 cg [oT 24,oT 25],oA 8 26] [0,1,8,9,10,11] [] (oX [oA 27 8,oB 28 (.eql true false [.int] (oT 27) (oN 0))] [0,1,8,9,10,11,28] [] (.ite (oT 28) (oX [oA 29 8,oA 4 29] [4] [] (.ret))
 (.skip)))))))) 30)) (.keep [0,1] [] (.seq (oX [oA 31 0,oB 32 (.len (oT 31)),oA 33 1,oB 34 (.len (oT 33)),oB 35 (.cmp .lss (oT 32) (oT 34))] [35] [] (.ite (oT 35) (oX [oB 4 (.mv (oN (-1)))] [4] [] (.ret)) (.skip))) (.keep [] [] (oX [oB 4 (.mv (oN 0))] [4] [] (.ret))))))
def ic:List ar:= [.tmp 4]
def tL:List Nat:= []
theorem tD:ay Tryz.prog dQ tL ip ic 36:=ak mixed (by kernel_rfl)
end Go.Gv

namespace Go.Gv
open Go.Proofs
open Cod (enc dec)
variable {S S0:Nat->Spc}
theorem Dr (a b:Int) (x y:List Int):e9 (a::x) (b::y)=if tU a b≠0 then tU a b else e9 x y:=rfl
abbrev Nb:Spc:=cC (a2 (List Int) (List Int)) (fun _=> True) (enc (X:=Int)) fun x y=> y=e9 x.1 x.2
theorem Yb (h1:S cg=fl):aV ip ic S (a2 (List Int) (List Int)) (fun _=> True) (enc (X:=Int)) fun x y=> y=e9 x.1 x.2:=by
 rintro⟨l,m⟩ -
 simp[ip,ic, -Bool.forall_bool, -Bool.exists_bool]
 intro hl
 refine aA (X:=Unit) [0,1,9] [] l.length (fun k _=> e9 l m=e9 (l.drop k) (m.drop k)/\k<=m.length) (fun _=> []) (fun _=> []) () (by simp) (by simp) (by omega) (by simp) (by simp) (by simp) (by simp) (by simp) ?_ ?_
 ·intro k _ hk ⟨hP,hkm⟩
  obtain⟨x,hx⟩: ∃x,l[k]?=some x:=⟨_,List.getElem?_eq_getElem hk⟩
  obtain⟨_,hgx⟩:=List.getElem?_eq_some_iff.1 hx
  have hd:l.drop k=x::l.drop (k+1):=by rw[<-hgx];exact List.drop_eq_getElem_cons hk
  by_cases hm:k < m.length
  ·obtain⟨y,hy⟩: ∃y,m[k]?=some y:=⟨_,List.getElem?_eq_getElem hm⟩
   obtain⟨_,hgy⟩:=List.getElem?_eq_some_iff.1 hy
   have hd2:m.drop k=y::m.drop (k+1):=by rw[<-hgy];exact List.drop_eq_getElem_cons hm
   rw[hd,hd2,Dr] at hP
   have hm2: ¬ (m.length:Int)<=k:=by omega
   have hm3: ¬m.length<=k:=by omega
   simp[hk,hx,hgx,hy,hgy,hm,hm2,hm3,h1, -Bool.forall_bool, -Bool.exists_bool]
   refine fun hlm=> ⟨fun h=> ?_,fun h=> ?_⟩
   ·rw[if_pos h] at hP;exact hP.symm
   ·rw[if_neg (by simp[h])] at hP;exact⟨hP,by omega⟩
  ·have hm2: (m.length:Int)<=k:=by omega
   have hm3:m.length<=k:=by omega
   have e:m.drop k= []:=List.drop_eq_nil_of_le hm3
   rw[hd,e] at hP
   simp[hk,hx,hgx,hm2,hm3, -Bool.forall_bool, -Bool.exists_bool]
   intro _
   rw[hP];rfl
 ·intro _ ⟨hP,hkm⟩
  rw[List.drop_length] at hP
  simp[-Bool.forall_bool, -Bool.exists_bool]
  intro _ _
  constructor
  ·intro h
   cases hd:m.drop l.length with
   | nil=> have:=congrArg List.length hd;simp at this;omega
   | cons y r=> rw[hd] at hP;rw[hP];rfl
  ·intro h
   have e:m.drop l.length= []:=List.drop_eq_nil_of_le (by omega)
   rw[e] at hP;rw[hP];rfl
abbrev s_cmpM:Spc:=cC (a2 Match Match) (fun _=> True) (enc (X:=Int)) fun x y=> y=qr x.1 x.2
theorem Ya (h1:S cg=fl) (h2:S dQ=Nb) (h3:S lV=ss):aV m0 mK S (a2 Match Match) (fun _=> True) (enc (X:=Int)) fun x y=> y=qr x.1 x.2:=by
 rintro⟨a,b⟩ -
 simp[m0,mK,h1,h2,h3, -Bool.forall_bool, -Bool.exists_bool]
 rw[qr,Dr,Dr]
 generalize e9 a.lbs b.lbs=z
 by_cases e1:tU a.b b.b=0
 ·by_cases e2:tU a.e b.e=0
  ·by_cases e3:z=0
   ·simp[e1,e2,e3]
   ·simp[e1,e2,List.find?,e3]
  ·simp[e1,List.find?,e2]
 ·simp[List.find?,e1]
def qaS (c:Corpus) (i:Int):Int:=gT c.texts fun t=> decide (t.b<=i) && decide (i < t.e)
abbrev AP:Spc:=cC (a2 Corpus Int) (fun _=> True) (enc (X:=Int)) fun x y=> y=qaS x.1 x.2
theorem PD:aV m7 mN S (a2 Corpus Int) (fun _=> True) (enc (X:=Int)) fun x y=> y=qaS x.1 x.2:=by
 rintro⟨c,i⟩ -
 simp[m7,mN, -Bool.forall_bool, -Bool.exists_bool]
 intro hl
 refine aA (X:=Unit) [1,8] [] c.texts.length (fun k _=> ∀t∈c.texts.take k,(decide (t.b<=i) && decide (i < t.e))=false) (fun _=> []) (fun _=> []) () (by simp) (by simp) (by omega) (by simp) (by simp) (by simp) (by simp) (by simp) ?_ ?_
 ·intro k _ hk hP
  obtain⟨x,hx⟩: ∃x,c.texts[k]?=some x:=⟨_,List.getElem?_eq_getElem hk⟩
  obtain⟨_,hgx⟩:=List.getElem?_eq_some_iff.1 hx
  have hno: (decide (x.b<=i) && decide (i < x.e))=false-> ∀t∈c.texts.take (k+1),(decide (t.b<=i) && decide (i < t.e))=false:=fun h t ht=> by
   rw[cU hx] at ht
   rcases List.mem_append.1 ht with ht | ht
   ·exact hP t ht
   ·simp at ht;subst ht;exact h
  by_cases e1:x.b<=i
  ·by_cases e2:i < x.e
   ·simp[hk,hx,hgx,e1,e2, -Bool.forall_bool, -Bool.exists_bool]
    exact(qE hx (by simp[e1,e2]) hP).symm
   ·simp[hk,hx,hgx,e1,e2, -Bool.forall_bool, -Bool.exists_bool]
    have:=hno (by simp[e2])
    simpa using this
  ·simp[hk,hx,hgx,e1, -Bool.forall_bool, -Bool.exists_bool]
   have:=hno (by simp[e1])
   simpa using this
 ·intro _ hP
  simp[-Bool.forall_bool, -Bool.exists_bool]
  exact(kZ (by simpa using hP)).symm
theorem RC {c:Corpus} {i:Int} : (qaS c i= -1/\PM c i=none)\/ ∃k t,qaS c i=(k:Nat)/\c.texts[k]?=some t/\PM c i=some t:=by
 unfold qaS PM
 generalize hp: (fun t:F0=> decide (t.b<=i) && decide (i < t.e))=p
 generalize c.texts=l
 rcases Ff p l with⟨h1,h2⟩ | ⟨k,x,h1,h2,h3,h4⟩
 ·refine .inl ⟨h1,List.find?_eq_none.2 fun x hx=> by simp[h2 x hx]⟩
 ·refine .inr ⟨k,x,h1,h2,?_⟩
  have e:l=l.take k++x::l.drop (k+1):=by
   obtain⟨hk,hg⟩:=List.getElem?_eq_some_iff.1 h2
   rw[<-hg,<-List.drop_eq_getElem_cons hk,List.take_append_drop]
  rw[e,List.find?_append,List.find?_eq_none.2 fun x hx=> by simp[h4 x hx]]
  simp[h3]
end Go.Gv
