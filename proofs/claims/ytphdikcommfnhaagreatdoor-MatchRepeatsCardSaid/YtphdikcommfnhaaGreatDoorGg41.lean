/- A part of the framework and of the walks: V64 W184. -/
import Derived.Test.YtphdikcommfnhaaGreatDoorGg38
import Derived.Test.YtphdikcommfnhaaGreatDoorGg40
set_option linter.unusedSimpArgs false
set_option linter.unusedVariables false
set_option linter.unusedSectionVars false
set_option maxRecDepth 100000

namespace Go.Gv
open Go.Proofs
theorem qeB{r:Rn}{p:Pat}(h:p.op=1)(s t:St3):jW r p s t↔s.p < r.en/\zV r p s=some true/\t=Ed r p s:=by
 obtain⟨op,c,l,rg,mn,mx,ks⟩:=p
 rw[jW];dsimp only;rw[if_pos h]
theorem M4{r:Rn}{p:Pat}(h:p.op=2\/p.op=3)(s t:St3):jW r p s t↔Sp r p s.p=true/\t=s:=by
 obtain⟨op,c,l,rg,mn,mx,ks⟩:=p
 have h:op=2\/op=3:=h
 rw[jW];dsimp only;rw[if_neg (by omega),if_pos h]
theorem qeA{r:Rn}{p:Pat}(h:p.op=4)(s t:St3):jW r p s t↔uB r p.kids s t:=by
 obtain⟨op,c,l,rg,mn,mx,ks⟩:=p
 have h:op=4:=h
 rw[jW];dsimp only;rw[if_neg (by omega),if_neg (by omega),if_pos h]
theorem qez{r:Rn}{p:Pat}(h:p.op=5)(s t:St3):jW r p s t↔uC r p.kids s t:=by
 obtain⟨op,c,l,rg,mn,mx,ks⟩:=p
 have h:op=5:=h
 rw[jW];dsimp only;rw[if_neg (by omega),if_neg (by omega),if_neg (by omega),if_pos h]
theorem qaa{r:Rn}{p k:Pat}{ks:List Pat}(h:p.op=6)(hk:p.kids=k::ks)(s t:St3):jW r p s t↔wS (jW r k) p.mn p.mx s t:=by
 obtain⟨op,c,l,rg,mn,mx,kids⟩:=p
 have h:op=6:=h
 have hk:kids=k::ks:=hk
 subst hk
 rw[jW];dsimp only;rw[if_neg (by omega),if_neg (by omega),if_neg (by omega),if_neg (by omega),Dt]
theorem pB(r:Rn)(s t:St3):uB r [] s t↔s=t:=by rw[uB]
theorem lI(r:Rn)(k:Pat)(ks:List Pat)(s t:St3):uB r (k::ks) s t↔ ∃u,jW r k s u/\uB r ks u t:=by rw[uB]
theorem Df(r:Rn)(s t:St3):uC r [] s t↔False:=by rw[uC]
theorem qW(r:Rn)(k:Pat)(ks:List Pat)(s t:St3):uC r (k::ks) s t↔jW r k s t\/uC r ks s t:=by rw[uC]
theorem Ev{r:Rn}{k:Pat} :∀ {ks:List Pat} {s t:St3},uB r (ks++ [k]) s t↔ ∃u,uB r ks s u/\jW r k u t
 | [],s,t=>by
   rw[quD,lI]
   constructor
   ·rintro⟨u,h1,h2⟩
    exact⟨s,(pB ..).2 rfl,(pB ..).1 h2 ▸h1⟩
   ·rintro⟨u,h1,h2⟩
    exact⟨t,(pB ..).1 h1 ▸h2,(pB ..).2 rfl⟩
 | a::ks,s,t=>by
   rw[quv,lI]
   constructor
   ·rintro⟨u,h1,h2⟩
    obtain⟨v,h3,h4⟩:=Ev.1 h2
    exact⟨v,(lI ..).2 ⟨u,h1,h3⟩,h4⟩
   ·rintro⟨v,h3,h4⟩
    obtain⟨u,h1,h2⟩:=(lI ..).1 h3
    exact⟨u,h1,Ev.2 ⟨v,h2,h4⟩⟩
theorem La{r:Rn}{k:Pat} :∀ {ks:List Pat} {s t:St3},uC r (ks++ [k]) s t↔uC r ks s t\/jW r k s t
 | [],s,t=>by rw[quD,qW,Df];simp
 | a::ks,s,t=>by rw[quv,qW,qW,La,or_assoc]
theorem Ht{α:Type}{R:α->α->Prop}{n:Nat}{s t:α} :Pow R (n+1) s t↔ ∃u,Pow R n s u/\R u t:=by
 induction n generalizing s with
 | zero=>
   constructor
   ·rintro⟨u,h1,h2⟩;cases h2;exact⟨s,rfl,h1⟩
   ·rintro⟨u,h1,h2⟩;cases h1;exact⟨t,h2,rfl⟩
 | succ n ih=>
   constructor
   ·rintro⟨u,h1,h2⟩
    obtain⟨v,h3,h4⟩:=ih.1 h2
    exact⟨v,⟨u,h1,h3⟩,h4⟩
   ·rintro⟨v,⟨u,h1,h3⟩,h4⟩
    exact⟨u,h1,ih.2 ⟨v,h3,h4⟩⟩
theorem Vk{α:Type}{R:α->α->Prop}{m n:Nat}{s t:α}(h:Pow R (m+n) s t):∃u,Pow R m s u/\Pow R n u t:=by
 induction m generalizing s with
 | zero=>exact⟨s,rfl,by rwa [quu]at h⟩
 | succ m ih=>
   rw[Nat.succ_add]at h
   obtain⟨v,h1,h2⟩:=h
   obtain⟨u,h3,h4⟩:=ih h2
   exact⟨u,⟨v,h1,h3⟩,h4⟩
def EQ(R:St3->St3->Prop)(base:List St3)(k:Nat)(t:St3):Prop:=∃u∈base,Pow (BI R) k u t
structure qio (R:St3->St3->Prop) (base:List St3) (j:Nat) (out new:List St3):Prop where
 o:∀t,t∈out↔ ∃k,k<=j/\EQ R base k t
 f:∀t∈new,EQ R base j t
 n:∀t,EQ R base j t->t∈new\/ ∃k,k < j/\EQ R base k t
theorem qax(R:St3->St3->Prop)(base:List St3):qio R base 0 base base:=by
 have h0:∀t,EQ R base 0 t↔t∈base:=fun t=>⟨fun⟨u,h1,h2⟩=>by cases h2;exact h1,fun h=>⟨t,h,rfl⟩⟩
 refine⟨fun t=>⟨fun h=>⟨0,qtP _,(h0 t).2 h⟩,?_⟩,fun t h=>(h0 t).2 h,fun t h=> .inl ((h0 t).1 h)⟩
 rintro⟨k,hk,h⟩
 obtain rfl:k=0:=by omega
 exact(h0 t).1 h
theorem Hp{R:St3->St3->Prop}{base:List St3}{k:Nat}{t:St3} :EQ R base (k+1) t↔ ∃a,EQ R base k a/\BI R a t:=by
 constructor
 ·rintro⟨u,h1,h2⟩
  obtain⟨a,h3,h4⟩:=Ht.1 h2
  exact⟨a,⟨u,h1,h3⟩,h4⟩
 ·rintro⟨a,⟨u,h1,h3⟩,h4⟩
  exact⟨u,h1,Ht.2 ⟨a,h3,h4⟩⟩
theorem qay{R:St3->St3->Prop}{base out new out' new':List St3}{j:Nat}(h:qio R base j out new)(h1:∀t,t∈new'↔t∉out/\∃a∈new,BI R a t)(h2:∀t,t∈out'↔t∈out\/t∈new'):qio R base (j+1) out' new':=by
 have key:∀t,EQ R base (j+1) t->t∈new'\/t∈out:=fun t ht=>by
  obtain⟨a,ha,hs⟩:=Hp.1 ht
  by_cases ho:t∈out
  ·exact .inr ho
  ·rcases h.n a ha with hn|⟨k,hk,hr⟩
   ·exact .inl ((h1 t).2 ⟨ho,a,hn,hs⟩)
   ·exact .inr ((h.o t).2 ⟨k+1,by omega,Hp.2 ⟨a,hr,hs⟩⟩)
 have new_r:∀t∈new',EQ R base (j+1) t:=fun t ht=>by
  obtain⟨_,a,ha,hs⟩:=(h1 t).1 ht
  exact Hp.2 ⟨a,h.f a ha,hs⟩
 refine⟨fun t=>?_,new_r,fun t ht=>?_⟩
 ·rw[h2]
  constructor
  ·rintro(ho|hn)
   ·obtain⟨k,hk,hr⟩:=(h.o t).1 ho
    exact⟨k,by omega,hr⟩
   ·exact⟨j+1,qtP _,new_r t hn⟩
  ·rintro⟨k,hk,hr⟩
   by_cases e:k=j+1
   ·subst e;exact(key t hr).symm
   ·exact .inl ((h.o t).2 ⟨k,by omega,hr⟩)
 ·rcases key t ht with hn|ho
  ·exact .inl hn
  ·obtain⟨k,hk,hr⟩:=(h.o t).1 ho
   exact .inr ⟨k,by omega,hr⟩
theorem qaz{R:St3->St3->Prop}{base out:List St3}{j:Nat}(h:qio R base j out [])(t:St3):t∈out↔ ∃k,EQ R base k t:=by
 constructor
 ·intro ht
  obtain⟨k,_,hr⟩:=(h.o t).1 ht
  exact⟨k,hr⟩
 ·rintro⟨k,hr⟩
  induction k using Nat.strongRecOn with
  | _ k ih=>
    by_cases hk:k<=j
    ·exact(h.o t).2 ⟨k,hk,hr⟩
    ·obtain⟨u,hu,hp⟩:=hr
     obtain⟨a,h1,h2⟩:=Vk (m:=j) (n:=k -j) (by rwa [show j+ (k -j)=k by omega])
     rcases h.n a ⟨u,hu,h1⟩with hn|⟨i,hi,v,hv,h3⟩
     ·cases hn
     ·exact ih (i+ (k -j)) (by omega) ⟨v,hv,h3.add h2⟩
theorem Yv{R:St3->St3->Prop}{base:List St3}{mn mx:Int}{s:St3}(hb:∀u,u∈base↔Pow R mn.toNat s u)(t:St3):wS R mn mx s t↔ ∃k:Nat,(mx < 0\/mn+k<=mx)/\EQ R base k t:=by
 constructor
 ·rintro⟨u,h1,k,h2,h3⟩
  exact⟨k,h2,u,(hb u).2 h1,h3⟩
 ·rintro⟨k,h2,u,h1,h3⟩
  exact⟨u,(hb u).1 h1,k,h2,h3⟩
end Go.Gv

namespace Go.Gv
open Go.Proofs
open Cod (enc dec)
variable {S S0:Nat->Spc}
def qa8(n:Nat)(r:Rn)(es:List D)(x:D×St3):Prop:=qdQ r/\zA r es/\QB r.en x.2/\∃p,qN x.1 p/\p.op=6/\fe p<=n+1/\jv (qbu r) p
abbrev qed(n:Nat):Spc:=qi2 (aD (a1 St3)) qgA (qa8 n) Uq
abbrev b_mtok:Spc:=qeF (a2 Pat St3) Ut (xb (Y:=St3) (Z:=Bool)) Qt
abbrev b_manc:Spc:=qeF (a2 Pat Int) qbb (enc (X:=Bool)) qa2
theorem VK{d d':D}{s s':St3}(h:IX (.agg [d, .v (.int .i64 s.p), .v (.int .i64 s.b0), .v (.int .i64 s.b1), .v (.int .i64 s.b2)]) (.agg [d', .v (.int .i64 s'.p), .v (.int .i64 s'.b0), .v (.int .i64 s'.b1), .v (.int .i64 s'.b2)])){p p':Pat}(hp:qN d p)(hp':qN d' p'):p=p'/\s=s':=by
 obtain⟨tp,I,w,x,h1,h2⟩:=h
 obtain⟨xs,rfl,hl,hc⟩:=h1.inv_agg
 obtain⟨ys,he,hl2,hc2⟩:=h2.inv_agg
 have hxy:xs=ys:=by simpa using he
 subst hxy
 match xs,hl with
 | [x0,x1,x2,x3,x4],_=>
   have a0:=(hc 0 _ _ rfl rfl).2
   have b0:=(hc2 0 _ _ rfl rfl).2
   have e1:=(hc 1 _ _ rfl rfl).2.inv_v.symm.trans (hc2 1 _ _ rfl rfl).2.inv_v
   have e2:=(hc 2 _ _ rfl rfl).2.inv_v.symm.trans (hc2 2 _ _ rfl rfl).2.inv_v
   have e3:=(hc 3 _ _ rfl rfl).2.inv_v.symm.trans (hc2 3 _ _ rfl rfl).2.inv_v
   have e4:=(hc 4 _ _ rfl rfl).2.inv_v.symm.trans (hc2 4 _ _ rfl rfl).2.inv_v
   simp only[qvL,true_and]at e1 e2 e3 e4
   obtain⟨a,b,c,d⟩:=s
   obtain⟨a',b',c',d'⟩:=s'
   simp only at e1 e2 e3 e4
   subst e1;subst e2;subst e3;subst e4
   exact⟨Vh hp hp' a0 b0,rfl⟩
abbrev qru:List KK:=[.ptr, .int .i64, .int .i64, .int .i64, .int .i64]
theorem Mh{d:D}{p:Pat}(h:qN d p):ZP .ptr d=true:=by
 obtain⟨cs,off,rfl,h1,_⟩:=h
 show decide (cs.length≠1)=true
 rw[decide_eq_true_iff]
 omega
theorem OU{r:Rn}{es:List D}(h:zA r es):es.all (Pq true qru)=true:=by
 rw[qtL]
 intro e he
 obtain⟨d,p,s,l,hp,rfl,_⟩:=h e he
 have:=Mh hp
 simp[Pq,JT,nq,RZ,this]
 exact⟨rfl,rfl,rfl,rfl⟩
theorem VN{r:Rn}{es:List D}{d:D}{p:Pat}{s:St3}{K:D->Prop}(h:zA r es)(hp:qN d p)(h1:∀l:List St3,l.Nodup->(∀t,t∈l↔jW r p s t)->K (.tup [.mp (bc l), .v (.bool true)]))(h2:K (.tup [.v (.map none), .v (.bool false)])):
 vZ true false true qru [.map none] (.agg [d, .v (.int .i64 s.p), .v (.int .i64 s.b0), .v (.int .i64 s.b1), .v (.int .i64 s.b2)]) es K:=by
 refine⟨OU h,?_,fun k' v hm hq=>?_,fun _=>h2⟩
 ·have:=Mh hp
  simp[JT,nq,RZ,this]
  exact⟨rfl,rfl,rfl,rfl⟩
 ·obtain⟨d',p',s',l,hp',e,hn,hl⟩:=h _ hm
  simp only[D.tup.injEq,qt5,and_true]at e
  obtain⟨rfl,rfl⟩:=e
  obtain⟨rfl,rfl⟩:=VK hq hp hp'
  exact h1 l hn hl
theorem Xn{r:Rn}{es:List D}{d:D}{p:Pat}{s:St3}{l:List St3}{K:List D->Prop}(h:zA r es)(hp:qN d p)(hn:l.Nodup)(hl:∀t,t∈l↔jW r p s t)(h1:∀es',zA r es'->K es'):
 Ai true qru (.agg [d, .v (.int .i64 s.p), .v (.int .i64 s.b0), .v (.int .i64 s.b1), .v (.int .i64 s.b2)]) (.mp (bc l)) es K:=by
 refine⟨OU h,?_,fun l1 k' v' l2 e hq=>h1 _ fun x hx=>?_,fun _=>h1 _ fun x hx=>?_⟩
 ·have:=Mh hp
  simp[JT,nq,RZ,this]
  exact⟨rfl,rfl,rfl,rfl⟩
 ·rcases qtK.1 hx with hx|hx
  ·exact h x (by rw[e];simp[hx])
  ·rcases qtM.1 hx with rfl|hx
   ·exact⟨d,p,s,l,hp,rfl,hn,hl⟩
   ·exact h x (by rw[e];simp[hx])
 ·rcases qtK.1 hx with hx|hx
  ·exact h x hx
  ·simp at hx
   subst hx
   exact⟨d,p,s,l,hp,rfl,hn,hl⟩
theorem KA{cs:List D}{off:Nat}{p:Pat}(hl:off+13<=cs.length)(hc:(cs.drop off).take 13=(enc p).cells):
 cs[off]? =some (.v (.int .i64 p.op))/\cs[off+10]? =some (.v (.int .i64 p.mn))/\cs[off+11]? =some (.v (.int .i64 p.mx))/\cs[off+12]? =some (.list 13 (p.kids.map enc)):=by
 refine⟨?_,?_,?_,?_⟩
 ·have:=vN hl hc (j:=0) (by decide)
  rw[quS]at this
  rw[this];simp
 ·rw[vN hl hc (j:=10) (by decide)];simp
 ·rw[vN hl hc (j:=11) (by decide)];simp
 ·rw[vN hl hc (j:=12) (by decide)];simp
theorem jY(q:Pat):qN (.cptr [.v (.int .i64 q.op), .v (.int .i64 q.cond.op), .v (.string q.cond.name), .v (.string q.cond.arg), .v (.string q.cond.val), .v (.string q.cond.lab), .v (.bool q.cond.fold), .list 7 (q.cond.kids.map enc), .v (.string q.lab), .v (.string q.reg), .v (.int .i64 q.mn), .v (.int .i64 q.mx), .list 13 (q.kids.map enc)] 0) q:=
 ⟨_,_,rfl,qtP _,by simp⟩
theorem qbA(n:Nat)(h1:S ig=b_mtok)(h2:S fX=b_manc)(h3:S jr=Rh n)(h4:S cF=Kl n)(h5:S kT=qed n):Np lm kN S (aD (a1 St3)) qgA (Uu (n+1)) Uq:=by
 rintro b r v es ⟨d,s⟩ ⟨hr,hm,hs,p,hp,hpn,hpa⟩
 have hp':=hp
 obtain⟨cs,off,hd,hl13,hc13⟩:=hp'
 have hd:d= .cptr cs off:=hd
 subst hd
 have hp:qN (.cptr cs off) p:=hp
 obtain⟨c0,c10,c11,c12⟩:=KA hl13 hc13
 simp[lm,kN,Cw, -Bool.forall_bool, -Bool.exists_bool]
 refine VN hm hp (fun l hn hl=>?_) ?_
 ·simp[-Bool.forall_bool, -Bool.exists_bool]
  exact K3 v es l (.same _) (by simp[ah]) (by simp[ah]) ⟨hm,hn,fun p' hp''=>by obtain rfl:=qE hp hp'';exact hl⟩
 simp[-Bool.forall_bool, -Bool.exists_bool]
 intro v1
 refine jj (X:=Value×List D×List St3) [0,1,5] [] [28] [] (fun x=>zA r x.2.1/\x.2.2.Nodup/\∀t,t∈x.2.2↔jW r p s t) (fun x=>[(9, .mp (bc x.2.2))]) (fun x=>[(0, .box b (ku r (.own 990 x.1))),(990, .mrow x.1 x.2.1)]) [0,990] (fun _=>rfl) (by decide) ?_ ?_
 ·have hnd:=(jl hpa).nd
  have hops:p.op=1\/p.op=2\/p.op=3\/p.op=4\/p.op=5\/p.op=6:=by
   rcases hnd with h|h|h|h
   ·exact .inl h.1
   ·rcases h.1 with h|h
    ·exact .inr (.inl h)
    ·exact .inr (.inr (.inl h))
   ·rcases h.1 with h|h
    ·exact .inr (.inr (.inr (.inl h)))
    ·exact .inr (.inr (.inr (.inr (.inl h))))
   ·exact .inr (.inr (.inr (.inr (.inr h.1))))
  have hlo:off+1<=cs.length:=by omega
  have hl12:off+12+1<=cs.length:=by omega
  have hdp:dec (X:=Pat) (.agg ((cs.drop off).take 13))=some p:=by rw[hc13,<-rU,Cod.dec_enc]
  have hs:QB r.en s:=hs
  have hen:=hr.en
  have hOk:qkX s:=⟨hs.1,by have:=hs.2.1;omega,fun i=>⟨(hs.2.2 i).1,by have:=(hs.2.2 i).2;omega⟩⟩
  have hRn:∀k,qhl (.cptr (ku r k) 0):=fun k=>⟨r,k,rfl,hr.l3⟩
  rcases hops with e|e|e|e|e|e
  all_goals rw[e]at c0
  ·have hPt:Ut (.cptr (ku r (.own 990 v)) 0,p,s):=⟨⟨r,_,rfl,hr.l3,hr.sz,(jl hpa).lab,(jl hpa).tok e s hs⟩,hOk⟩
   simp[c0,h1,OE,hlo,hl13,hdp,hPt, -Bool.forall_bool, -Bool.exists_bool]
   intro a y hQ b2
   obtain⟨q1,q2⟩:=hQ r _ rfl
   refine⟨fun hy=>?_,fun hy=>?_⟩
   ·subst hy
    obtain⟨q3,q4⟩:=q1.1 rfl
    have q5:a=Ed r p s:=q2 rfl
    subst q5
    exact⟨v,es, [Ed r p s],⟨hm,by simp,fun t=>by rw[qeB e];simp[q3,q4]⟩,uV (by simp[FT,ah]), .inl (.inl rfl), .inl (.inl rfl)⟩
   ·subst hy
    refine⟨v,es, [],⟨hm,by simp,fun t=>?_⟩,uV (by simp[FT,ah,rb]), .inl (.inl rfl), .inl (.inl rfl)⟩
    rw[qeB e]
    constructor
    ·intro h;cases h
    ·rintro⟨q3,q4,_⟩
     cases q1.2 ⟨q3,q4⟩
  ·simp[c0,h2,hlo,hl13,hdp,hRn, -Bool.forall_bool, -Bool.exists_bool]
   intro y hQ
   obtain q1:y=Sp r p s.p:=hQ r _ rfl
   refine⟨fun hy=>?_,fun hy=>?_⟩
   ·exact⟨v,es, [s],⟨hm,by simp,fun t=>by rw[M4 (.inl e),<-q1,hy];simp⟩,uV (by simp[FT,ah]), .inl (.inl rfl), .inl (.inl rfl)⟩
   ·exact⟨v,es, [],⟨hm,by simp,fun t=>by rw[M4 (.inl e),<-q1,hy];simp⟩,uV (by simp[FT,ah,rb]), .inl (.inl rfl), .inl (.inl rfl)⟩
  ·simp[c0,h2,hlo,hl13,hdp,hRn, -Bool.forall_bool, -Bool.exists_bool]
   intro y hQ
   obtain q1:y=Sp r p s.p:=hQ r _ rfl
   refine⟨fun hy=>?_,fun hy=>?_⟩
   ·exact⟨v,es, [s],⟨hm,by simp,fun t=>by rw[M4 (.inr e),<-q1,hy];simp⟩,uV (by simp[FT,ah]), .inl (.inl rfl), .inl (.inl rfl)⟩
   ·exact⟨v,es, [],⟨hm,by simp,fun t=>by rw[M4 (.inr e),<-q1,hy];simp⟩,uV (by simp[FT,ah,rb]), .inl (.inl rfl), .inl (.inl rfl)⟩
  ·simp[c0,hlo, -Bool.forall_bool, -Bool.exists_bool]
   refine jj (X:=Unit) [0,1,5] [0,990] [28] [] (fun _=>True) (fun _=>[(9, .mp (bc [s]))]) (fun _=>[]) [] (fun _=>rfl) (by decide) ?_ ?_
   ·simp[-Bool.forall_bool, -Bool.exists_bool]
    exact uV (by simp[FT,ah])
   rintro⟨⟩ -
   simp[c12,hlo,hl12, -Bool.forall_bool, -Bool.exists_bool]
   intro hkl
   refine ai (X:=Value×List D×List St3) [0,1,5] [] p.kids.length (fun k x=>zA r x.2.1/\x.2.2.Nodup/\∀t,t∈x.2.2↔uB r (p.kids.take k) s t) (fun x=>[(9, .mp (bc x.2.2))]) (fun x=>[(0, .box b (ku r (.own 990 x.1))),(990, .mrow x.1 x.2.1)]) (v,es, [s]) (by simp) (by simp) (by omega) (by simp) (by simp)
    ⟨hm,by simp,fun t=>by rw[qvn,pB];simp[eq_comm]⟩ (by simp) (by simp) ?_ ?_
   ·rintro k ⟨v2,es2,l⟩ hk ⟨hm2,hn2,hl2⟩
    simp only at hm2 hn2 hl2
    obtain⟨q,hq⟩:∃q,p.kids[k]? =some q:=⟨_,qtH hk⟩
    obtain⟨_,hgq⟩:=qtG.1 hq
    have hqm:q∈p.kids:=qtJ hq
    simp[hk,hgq,c12,hlo,hl12,h3,AP,Cw, -Bool.forall_bool, -Bool.exists_bool]
    refine⟨⟨hr,hm2,⟨l,rfl,fun t ht=>MI r _ _ _ ((hl2 t).1 ht) hs⟩,q,jY q,by have:=jZ hqm;omega,pr hpa hqm⟩,fun v3 es3 ys hQ=>⟨v3,es3,ys,⟨hQ.1,hQ.2.1,fun t=>?_⟩,rfl, .inl rfl, .inl ⟨rfl,rfl⟩⟩⟩
    rw[bM hq,Ev,hQ.2.2 q l (jY q) rfl t]
    exact⟨fun⟨u,h1,h2⟩=>⟨u,(hl2 u).1 h1,h2⟩,fun⟨u,h1,h2⟩=>⟨u,(hl2 u).2 h1,h2⟩⟩
   ·rintro⟨v2,es2,l⟩ ⟨hm2,hn2,hl2⟩
    simp only at hm2 hn2 hl2
    simp[-Bool.forall_bool, -Bool.exists_bool]
    exact⟨v2,es2,l,⟨hm2,hn2,fun t=>by rw[qeA e,hl2,quj]⟩, .same _, .inl (.inl rfl), .inl (.inl rfl)⟩
  ·simp[c0,c12,hlo,hl12, -Bool.forall_bool, -Bool.exists_bool]
   intro hkl
   refine ai (X:=Value×List D×List St3) [0,1,5,9] [] p.kids.length (fun k x=>zA r x.2.1/\x.2.2.Nodup/\∀t,t∈x.2.2↔uC r (p.kids.take k) s t) (fun x=>[]) (fun x=>[(0, .box b (ku r (.own 990 x.1))),(990, .mrow x.1 x.2.1),(28, .mrow v1 (bc x.2.2))]) (v,es, []) (by simp) (by simp) (by omega) (by simp) (by simp)
    ⟨hm,by simp,fun t=>by rw[qvn,Df];simp⟩ (by simp) (by simp[rb]) ?_ ?_
   ·rintro k ⟨v2,es2,l⟩ hk ⟨hm2,hn2,hl2⟩
    simp only at hm2 hn2 hl2
    obtain⟨q,hq⟩:∃q,p.kids[k]? =some q:=⟨_,qtH hk⟩
    obtain⟨_,hgq⟩:=qtG.1 hq
    have hqm:q∈p.kids:=qtJ hq
    simp[hk,hgq,c12,hlo,hl12,h4,AP,Cw, -Bool.forall_bool, -Bool.exists_bool]
    refine⟨⟨hr,hm2,hs,q,jY q,by have:=jZ hqm;omega,pr hpa hqm⟩,fun v3 es3 ys hQ b2=>?_⟩
    have hys:=hQ.2.2 q (jY q)
    refine ar (X:=List St3×List D×List St3) [0,1,5,9,91,92,104] [0,990] (fun x=>x.1.Nodup/\(∀t∈x.2.2,t∈ys)/\(∀t∈l,t∈x.1)/\(∀t∈x.1,t∈l\/t∈ys)/\∀t∈ys,t∈x.2.2\/t∈x.1)
     (fun _=>[]) (fun x=>[(28, .mrow v1 (bc x.1)),(104, .miter b2 x.2.1 (bc x.2.2))]) (fun x=>x.2.2.length) (l, [],ys)
     ⟨hn2,fun _ h=>h,fun _ h=>h,fun _ h=> .inl h,fun _ h=> .inl h⟩ (by simp) (by simp) ?_
    rintro⟨out2,cur2,left2⟩ ⟨g1,g2,g3,g4,g5⟩
    simp only at g1 g2 g3 g4 g5
    simp[-Bool.forall_bool, -Bool.exists_bool]
    refine⟨fun h0=>?_,fun l1 x l2 hsp2=>?_⟩
    ·have hlz:=eJ h0
     subst hlz
     refine⟨v3,es3,out2,⟨hQ.1,g1,fun t=>?_⟩, .inl rfl, .inl ⟨rfl,rfl⟩, .inl rfl⟩
     rw[bM hq,La,<-hl2,<-hys]
     exact⟨g4 t,fun h=>h.elim (g3 t) fun h=>(g5 t h).elim (fun h=>by cases h) id⟩
    ·obtain⟨a2,t,c2,rfl,rfl,rfl,rfl⟩:=fI hsp2
     simp[-Bool.forall_bool, -Bool.exists_bool]
     refine⟨wh t out2,_,a2++c2,⟨wg g1,fun x h=>g2 x (by simp only[qtK,qtM]at h ⊢;rcases h with h|h <;> simp[h]),fun x hx=>dS.2 (.inr (g3 x hx)),fun x hx=>?_,fun x hx=>?_⟩,⟨.inl rfl, .inl ⟨rfl,(gm a2 c2).symm⟩⟩,by simp⟩
     ·rcases dS.1 hx with rfl|h
      ·exact .inr (g2 x (by simp))
      ·exact g4 x h
     ·rcases g5 x hx with h|h
      ·rcases qtK.1 h with h|h
       ·exact .inl (by simp[h])
       ·rcases qtM.1 h with rfl|h
        ·exact .inr (dS.2 (.inl rfl))
        ·exact .inl (by simp[h])
      ·exact .inr (dS.2 (.inr h))
   ·rintro⟨v2,es2,l⟩ ⟨hm2,hn2,hl2⟩
    simp only at hm2 hn2 hl2
    simp[-Bool.forall_bool, -Bool.exists_bool]
    exact⟨v2,es2,l,⟨hm2,hn2,fun t=>by rw[qez e,hl2,quj]⟩,uV (by simp[FT,ah]), .inl (.inl rfl), .inl (.inl rfl)⟩
  ·have hPr:qa8 n r es (.cptr cs off,s):=⟨hr,hm,hs,p,hp,e,hpn,hpa⟩
   simp[c0,h5,AP,hlo,hPr,Cw, -Bool.forall_bool, -Bool.exists_bool]
   exact fun v2 es2 y hQ=>⟨v2,es2,y,⟨hQ.1,hQ.2.1,hQ.2.2 p hp⟩, .same _, .inl (.inl rfl), .inl (.inl rfl)⟩
 ·rintro⟨v2,es2,l⟩ ⟨hm2,hn,hl⟩
  simp only at hm2 hn hl
  simp[-Bool.forall_bool, -Bool.exists_bool]
  refine Xn hm2 hp hn hl fun es3 hm3=>?_
  exact K3 v2 es3 l (.same _) (by simp[ah]) (by simp[ah]) ⟨hm3,hn,fun p' hp''=>by obtain rfl:=qE hp hp'';exact hl⟩
end Go.Gv
