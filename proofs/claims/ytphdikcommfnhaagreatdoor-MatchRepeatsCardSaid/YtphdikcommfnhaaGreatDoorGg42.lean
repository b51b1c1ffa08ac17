/- A part of the framework and of the walks: W185 W21. -/
import Derived.Shelf.SlSortCmp.NoneTotal
import Derived.Test.YtphdikcommfnhaaGreatDoorGg41
import Derived.Test.YtphdikcommfnhaaGreatDoorGg25
set_option linter.unusedSimpArgs false
set_option linter.unusedVariables false
set_option linter.unusedSectionVars false
set_option maxRecDepth 100000

namespace Go.Gv
open Go.Proofs
open Cod (enc dec)
variable {S S0:Nat->Spc}
def qeP(x:D×Unit)(l:List D):Prop:=∃a c:List St3,x.1= .mp (bc c)/\l=bc a/\a.Nodup
def qeM(x:D×Unit)(l l':List D):Prop:=∀a c:List St3,x.1= .mp (bc c)->l=bc a->∃q:List St3,l'=bc q/\q.Nodup/\∀t,t∈q↔t∈a\/t∈c
abbrev X8:Spc:=qpj (aD a0) qeP qeM
theorem qe6:qaU nj mi S (aD a0) qeP qeM:=by
 rintro v l ⟨d,⟨⟩⟩ ⟨a,c,hd,hl,hn⟩
 have hd:d= .mp (bc c):=hd
 subst hd;subst hl
 simp[nj,mi, -Bool.forall_bool, -Bool.exists_bool]
 intro b1
 refine ar (X:=List St3×List D×List St3) [0,7] [] (fun x=>x.1.Nodup/\(∀t∈x.2.2,t∈c)/\(∀t∈a,t∈x.1)/\(∀t∈x.1,t∈a\/t∈c)/\∀t∈c,t∈x.2.2\/t∈x.1)
  (fun _=>[]) (fun x=>[(0, .mrow v (bc x.1)),(7, .miter b1 x.2.1 (bc x.2.2))]) (fun x=>x.2.2.length) (a, [],c)
  ⟨hn,fun _ h=>h,fun _ h=>h,fun _ h=> .inl h,fun _ h=> .inl h⟩ (by simp) (by simp) ?_
 rintro⟨out2,cur2,left2⟩ ⟨g1,g2,g3,g4,g5⟩
 simp only at g1 g2 g3 g4 g5
 simp[-Bool.forall_bool, -Bool.exists_bool]
 refine⟨fun h0=>?_,fun l1 x l2 hsp2=>?_⟩
 ·have hlz:=eJ h0
  subst hlz
  refine⟨bc out2,rfl,by simp[ah],fun a' c' h1 h2=>?_⟩
  have h1:D.mp (bc c)= .mp (bc c'):=h1
  obtain rfl:=G3 (D.mp.inj h1)
  obtain rfl:=G3 h2
  exact⟨out2,rfl,g1,fun t=>⟨g4 t,fun h=>h.elim (g3 t) fun h=>(g5 t h).elim (fun h=>by cases h) id⟩⟩
 ·obtain⟨a2,t,c2,rfl,rfl,rfl,rfl⟩:=fI hsp2
  simp[-Bool.forall_bool, -Bool.exists_bool]
  refine⟨wh t out2,_,a2++c2,⟨wg g1,fun x h=>g2 x (by simp only[qtK,qtM]at h ⊢;rcases h with h|h <;> simp[h]),fun x hx=>dS.2 (.inr (g3 x hx)),fun x hx=>?_,fun x hx=>?_⟩,⟨.inl rfl, .inl ⟨rfl,(gm a2 c2).symm⟩⟩,by simp⟩
  ·rcases dS.1 hx with rfl|h
   ·exact .inr (g2 x (by simp))
   ·exact g4 x h
  ·rcases g5 x hx with h|h
   ·rcases qtK.1 h with h|h
    ·exact .inl (by simp[h])
    ·rcases qtM.1 h with rfl|h
     ·exact .inr (dS.2 (.inl rfl))
     ·exact .inl (by simp[h])
   ·exact .inr (dS.2 (.inr h))
abbrev kp(q:Pat):D:= .cptr [.v (.int .i64 q.op), .v (.int .i64 q.cond.op), .v (.string q.cond.name), .v (.string q.cond.arg), .v (.string q.cond.val), .v (.string q.cond.lab), .v (.bool q.cond.fold), .list 7 (q.cond.kids.map enc), .v (.string q.lab), .v (.string q.reg), .v (.int .i64 q.mn), .v (.int .i64 q.mx), .list 13 (q.kids.map enc)] 0
theorem Eh{p:Pat} :Ao p=true↔p.op=6/\p.mx < 0/\p.mn<=1:=by
 unfold Ao
 simp[and_assoc]
theorem qiv(n:Nat)(h1:S wu=SU)(h3:S jr=Rh n)(h4:S cF=Kl n)(h5:S th=clC)(h6:S nX=X8):Np jP jB S (aD (a1 St3)) qgA (qa8 n) Uq:=by
 rintro b r v es ⟨d,s⟩ ⟨hr,hm,hs,p,hp,hop,hpn,hpa⟩
 have hp':=hp
 obtain⟨cs,off,hd,hl13,hc13⟩:=hp'
 have hd:d= .cptr cs off:=hd
 subst hd
 have hp:qN (.cptr cs off) p:=hp
 have hs:QB r.en s:=hs
 have hen:=hr.en
 obtain⟨c0,c10,c11,c12⟩:=KA hl13 hc13
 have hl10:off+10+1<=cs.length:=by omega
 have hl11:off+11+1<=cs.length:=by omega
 have hl12:off+12+1<=cs.length:=by omega
 have hM:=jl hpa
 obtain⟨k0,hk0⟩:∃k,p.kids=[k]:=by
  rcases hM.nd with h|h|h|h
  ·have:=h.1;omega
  ·have:=h.1;omega
  ·have:=h.1;omega
  ·obtain⟨_,_,_,_,h⟩:=h
   match hk:p.kids,h with
   | [k],_=>exact⟨k,rfl⟩
 have hnum:0<=p.mn/\p.mn<=16/\(p.mx= -1\/p.mn<=p.mx/\p.mx<=16):=of_decide_eq_true hM.num hop
 have hk0m:k0∈p.kids:=by rw[hk0];simp
 have hk0d:=jZ hk0m
 simp[jP,jB,Cw,c10,c12,hl10,hl12,hk0, -Bool.forall_bool, -Bool.exists_bool]
 have inv0:∀s t,jW r p s t↔wS (jW r k0) p.mn p.mx s t:=qaa hop hk0
 refine ba (X:=Int×Pat) [0,1,5] [0,990] (fun x=>fe x.2<=n/\jv (qbu r) x.2/\0<=x.1/\x.1<=16/\(0<=p.mx->x.1<=p.mx)/\(Ao p=true->x.1<=1)/\∀s t,jW r p s t↔wS (jW r x.2) x.1 p.mx s t)
  (fun x=>[(7, .v (.int .i64 x.1)),(8,kp x.2)]) (fun _=>[]) ?_ ?_
 ·simp[-Bool.forall_bool, -Bool.exists_bool]
  refine ar (X:=Int×Pat) [0,1,5] [0,990] (fun x=>fe x.2<=n/\jv (qbu r) x.2/\0<=x.1/\x.1<=16/\(0<=p.mx->x.1<=p.mx)/\(Ao p=true->x.1<=1)/\∀s t,jW r p s t↔wS (jW r x.2) x.1 p.mx s t)
   (fun x=>[(7, .v (.int .i64 x.1)),(8,kp x.2)]) (fun _=>[]) (fun x=>fe x.2) (p.mn,k0)
   ⟨by show fe k0<=n;omega,pr hpa hk0m,hnum.1,hnum.2.1,fun h=>by show p.mn<=p.mx;omega,fun h=>(Eh.1 h).2.2,inv0⟩ (by simp) (by simp) ?_
  rintro⟨m,q⟩ ⟨g1,g2,g3,g4,g7,g5,g6⟩
  simp only at g1 g2 g3 g4 g5 g6 g7
  simp[h1, -Bool.forall_bool, -Bool.exists_bool]
  have hnow:∀q':Pat,q'=q->(fe q'<=n/\jv (qbu r) q'/\0<=m/\m<=16/\(0<=p.mx->m<=p.mx)/\(Ao p=true->m<=1)/\∀s t,jW r p s t↔wS (jW r q') m p.mx s t):=fun q' e=>by subst e;exact⟨g1,g2,g3,g4,g7,g5,g6⟩
  refine⟨⟨p,hp⟩,fun y1 hy1=>⟨fun e1=>⟨⟨q,jY q⟩,fun y2 hy2=>⟨fun e2=>?_,fun e2=>⟨m,q,hnow q rfl,by simp⟩⟩⟩,fun e1=>⟨m,q,hnow q rfl,by simp⟩⟩⟩
  have e1:=(hy1 p hp).symm.trans e1
  have e2:=(hy2 q (jY q)).symm.trans e2
  obtain⟨_,px,pm⟩:=Eh.1 e1
  obtain⟨qo,qx,qm⟩:=Eh.1 e2
  have hpx:p.mx= -1:=by omega
  have hMq:=jl g2
  obtain⟨q1,hq1⟩:∃k,q.kids=[k]:=by
   rcases hMq.nd with h|h|h|h
   ·have:=h.1;omega
   ·have:=h.1;omega
   ·have:=h.1;omega
   ·obtain⟨_,_,_,_,h⟩:=h
    match hk:q.kids,h with
    | [k],_=>exact⟨k,rfl⟩
  have qnum:0<=q.mn/\q.mn<=16/\(q.mx= -1\/q.mn<=q.mx/\q.mx<=16):=of_decide_eq_true hMq.num qo
  have hqx:q.mx= -1:=by omega
  have hq1m:q1∈q.kids:=by rw[hq1];simp
  have hq1d:=jZ hq1m
  have g5:=g5 e1
  have hDq:jW r q=wS (jW r q1) q.mn (-1):=by
   funext s t
   exact propext (by rw[<-hqx];exact qaa qo hq1 s t)
  have hmm:0<=m*q.mn/\m*q.mn<=1:=by
   have a:m=0\/m=1:=by omega
   have b:q.mn=0\/q.mn=1:=by omega
   rcases a with a|a <;> rcases b with b|b <;> rw[a,b] <;> decide
  refine⟨by simp only[InR];omega,by rw[hq1];simp,fun a ha=>?_⟩
  rw[hq1]at ha
  obtain rfl:q1=a:=by simpa using ha
  refine⟨m*q.mn,q1,⟨by omega,pr g2 hq1m,hmm.1,by omega,fun h=>by omega,fun _=>hmm.2,fun s t=>?_⟩,by simp,hq1d⟩
  rw[g6,hDq,hpx]
  exact qcg (yJ r q1) ⟨g3,g5⟩ ⟨qnum.1,qm⟩ s t
 rintro⟨m,q⟩ ⟨g1,g2,g3,g4,g7,g5,g6⟩
 simp only at g1 g2 g3 g4 g5 g6 g7
 clear inv0 g5 hk0 hk0m hk0d c12 hl12
 simp[-Bool.forall_bool, -Bool.exists_bool]
 refine jj (X:=Unit) [0,1,7,8] [0,990] [41] [] (fun _=>True) (fun _=>[(9, .mp (bc [s]))]) (fun _=>[]) [] (fun _=>rfl) (by decide) ?_ ?_
 ·simp[-Bool.forall_bool, -Bool.exists_bool]
  exact fun x=>uV (by simp[FT,ah])
 rintro⟨⟩ -
 obtain⟨M,rfl⟩:∃M:Nat,m=(M:Int):=⟨m.toNat,by omega⟩
 simp[-Bool.forall_bool, -Bool.exists_bool]
 refine ai (X:=Value×List D×List St3) [0,1,7,8] [] M (fun k x=>zA r x.2.1/\x.2.2.Nodup/\∀t,t∈x.2.2↔Pow (jW r q) k s t) (fun x=>[(9, .mp (bc x.2.2))]) (fun x=>[(0, .box b (ku r (.own 990 x.1))),(990, .mrow x.1 x.2.1)]) (v,es, [s]) (by simp) (by simp) (by omega) (by simp) (by simp)
  ⟨hm,by simp,fun t=>by simp[Pow,eq_comm]⟩ (by simp) (by simp) ?_ ?_
 ·rintro k ⟨v2,es2,l⟩ hk ⟨hm2,hn2,hl2⟩
  simp only at hm2 hn2 hl2
  simp[h3,AP,Cw, -Bool.forall_bool, -Bool.exists_bool]
  refine⟨⟨hr,hm2,⟨l,rfl,fun t ht=>we (rJ r q) _ _ _ ((hl2 t).1 ht) hs⟩,q,jY q,g1,g2⟩,fun v3 es3 ys hQ=>⟨v3,es3,ys,⟨hQ.1,hQ.2.1,fun t=>?_⟩,rfl, .inl rfl, .inl ⟨rfl,rfl⟩⟩⟩
  rw[Ht,hQ.2.2 q l (jY q) rfl t]
  exact⟨fun⟨u,h1,h2⟩=>⟨u,(hl2 u).1 h1,h2⟩,fun⟨u,h1,h2⟩=>⟨u,(hl2 u).2 h1,h2⟩⟩
 rintro⟨v2,es2,base⟩ ⟨hm2,hn2,hb⟩
 simp only at hm2 hn2 hb
 have hrep:∀t,jW r p s t↔ ∃k:Nat,(p.mx < 0\/(M:Int) +k<=p.mx)/\EQ (jW r q) base k t:=fun t=>by
  rw[g6 s t]
  exact Yv (mn:=(M:Int)) (fun u=>by rw[hb u];rfl) t
 have hbl:∀t∈base,QB r.en t:=fun t ht=>we (rJ r q) _ _ _ ((hb t).1 ht) hs
 clear hb g6
 have hbz:qio (jW r q) base 0 base base:=qax _ _
 have hrn:∀ {j:Nat} {t:St3},EQ (jW r q) base j t->QB r.en t/\(j:Int)<=t.p:=fun {j t} ⟨u,h1,h2⟩=>by
  have a:=hbl u h1
  have c:=we (R:=BI (jW r q)) (fun s t q=>rJ r _ s t q.1) j _ _ h2 a
  have d:=Bn h2
  have:=a.1
  exact⟨c,by omega⟩
 simp[h5, -Bool.forall_bool, -Bool.exists_bool]
 constructor
 ·intro h0
  have hlz:=eJ h0
  subst hlz
  refine ar (X:=Unit) [0,1,8,9,10,11] [0,990] (fun _=>True) (fun _=>[]) (fun _=>[]) (fun _=>0) () trivial (by simp) (by simp) ?_
  rintro⟨⟩ -
  refine ba (X:=Unit) [0] [] (fun _=>False) (fun _=>[]) (fun _=>[]) ?_ fun _ h=>h.elim
  simp[rb, -Bool.forall_bool, -Bool.exists_bool]
  refine K3 v2 es2 [] (.same _) (by simp[ah]) (by simp[ah]) ⟨hm2,qvp,fun p' hp' t=>?_⟩
  obtain rfl:=qE hp hp'
  rw[hrep]
  exact⟨fun h=>(by cases h),fun⟨k,_,u,hu,_⟩=>(by cases hu)⟩
 intro hne v5
 refine ar (X:=Nat×List St3×List St3×Value×List D) [0,1,8,10] [] (fun x=>(p.mx < 0\/(M:Int) +x.1<=p.mx)/\zA r x.2.2.2.2/\x.2.1.Nodup/\x.2.2.1.Nodup/\qio (jW r q) base x.1 x.2.1 x.2.2.1)
  (fun x=>[(9, .mp (bc x.2.2.1)),(11, .v (.int .i64 (M+x.1)))]) (fun x=>[(0, .box b (ku r (.own 990 x.2.2.2.1))),(990, .mrow x.2.2.2.1 x.2.2.2.2),(53, .mrow v5 (bc x.2.1))]) (fun x=>r.en.toNat+1 -x.1) (0,base,base,v2,es2)
  ⟨by show p.mx < 0\/(M:Int) + ((0:Nat):Int)<=p.mx;omega,hm2,hn2,hn2,hbz⟩ (by simp) (by simp) ?_
 rintro⟨j,out,new,v6,es6⟩ ⟨e1,hm6,ho6,hn6,hB⟩
 simp only at e1 hm6 ho6 hn6 hB
 have hjm:(new≠ []->(j:Int)<=r.en):=fun h=>by
  obtain⟨t,ht⟩:=List.exists_mem_of_ne_nil _ h
  obtain⟨a,c⟩:=hrn (hB.f t ht)
  have:=a.2.1
  omega
 refine ba (X:=Unit) [0,1,8,9,10,11] [0,990,53] (fun _=>new≠ []/\(p.mx < 0\/(M:Int) +j < p.mx)) (fun _=>[]) (fun _=>[]) ?_ ?_
 ·simp[c11,hl11, -Bool.forall_bool, -Bool.exists_bool]
  have hnz:0 < (bc new).length->¬new=[]:=fun h e=>by subst e;simp[bc]at h
  refine⟨fun h0=>⟨fun h1=>⟨fun h2=>⟨hnz h0, .inr h2⟩,fun h2=>?_⟩,fun h1=>⟨hnz h0, .inl h1⟩⟩,fun h0=>?_⟩
  ·refine K3 v6 es6 out (uV (by simp[ah])) (by simp[ah]) (by simp[ah]) ⟨hm6,ho6,fun p' hp' t=>?_⟩
   obtain rfl:=qE hp hp'
   rw[hrep,hB.o]
   exact⟨fun⟨k,h3,h4⟩=>⟨k, .inr (by omega),h4⟩,fun⟨k,h3,h4⟩=>⟨k,by omega,h4⟩⟩
  ·have hlz:=eJ h0
   subst hlz
   refine K3 v6 es6 out (uV (by simp[ah])) (by simp[ah]) (by simp[ah]) ⟨hm6,ho6,fun p' hp' t=>?_⟩
   obtain rfl:=qE hp hp'
   rw[hrep]
   constructor
   ·intro h
    obtain⟨k,h3,h4⟩:=(hB.o t).1 h
    exact⟨k,by omega,h4⟩
   ·rintro⟨k,_,h4⟩
    exact(qaz hB t).2 ⟨k,h4⟩
 rintro⟨⟩ ⟨hne,hgo⟩
 have hjr:=hjm hne
 simp[-Bool.forall_bool, -Bool.exists_bool]
 intro v7
 refine jj (X:=Value×List D×List St3) [0,1,8,10,11] [53] [75] [] (fun x=>zA r x.2.1/\x.2.2.Nodup/\∀t,t∈x.2.2↔t∉out/\∃a∈new,BI (jW r q) a t) (fun x=>[(12, .mp (bc x.2.2))]) (fun x=>[(0, .box b (ku r (.own 990 x.1))),(990, .mrow x.1 x.2.1)]) [0,990] (fun _=>rfl) (by decide) ?_ ?_
 ·simp[-Bool.forall_bool, -Bool.exists_bool]
  intro b7
  refine ar (X:=Value×List D×List St3×List D×List St3) [0,1,8,10,11,12,77] [53] (fun x=>zA r x.2.1/\x.2.2.1.Nodup/\(∀a∈x.2.2.2.2,a∈new)/\(∀t∈x.2.2.1,t∉out/\∃a∈new,BI (jW r q) a t)/\∀a∈new,a∈x.2.2.2.2\/ ∀t,BI (jW r q) a t->t∉out->t∈x.2.2.1)
   (fun _=>[]) (fun x=>[(0, .box b (ku r (.own 990 x.1))),(990, .mrow x.1 x.2.1),(75, .mrow v7 (bc x.2.2.1)),(77, .miter b7 x.2.2.2.1 (bc x.2.2.2.2))]) (fun x=>x.2.2.2.2.length) (v6,es6, [], [],new)
   ⟨hm6,qvp,fun _ h=>h,fun _ h=>(by cases h),fun s hs=> .inl hs⟩ (by simp) (by simp[rb]) ?_
  rintro⟨v8,es8,nxt,cur,left⟩ ⟨hm8,hn8,hl8,ho8,hd8⟩
  simp only at hm8 hn8 hl8 ho8 hd8
  simp[-Bool.forall_bool, -Bool.exists_bool]
  refine⟨fun h0=>?_,fun l1 x l2 hsp=>?_⟩
  ·have hlz:=eJ h0
   subst hlz
   refine⟨v8,es8,nxt,⟨hm8,hn8,fun t=>⟨ho8 t,fun⟨h3,a,h4,h5⟩=>(hd8 a h4).elim (fun h=>by cases h) fun h=>h t h5 h3⟩⟩,uV (by simp[FT,ah]), .inl (.inl rfl), .inl (.inl rfl)⟩
  ·obtain⟨a1,a,c1,rfl,rfl,rfl,rfl⟩:=fI hsp
   have ha:a∈new:=hl8 a (by simp)
   have haL:=(hrn (hB.f a ha)).1
   have hPr:Uu n r es8 (kp q,a):=⟨hr,hm8,haL,q,jY q,g1,g2⟩
   simp[h4,AP,hPr,Cw, -Bool.forall_bool, -Bool.exists_bool]
   intro b13 v9 es9 ys hQ b9
   have hys:=hQ.2.2 q (jY q)
   refine ar (X:=List St3×List D×List St3) [0,1,8,10,11,12,13,77,86] [0,990,13,53,77] (fun x=>x.1.Nodup/\(∀t∈x.2.2,t∈ys)/\(∀t∈nxt,t∈x.1)/\(∀t∈x.1,t∈nxt\/t∉out/\t∈ys/\a.p < t.p)/\∀t∈ys,t∈x.2.2\/(a.p < t.p->t∉out->t∈x.1))
    (fun _=>[]) (fun x=>[(75, .mrow v7 (bc x.1)),(86, .miter b9 x.2.1 (bc x.2.2))]) (fun x=>x.2.2.length) (nxt, [],ys)
    ⟨hn8,fun _ h=>h,fun _ h=>h,fun _ h=> .inl h,fun _ h=> .inl h⟩ (by simp) (by simp) ?_
   rintro⟨nx2,cur2,left2⟩ ⟨k1,k2,k3,k4,k5⟩
   simp only at k1 k2 k3 k4 k5
   simp[-Bool.forall_bool, -Bool.exists_bool]
   refine⟨fun h0=>?_,fun l1 x l2 hsp2=>?_⟩
   ·have hlz:=eJ h0
    subst hlz
    refine⟨v9,es9,nx2,_,a1++c1,⟨hQ.1,k1,fun x h=>hl8 x (by simp only[qtK,qtM]at h ⊢;rcases h with h|h <;> simp[h]),fun t ht=>?_,fun x hx=>?_⟩,⟨.inl rfl, .inl ⟨rfl,rfl⟩, .inl rfl, .inl ⟨rfl,(gm a1 c1).symm⟩⟩,by simp⟩
    ·rcases k4 t ht with h|⟨h,h',h''⟩
     ·exact ho8 t h
     ·exact⟨h,a,ha,(hys t).1 h',h''⟩
    ·rcases hd8 x hx with h|h
     ·rcases qtK.1 h with h|h
      ·exact .inl (by simp[h])
      ·rcases qtM.1 h with rfl|h
       ·exact .inr fun t ht hno=>(k5 t ((hys t).2 ht.1)).elim (fun h=>by cases h) fun h=>h ht.2 hno
       ·exact .inl (by simp[h])
     ·exact .inr fun t ht hno=>k3 t (h t ht hno)
   ·obtain⟨a2,t,c2,rfl,rfl,rfl,rfl⟩:=fI hsp2
    have hsub:∀x∈a2++c2,x∈ys:=fun x h=>k2 x (by simp only[qtK,qtM]at h ⊢;rcases h with h|h <;> simp[h])
    have ht:t∈ys:=k2 t (by simp)
    have hno:(a.p < t.p->t∉out->t∈nx2)->∀x∈ys,x∈a2++c2\/(a.p < x.p->x∉out->x∈nx2):=fun hh x hx=>by
     rcases k5 x hx with h|h
     ·rcases qtK.1 h with h|h
      ·exact .inl (by simp[h])
      ·rcases qtM.1 h with rfl|h
       ·exact .inr hh
       ·exact .inl (by simp[h])
     ·exact .inr h
    by_cases e3:a.p < t.p
    rotate_left
    ·simp[e3, -Bool.forall_bool, -Bool.exists_bool]
     exact⟨nx2,_,a2++c2,⟨k1,hsub,k3,k4,hno fun h=>absurd h e3⟩,⟨.inl rfl, .inl ⟨rfl,(gm a2 c2).symm⟩⟩,by simp⟩
    by_cases e4:t∈out
    ·simp[e3,e4, -Bool.forall_bool, -Bool.exists_bool]
     exact⟨nx2,_,a2++c2,⟨k1,hsub,k3,k4,hno fun _ h=>absurd e4 h⟩,⟨.inl rfl, .inl ⟨rfl,(gm a2 c2).symm⟩⟩,by simp⟩
    ·simp[e3,e4, -Bool.forall_bool, -Bool.exists_bool]
     refine⟨wh t nx2,_,a2++c2,⟨wg k1,hsub,fun x hx=>dS.2 (.inr (k3 x hx)),fun x hx=>?_,fun x hx=>?_⟩,⟨.inl rfl, .inl ⟨rfl,(gm a2 c2).symm⟩⟩,by simp⟩
     ·rcases dS.1 hx with rfl|h
      ·exact .inr ⟨e4,ht,e3⟩
      ·exact k4 x h
     ·rcases k5 x hx with h|h
      ·rcases qtK.1 h with h|h
       ·exact .inl (by simp[h])
       ·rcases qtM.1 h with rfl|h
        ·exact .inr fun _ _=>dS.2 (.inl rfl)
        ·exact .inl (by simp[h])
      ·exact .inr fun q1 q2=>dS.2 (.inr (h q1 q2))
 ·rintro⟨v8,es8,nxt⟩ ⟨hm8,hn8,hx8⟩
  simp only at hm8 hn8 hx8
  simp[h6, -Bool.forall_bool, -Bool.exists_bool]
  refine⟨⟨out,nxt,rfl,rfl,ho6⟩,fun l' hQ=>?_⟩
  obtain⟨out',rfl,ho',hx'⟩:=hQ out nxt rfl rfl
  exact⟨by simp only[InR];omega,j+1,out',nxt,v8,es8,⟨by omega,hm8,ho',hn8,qay hB hx8 hx'⟩,⟨⟨rfl,by omega⟩, .inl rfl, .inl ⟨rfl,rfl⟩, .inl rfl⟩,by omega⟩
end Go.Gv

namespace Go.Gv
open Cod (enc dec)
open Go.Proofs Go.Sort Go.Shelf Go.Lib Go.RowKit
theorem MV{α β:Type}{f:α->List β}{n:Nat} :∀ {l:List α},(∀x∈l,(f x).length=n)->∀ {i j:Nat},j < n->(l.flatMap f)[i*n+j]? =(l[i]?).bind fun x=>(f x)[j]?
 | [],_,i,j,_=>by simp
 | d::es,h,0,j,hj=>by
   have hd:=h d (by simp)
   simp only[quq,qwf,quu]
   rw[qt0 (by omega)]
   simp
 | d::es,h,i+1,j,hj=>by
   have hd:=h d (by simp)
   have ih:=MV (l:=es) (fun d hd=>h d (by simp[hd])) (i:=i) hj
   simp only[quq]
   rw[qtQ (by rw[hd,qun];omega),hd]
   have:(i+1) *n+j -n=i*n+j:=by rw[qun];omega
   rw[this,ih]
   simp
theorem MU{α β:Type}{f:α->List β}{n:Nat} :∀ {l:List α},(∀x∈l,(f x).length=n)->(l.flatMap f).length=l.length*n
 | [],_=>by simp
 | d::es,h=>by
   have ih:=MU (l:=es) (fun d hd=>h d (by simp[hd]))
   simp only[quq,qt4]
   rw[ih,h d (by simp),quy,qun]
   omega
section
variable {X:Type}[Cod X][Inhabited X](ev:X->List Value)(k:Nat)(hk:∀x,(ev x).length=k)
include hk
omit [Cod X] in
theorem Ig(l:List X):(flatK ev k l.toArray).toList=l.flatMap ev:=by
 have hl:=MU (f:=ev) (n:=k) (l:=l) (fun x _=>hk x)
 apply quC
 intro t
 by_cases ht:t < l.length*k
 ·have k0:0 < k:=by
   rcases qvC k with h|h
   ·subst h;simp at ht
   ·exact h
  have h1:=get_flatK ev k l.toArray t (by simpa using ht)
  have hs:t < (flatK ev k l.toArray).size:=by simpa using ht
  rw[getElem!_pos _ t hs]at h1
  rw[qt9,quK hs,h1]
  have hm:t % k < k:=qu4 _ k0
  have hdm:t=(t/k) *k+t % k:=by have:=quX t k;rw[quT]at this;omega
  have hq:t/k < l.length:=qvN (by rw[quT];exact ht)
  have h2:=MV (f:=ev) (n:=k) (l:=l) (fun x _=>hk x) (i:=t/k) hm
  rw[<-hdm]at h2
  rw[h2,qtH hq]
  have h3:(l.toArray)[t/k]! =l[t/k]:=by rw[getElem!_pos l.toArray (t/k) (by simpa using hq)];simp
  rw[h3]
  have h4:t % k < (ev l[t/k]).length:=by rw[hk];exact hm
  simp only[qtY]
  rw[getElem!_pos (ev l[t/k]) (t % k) h4,qtH h4]
 ·rw[qua (by simpa using ht),qua (by omega)]
end
theorem MT{w:World}{b j el:Nat}{c:Array Value}(h:w.heap[b]? =some (.cells c el (0,0))):w.frozen? ⟨b,j,none⟩=false:=by
 simp[World.frozen?,h]
theorem Sh{w:World}{b j el:Nat}{c:Array Value}{fr:Nat×Nat}(h:w.heap[b]? =some (.cells c el fr)):w.cell? ⟨b,j,none⟩=c[j]?:=by
 simp[World.cell?,h]
theorem Kz{w:World}{gb b:Nat}{f:Array Value->Array Value}{os:Array Obj}(hb:b < w.heap.size)(hne:b≠gb):(grow (mapBlock w gb f) os).heap[b]? =w.heap[b]?:=by
 simp only[grow,mapBlock]
 rw[quz (by simpa using hb),qvo]
 have:¬gb=b:=fun e=>hne e.symm
 simp[this]
theorem Yz{w:World}{gb el:Nat}{c:Array Value}{fr:Nat×Nat}{f:Array Value->Array Value}{os:Array Obj}(h:w.heap[gb]? =some (.cells c el fr)):(grow (mapBlock w gb f) os).heap[gb]? =some (.cells (f c) el fr):=by
 have hb:gb < w.heap.size:=(qtO.1 h).1
 simp only[grow,mapBlock]
 rw[quz (by simpa using hb),qvo]
 simp[h,onCells]
end Go.Gv
