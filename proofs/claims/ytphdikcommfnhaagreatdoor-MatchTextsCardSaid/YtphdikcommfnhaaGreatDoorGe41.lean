/- A part of the framework and of the walks: V64 W184. -/
import Derived.Test.YtphdikcommfnhaaGreatDoorGe38
import Derived.Test.YtphdikcommfnhaaGreatDoorGe40
set_option linter.unusedSimpArgs false
set_option linter.unusedVariables false
set_option linter.unusedSectionVars false
set_option maxRecDepth 100000

namespace Go.Gv
open Go.Proofs
theorem qdk{r:Rn}{p:Pat}(h:p.op=1)(s t:St3):lJ r p s t↔s.p < r.en/\BB r p s=some true/\t=Ez r p s:=by
 obtain⟨op,c,l,rg,mn,mx,ks⟩:=p
 rw[lJ];dsimp only;rw[if_pos h]
theorem KQ{r:Rn}{p:Pat}(h:p.op=2\/p.op=3)(s t:St3):lJ r p s t↔Vi r p s.p=true/\t=s:=by
 obtain⟨op,c,l,rg,mn,mx,ks⟩:=p
 have h:op=2\/op=3:=h
 rw[lJ];dsimp only;rw[if_neg (by omega),if_pos h]
theorem qh3{r:Rn}{p:Pat}(h:p.op=4)(s t:St3):lJ r p s t↔uF r p.kids s t:=by
 obtain⟨op,c,l,rg,mn,mx,ks⟩:=p
 have h:op=4:=h
 rw[lJ];dsimp only;rw[if_neg (by omega),if_neg (by omega),if_pos h]
theorem qh2{r:Rn}{p:Pat}(h:p.op=5)(s t:St3):lJ r p s t↔uG r p.kids s t:=by
 obtain⟨op,c,l,rg,mn,mx,ks⟩:=p
 have h:op=5:=h
 rw[lJ];dsimp only;rw[if_neg (by omega),if_neg (by omega),if_neg (by omega),if_pos h]
theorem qdj{r:Rn}{p k:Pat}{ks:List Pat}(h:p.op=6)(hk:p.kids=k::ks)(s t:St3):lJ r p s t↔yH (lJ r k) p.mn p.mx s t:=by
 obtain⟨op,c,l,rg,mn,mx,kids⟩:=p
 have h:op=6:=h
 have hk:kids=k::ks:=hk
 subst hk
 rw[lJ];dsimp only;rw[if_neg (by omega),if_neg (by omega),if_neg (by omega),if_neg (by omega),Fd]
theorem tP(r:Rn)(s t:St3):uF r [] s t↔s=t:=by rw[uF]
theorem pU(r:Rn)(k:Pat)(ks:List Pat)(s t:St3):uF r (k::ks) s t↔ ∃u,lJ r k s u/\uF r ks u t:=by rw[uF]
theorem ET(r:Rn)(s t:St3):uG r [] s t↔False:=by rw[uG]
theorem sO(r:Rn)(k:Pat)(ks:List Pat)(s t:St3):uG r (k::ks) s t↔lJ r k s t\/uG r ks s t:=by rw[uG]
theorem Gm{r:Rn}{k:Pat} :∀ {ks:List Pat} {s t:St3},uF r (ks++ [k]) s t↔ ∃u,uF r ks s u/\lJ r k u t
 | [],s,t=>by
   rw[qyq,pU]
   constructor
   ·rintro⟨u,h1,h2⟩
    exact⟨s,(tP ..).2 rfl,(tP ..).1 h2 ▸h1⟩
   ·rintro⟨u,h1,h2⟩
    exact⟨t,(tP ..).1 h1 ▸h2,(tP ..).2 rfl⟩
 | a::ks,s,t=>by
   rw[qyf,pU]
   constructor
   ·rintro⟨u,h1,h2⟩
    obtain⟨v,h3,h4⟩:=Gm.1 h2
    exact⟨v,(pU ..).2 ⟨u,h1,h3⟩,h4⟩
   ·rintro⟨v,h3,h4⟩
    obtain⟨u,h1,h2⟩:=(pU ..).1 h3
    exact⟨u,h1,Gm.2 ⟨v,h2,h4⟩⟩
theorem Nr{r:Rn}{k:Pat} :∀ {ks:List Pat} {s t:St3},uG r (ks++ [k]) s t↔uG r ks s t\/lJ r k s t
 | [],s,t=>by rw[qyq,sO,ET];simp
 | a::ks,s,t=>by rw[qyf,sO,sO,Nr,or_assoc]
theorem JG{α:Type}{R:α->α->Prop}{n:Nat}{s t:α} :Pow R (n+1) s t↔ ∃u,Pow R n s u/\R u t:=by
 induction n generalizing s with
 | zero=>
   constructor
   ·rintro⟨u,h1,h2⟩;cases h2;exact⟨s,rfl,h1⟩
   ·rintro⟨u,h1,h2⟩;cases h1;exact⟨t,h2,rfl⟩
 | succ n ih=>
   constructor
   ·rintro⟨u,h1,h2⟩
    obtain⟨v,h3,h4⟩:=ih.1 h2
    exact⟨v,⟨u,h1,h3⟩,h4⟩
   ·rintro⟨v,⟨u,h1,h3⟩,h4⟩
    exact⟨u,h1,ih.2 ⟨v,h3,h4⟩⟩
theorem Yz{α:Type}{R:α->α->Prop}{m n:Nat}{s t:α}(h:Pow R (m+n) s t):∃u,Pow R m s u/\Pow R n u t:=by
 induction m generalizing s with
 | zero=>exact⟨s,rfl,by rwa [qyo]at h⟩
 | succ m ih=>
   rw[Nat.succ_add]at h
   obtain⟨v,h1,h2⟩:=h
   obtain⟨u,h3,h4⟩:=ih h2
   exact⟨u,⟨v,h1,h3⟩,h4⟩
def GO(R:St3->St3->Prop)(base:List St3)(k:Nat)(t:St3):Prop:=∃u∈base,Pow (Dl R) k u t
structure ql8 (R:St3->St3->Prop) (base:List St3) (j:Nat) (out new:List St3):Prop where
 o:∀t,t∈out↔ ∃k,k<=j/\GO R base k t
 f:∀t∈new,GO R base j t
 n:∀t,GO R base j t->t∈new\/ ∃k,k < j/\GO R base k t
theorem qdI(R:St3->St3->Prop)(base:List St3):ql8 R base 0 base base:=by
 have h0:∀t,GO R base 0 t↔t∈base:=fun t=>⟨fun⟨u,h1,h2⟩=>by cases h2;exact h1,fun h=>⟨t,h,rfl⟩⟩
 refine⟨fun t=>⟨fun h=>⟨0,qxI _,(h0 t).2 h⟩,?_⟩,fun t h=>(h0 t).2 h,fun t h=> .inl ((h0 t).1 h)⟩
 rintro⟨k,hk,h⟩
 obtain rfl:k=0:=by omega
 exact(h0 t).1 h
theorem JD{R:St3->St3->Prop}{base:List St3}{k:Nat}{t:St3} :GO R base (k+1) t↔ ∃a,GO R base k a/\Dl R a t:=by
 constructor
 ·rintro⟨u,h1,h2⟩
  obtain⟨a,h3,h4⟩:=JG.1 h2
  exact⟨a,⟨u,h1,h3⟩,h4⟩
 ·rintro⟨a,⟨u,h1,h3⟩,h4⟩
  exact⟨u,h1,JG.2 ⟨a,h3,h4⟩⟩
theorem qdJ{R:St3->St3->Prop}{base out new out' new':List St3}{j:Nat}(h:ql8 R base j out new)(h1:∀t,t∈new'↔t∉out/\∃a∈new,Dl R a t)(h2:∀t,t∈out'↔t∈out\/t∈new'):ql8 R base (j+1) out' new':=by
 have key:∀t,GO R base (j+1) t->t∈new'\/t∈out:=fun t ht=>by
  obtain⟨a,ha,hs⟩:=JD.1 ht
  by_cases ho:t∈out
  ·exact .inr ho
  ·rcases h.n a ha with hn|⟨k,hk,hr⟩
   ·exact .inl ((h1 t).2 ⟨ho,a,hn,hs⟩)
   ·exact .inr ((h.o t).2 ⟨k+1,by omega,JD.2 ⟨a,hr,hs⟩⟩)
 have new_r:∀t∈new',GO R base (j+1) t:=fun t ht=>by
  obtain⟨_,a,ha,hs⟩:=(h1 t).1 ht
  exact JD.2 ⟨a,h.f a ha,hs⟩
 refine⟨fun t=>?_,new_r,fun t ht=>?_⟩
 ·rw[h2]
  constructor
  ·rintro(ho|hn)
   ·obtain⟨k,hk,hr⟩:=(h.o t).1 ho
    exact⟨k,by omega,hr⟩
   ·exact⟨j+1,qxI _,new_r t hn⟩
  ·rintro⟨k,hk,hr⟩
   by_cases e:k=j+1
   ·subst e;exact(key t hr).symm
   ·exact .inl ((h.o t).2 ⟨k,by omega,hr⟩)
 ·rcases key t ht with hn|ho
  ·exact .inl hn
  ·obtain⟨k,hk,hr⟩:=(h.o t).1 ho
   exact .inr ⟨k,by omega,hr⟩
theorem qdK{R:St3->St3->Prop}{base out:List St3}{j:Nat}(h:ql8 R base j out [])(t:St3):t∈out↔ ∃k,GO R base k t:=by
 constructor
 ·intro ht
  obtain⟨k,_,hr⟩:=(h.o t).1 ht
  exact⟨k,hr⟩
 ·rintro⟨k,hr⟩
  induction k using Nat.strongRecOn with
  | _ k ih=>
    by_cases hk:k<=j
    ·exact(h.o t).2 ⟨k,hk,hr⟩
    ·obtain⟨u,hu,hp⟩:=hr
     obtain⟨a,h1,h2⟩:=Yz (m:=j) (n:=k -j) (by rwa [show j+ (k -j)=k by omega])
     rcases h.n a ⟨u,hu,h1⟩with hn|⟨i,hi,v,hv,h3⟩
     ·cases hn
     ·exact ih (i+ (k -j)) (by omega) ⟨v,hv,h3.add h2⟩
theorem qbx{R:St3->St3->Prop}{base:List St3}{mn mx:Int}{s:St3}(hb:∀u,u∈base↔Pow R mn.toNat s u)(t:St3):yH R mn mx s t↔ ∃k:Nat,(mx < 0\/mn+k<=mx)/\GO R base k t:=by
 constructor
 ·rintro⟨u,h1,k,h2,h3⟩
  exact⟨k,h2,u,(hb u).2 h1,h3⟩
 ·rintro⟨k,h2,u,h1,h3⟩
  exact⟨u,(hb u).1 h1,k,h2,h3⟩
end Go.Gv

namespace Go.Gv
open Go.Proofs
open Cod (enc dec)
variable {S S0:Nat->Spc}
def qei(n:Nat)(r:Rn)(es:List D)(x:D×St3):Prop:=qhg r/\A8 r es/\P2 r.en x.2/\∃p,sC x.1 p/\p.op=6/\eD p<=n+1/\ll (qhl r) p
abbrev qhD(n:Nat):Spc:=qmO (aD (a1 St3)) qkc (qei n) Xz
abbrev b_mtok:Spc:=qh7 (a2 Pat St3) XC (qW (Y:=St3) (Z:=Bool)) Ti
abbrev b_manc:Spc:=qh7 (a2 Pat Int) qen (enc (X:=Bool)) qeb
theorem Y0{d d':D}{s s':St3}(h:Lk (.agg [d, .v (.int .i64 s.p), .v (.int .i64 s.b0), .v (.int .i64 s.b1), .v (.int .i64 s.b2)]) (.agg [d', .v (.int .i64 s'.p), .v (.int .i64 s'.b0), .v (.int .i64 s'.b1), .v (.int .i64 s'.b2)])){p p':Pat}(hp:sC d p)(hp':sC d' p'):p=p'/\s=s':=by
 obtain⟨tp,I,w,x,h1,h2⟩:=h
 obtain⟨xs,rfl,hl,hc⟩:=h1.inv_agg
 obtain⟨ys,he,hl2,hc2⟩:=h2.inv_agg
 have hxy:xs=ys:=by simpa using he
 subst hxy
 match xs,hl with
 | [x0,x1,x2,x3,x4],_=>
   have a0:=(hc 0 _ _ rfl rfl).2
   have b0:=(hc2 0 _ _ rfl rfl).2
   have e1:=(hc 1 _ _ rfl rfl).2.inv_v.symm.trans (hc2 1 _ _ rfl rfl).2.inv_v
   have e2:=(hc 2 _ _ rfl rfl).2.inv_v.symm.trans (hc2 2 _ _ rfl rfl).2.inv_v
   have e3:=(hc 3 _ _ rfl rfl).2.inv_v.symm.trans (hc2 3 _ _ rfl rfl).2.inv_v
   have e4:=(hc 4 _ _ rfl rfl).2.inv_v.symm.trans (hc2 4 _ _ rfl rfl).2.inv_v
   simp only[qzH,true_and]at e1 e2 e3 e4
   obtain⟨a,b,c,d⟩:=s
   obtain⟨a',b',c',d'⟩:=s'
   simp only at e1 e2 e3 e4
   subst e1;subst e2;subst e3;subst e4
   exact⟨Yw hp hp' a0 b0,rfl⟩
abbrev qvl:List KK:=[.ptr, .int .i64, .int .i64, .int .i64, .int .i64]
theorem OD{d:D}{p:Pat}(h:sC d p):qcW .ptr d=true:=by
 obtain⟨cs,off,rfl,h1,_⟩:=h
 show decide (cs.length≠1)=true
 rw[decide_eq_true_iff]
 omega
theorem Ry{r:Rn}{es:List D}(h:A8 r es):es.all (R8 true qvl)=true:=by
 rw[qxF]
 intro e he
 obtain⟨d,p,s,l,hp,rfl,_⟩:=h e he
 have:=OD hp
 simp[R8,Mj,oU,UU,this]
 exact⟨rfl,rfl,rfl,rfl⟩
theorem Y2{r:Rn}{es:List D}{d:D}{p:Pat}{s:St3}{K:D->Prop}(h:A8 r es)(hp:sC d p)(h1:∀l:List St3,l.Nodup->(∀t,t∈l↔lJ r p s t)->K (.tup [.mp (bp l), .v (.bool true)]))(h2:K (.tup [.v (.map none), .v (.bool false)])):
 xR true false true qvl [.map none] (.agg [d, .v (.int .i64 s.p), .v (.int .i64 s.b0), .v (.int .i64 s.b1), .v (.int .i64 s.b2)]) es K:=by
 refine⟨Ry h,?_,fun k' v hm hq=>?_,fun _=>h2⟩
 ·have:=OD hp
  simp[Mj,oU,UU,this]
  exact⟨rfl,rfl,rfl,rfl⟩
 ·obtain⟨d',p',s',l,hp',e,hn,hl⟩:=h _ hm
  simp only[D.tup.injEq,qx0,and_true]at e
  obtain⟨rfl,rfl⟩:=e
  obtain⟨rfl,rfl⟩:=Y0 hq hp hp'
  exact h1 l hn hl
theorem qal{r:Rn}{es:List D}{d:D}{p:Pat}{s:St3}{l:List St3}{K:List D->Prop}(h:A8 r es)(hp:sC d p)(hn:l.Nodup)(hl:∀t,t∈l↔lJ r p s t)(h1:∀es',A8 r es'->K es'):
 BQ true qvl (.agg [d, .v (.int .i64 s.p), .v (.int .i64 s.b0), .v (.int .i64 s.b1), .v (.int .i64 s.b2)]) (.mp (bp l)) es K:=by
 refine⟨Ry h,?_,fun l1 k' v' l2 e hq=>h1 _ fun x hx=>?_,fun _=>h1 _ fun x hx=>?_⟩
 ·have:=OD hp
  simp[Mj,oU,UU,this]
  exact⟨rfl,rfl,rfl,rfl⟩
 ·rcases qxE.1 hx with hx|hx
  ·exact h x (by rw[e];simp[hx])
  ·rcases qxD.1 hx with rfl|hx
   ·exact⟨d,p,s,l,hp,rfl,hn,hl⟩
   ·exact h x (by rw[e];simp[hx])
 ·rcases qxE.1 hx with hx|hx
  ·exact h x hx
  ·simp at hx
   subst hx
   exact⟨d,p,s,l,hp,rfl,hn,hl⟩
theorem MY{cs:List D}{off:Nat}{p:Pat}(hl:off+13<=cs.length)(hc:(cs.drop off).take 13=(enc p).cells):
 cs[off]? =some (.v (.int .i64 p.op))/\cs[off+10]? =some (.v (.int .i64 p.mn))/\cs[off+11]? =some (.v (.int .i64 p.mx))/\cs[off+12]? =some (.list 13 (p.kids.map enc)):=by
 refine⟨?_,?_,?_,?_⟩
 ·have:=xF hl hc (j:=0) (by decide)
  rw[qyJ]at this
  rw[this];simp
 ·rw[xF hl hc (j:=10) (by decide)];simp
 ·rw[xF hl hc (j:=11) (by decide)];simp
 ·rw[xF hl hc (j:=12) (by decide)];simp
theorem ln(q:Pat):sC (.cptr [.v (.int .i64 q.op), .v (.int .i64 q.cond.op), .v (.string q.cond.name), .v (.string q.cond.arg), .v (.string q.cond.val), .v (.string q.cond.lab), .v (.bool q.cond.fold), .list 7 (q.cond.kids.map enc), .v (.string q.lab), .v (.string q.reg), .v (.int .i64 q.mn), .v (.int .i64 q.mx), .list 13 (q.kids.map enc)] 0) q:=
 ⟨_,_,rfl,qxI _,by simp⟩
theorem qeN(n:Nat)(h1:S iZ=b_mtok)(h2:S gO=b_manc)(h3:S ku=Ug n)(h4:S cZ=MJ n)(h5:S lY=qhD n):PK my lT S (aD (a1 St3)) qkc (XD (n+1)) Xz:=by
 rintro b r v es ⟨d,s⟩ ⟨hr,hm,hs,p,hp,hpn,hpa⟩
 have hp':=hp
 obtain⟨cs,off,hd,hl13,hc13⟩:=hp'
 have hd:d= .cptr cs off:=hd
 subst hd
 have hp:sC (.cptr cs off) p:=hp
 obtain⟨c0,c10,c11,c12⟩:=MY hl13 hc13
 simp[my,lT,Ea, -Bool.forall_bool, -Bool.exists_bool]
 refine Y2 hm hp (fun l hn hl=>?_) ?_
 ·simp[-Bool.forall_bool, -Bool.exists_bool]
  exact Nk v es l (.same _) (by simp[ah]) (by simp[ah]) ⟨hm,hn,fun p' hp''=>by obtain rfl:=ss hp hp'';exact hl⟩
 simp[-Bool.forall_bool, -Bool.exists_bool]
 intro v1
 refine gy (X:=Value×List D×List St3) [0,1,5] [] [28] [] (fun x=>A8 r x.2.1/\x.2.2.Nodup/\∀t,t∈x.2.2↔lJ r p s t) (fun x=>[(9, .mp (bp x.2.2))]) (fun x=>[(0, .box b (lF r (.own 990 x.1))),(990, .mrow x.1 x.2.1)]) [0,990] (fun _=>rfl) (by decide) ?_ ?_
 ·have hnd:=(jY hpa).nd
  have hops:p.op=1\/p.op=2\/p.op=3\/p.op=4\/p.op=5\/p.op=6:=by
   rcases hnd with h|h|h|h
   ·exact .inl h.1
   ·rcases h.1 with h|h
    ·exact .inr (.inl h)
    ·exact .inr (.inr (.inl h))
   ·rcases h.1 with h|h
    ·exact .inr (.inr (.inr (.inl h)))
    ·exact .inr (.inr (.inr (.inr (.inl h))))
   ·exact .inr (.inr (.inr (.inr (.inr h.1))))
  have hlo:off+1<=cs.length:=by omega
  have hl12:off+12+1<=cs.length:=by omega
  have hdp:dec (X:=Pat) (.agg ((cs.drop off).take 13))=some p:=by rw[hc13,<-tN,Cod.dec_enc]
  have hs:P2 r.en s:=hs
  have hen:=hr.en
  have hOk:qoF s:=⟨hs.1,by have:=hs.2.1;omega,fun i=>⟨(hs.2.2 i).1,by have:=(hs.2.2 i).2;omega⟩⟩
  have hRn:∀k,qk1 (.cptr (lF r k) 0):=fun k=>⟨r,k,rfl,hr.l3⟩
  rcases hops with e|e|e|e|e|e
  all_goals rw[e]at c0
  ·have hPt:XC (.cptr (lF r (.own 990 v)) 0,p,s):=⟨⟨r,_,rfl,hr.l3,hr.sz,(jY hpa).lab,(jY hpa).tok e s hs⟩,hOk⟩
   simp[c0,h1,Rg,hlo,hl13,hdp,hPt, -Bool.forall_bool, -Bool.exists_bool]
   intro a y hQ b2
   obtain⟨q1,q2⟩:=hQ r _ rfl
   refine⟨fun hy=>?_,fun hy=>?_⟩
   ·subst hy
    obtain⟨q3,q4⟩:=q1.1 rfl
    have q5:a=Ez r p s:=q2 rfl
    subst q5
    exact⟨v,es, [Ez r p s],⟨hm,by simp,fun t=>by rw[qdk e];simp[q3,q4]⟩,wO (by simp[Hh,ah]), .inl (.inl rfl), .inl (.inl rfl)⟩
   ·subst hy
    refine⟨v,es, [],⟨hm,by simp,fun t=>?_⟩,wO (by simp[Hh,ah,sU]), .inl (.inl rfl), .inl (.inl rfl)⟩
    rw[qdk e]
    constructor
    ·intro h;cases h
    ·rintro⟨q3,q4,_⟩
     cases q1.2 ⟨q3,q4⟩
  ·simp[c0,h2,hlo,hl13,hdp,hRn, -Bool.forall_bool, -Bool.exists_bool]
   intro y hQ
   obtain q1:y=Vi r p s.p:=hQ r _ rfl
   refine⟨fun hy=>?_,fun hy=>?_⟩
   ·exact⟨v,es, [s],⟨hm,by simp,fun t=>by rw[KQ (.inl e),<-q1,hy];simp⟩,wO (by simp[Hh,ah]), .inl (.inl rfl), .inl (.inl rfl)⟩
   ·exact⟨v,es, [],⟨hm,by simp,fun t=>by rw[KQ (.inl e),<-q1,hy];simp⟩,wO (by simp[Hh,ah,sU]), .inl (.inl rfl), .inl (.inl rfl)⟩
  ·simp[c0,h2,hlo,hl13,hdp,hRn, -Bool.forall_bool, -Bool.exists_bool]
   intro y hQ
   obtain q1:y=Vi r p s.p:=hQ r _ rfl
   refine⟨fun hy=>?_,fun hy=>?_⟩
   ·exact⟨v,es, [s],⟨hm,by simp,fun t=>by rw[KQ (.inr e),<-q1,hy];simp⟩,wO (by simp[Hh,ah]), .inl (.inl rfl), .inl (.inl rfl)⟩
   ·exact⟨v,es, [],⟨hm,by simp,fun t=>by rw[KQ (.inr e),<-q1,hy];simp⟩,wO (by simp[Hh,ah,sU]), .inl (.inl rfl), .inl (.inl rfl)⟩
  ·simp[c0,hlo, -Bool.forall_bool, -Bool.exists_bool]
   refine gy (X:=Unit) [0,1,5] [0,990] [28] [] (fun _=>True) (fun _=>[(9, .mp (bp [s]))]) (fun _=>[]) [] (fun _=>rfl) (by decide) ?_ ?_
   ·simp[-Bool.forall_bool, -Bool.exists_bool]
    exact wO (by simp[Hh,ah])
   rintro⟨⟩ -
   simp[c12,hlo,hl12, -Bool.forall_bool, -Bool.exists_bool]
   intro hkl
   refine ai (X:=Value×List D×List St3) [0,1,5] [] p.kids.length (fun k x=>A8 r x.2.1/\x.2.2.Nodup/\∀t,t∈x.2.2↔uF r (p.kids.take k) s t) (fun x=>[(9, .mp (bp x.2.2))]) (fun x=>[(0, .box b (lF r (.own 990 x.1))),(990, .mrow x.1 x.2.1)]) (v,es, [s]) (by simp) (by simp) (by omega) (by simp) (by simp)
    ⟨hm,by simp,fun t=>by rw[qzh,tP];simp[eq_comm]⟩ (by simp) (by simp) ?_ ?_
   ·rintro k ⟨v2,es2,l⟩ hk ⟨hm2,hn2,hl2⟩
    simp only at hm2 hn2 hl2
    obtain⟨q,hq⟩:∃q,p.kids[k]? =some q:=⟨_,qxA hk⟩
    obtain⟨_,hgq⟩:=qxz.1 hq
    have hqm:q∈p.kids:=qxC hq
    simp[hk,hgq,c12,hlo,hl12,h3,Co,Ea, -Bool.forall_bool, -Bool.exists_bool]
    refine⟨⟨hr,hm2,⟨l,rfl,fun t ht=>O4 r _ _ _ ((hl2 t).1 ht) hs⟩,q,ln q,by have:=jv hqm;omega,qM hpa hqm⟩,fun v3 es3 ys hQ=>⟨v3,es3,ys,⟨hQ.1,hQ.2.1,fun t=>?_⟩,rfl, .inl rfl, .inl ⟨rfl,rfl⟩⟩⟩
    rw[bc hq,Gm,hQ.2.2 q l (ln q) rfl t]
    exact⟨fun⟨u,h1,h2⟩=>⟨u,(hl2 u).1 h1,h2⟩,fun⟨u,h1,h2⟩=>⟨u,(hl2 u).2 h1,h2⟩⟩
   ·rintro⟨v2,es2,l⟩ ⟨hm2,hn2,hl2⟩
    simp only at hm2 hn2 hl2
    simp[-Bool.forall_bool, -Bool.exists_bool]
    exact⟨v2,es2,l,⟨hm2,hn2,fun t=>by rw[qh3 e,hl2,qx1]⟩, .same _, .inl (.inl rfl), .inl (.inl rfl)⟩
  ·simp[c0,c12,hlo,hl12, -Bool.forall_bool, -Bool.exists_bool]
   intro hkl
   refine ai (X:=Value×List D×List St3) [0,1,5,9] [] p.kids.length (fun k x=>A8 r x.2.1/\x.2.2.Nodup/\∀t,t∈x.2.2↔uG r (p.kids.take k) s t) (fun x=>[]) (fun x=>[(0, .box b (lF r (.own 990 x.1))),(990, .mrow x.1 x.2.1),(28, .mrow v1 (bp x.2.2))]) (v,es, []) (by simp) (by simp) (by omega) (by simp) (by simp)
    ⟨hm,by simp,fun t=>by rw[qzh,ET];simp⟩ (by simp) (by simp[sU]) ?_ ?_
   ·rintro k ⟨v2,es2,l⟩ hk ⟨hm2,hn2,hl2⟩
    simp only at hm2 hn2 hl2
    obtain⟨q,hq⟩:∃q,p.kids[k]? =some q:=⟨_,qxA hk⟩
    obtain⟨_,hgq⟩:=qxz.1 hq
    have hqm:q∈p.kids:=qxC hq
    simp[hk,hgq,c12,hlo,hl12,h4,Co,Ea, -Bool.forall_bool, -Bool.exists_bool]
    refine⟨⟨hr,hm2,hs,q,ln q,by have:=jv hqm;omega,qM hpa hqm⟩,fun v3 es3 ys hQ b2=>?_⟩
    have hys:=hQ.2.2 q (ln q)
    refine av (X:=List St3×List D×List St3) [0,1,5,9,91,92,104] [0,990] (fun x=>x.1.Nodup/\(∀t∈x.2.2,t∈ys)/\(∀t∈l,t∈x.1)/\(∀t∈x.1,t∈l\/t∈ys)/\∀t∈ys,t∈x.2.2\/t∈x.1)
     (fun _=>[]) (fun x=>[(28, .mrow v1 (bp x.1)),(104, .miter b2 x.2.1 (bp x.2.2))]) (fun x=>x.2.2.length) (l, [],ys)
     ⟨hn2,fun _ h=>h,fun _ h=>h,fun _ h=> .inl h,fun _ h=> .inl h⟩ (by simp) (by simp) ?_
    rintro⟨out2,cur2,left2⟩ ⟨g1,g2,g3,g4,g5⟩
    simp only at g1 g2 g3 g4 g5
    simp[-Bool.forall_bool, -Bool.exists_bool]
    refine⟨fun h0=>?_,fun l1 x l2 hsp2=>?_⟩
    ·have hlz:=fg h0
     subst hlz
     refine⟨v3,es3,out2,⟨hQ.1,g1,fun t=>?_⟩, .inl rfl, .inl ⟨rfl,rfl⟩, .inl rfl⟩
     rw[bc hq,Nr,<-hl2,<-hys]
     exact⟨g4 t,fun h=>h.elim (g3 t) fun h=>(g5 t h).elim (fun h=>by cases h) id⟩
    ·obtain⟨a2,t,c2,rfl,rfl,rfl,rfl⟩:=gA hsp2
     simp[-Bool.forall_bool, -Bool.exists_bool]
     refine⟨xW t out2,_,a2++c2,⟨xV g1,fun x h=>g2 x (by simp only[qxE,qxD]at h ⊢;rcases h with h|h <;> simp[h]),fun x hx=>eu.2 (.inr (g3 x hx)),fun x hx=>?_,fun x hx=>?_⟩,⟨.inl rfl, .inl ⟨rfl,(hZ a2 c2).symm⟩⟩,by simp⟩
     ·rcases eu.1 hx with rfl|h
      ·exact .inr (g2 x (by simp))
      ·exact g4 x h
     ·rcases g5 x hx with h|h
      ·rcases qxE.1 h with h|h
       ·exact .inl (by simp[h])
       ·rcases qxD.1 h with rfl|h
        ·exact .inr (eu.2 (.inl rfl))
        ·exact .inl (by simp[h])
      ·exact .inr (eu.2 (.inr h))
   ·rintro⟨v2,es2,l⟩ ⟨hm2,hn2,hl2⟩
    simp only at hm2 hn2 hl2
    simp[-Bool.forall_bool, -Bool.exists_bool]
    exact⟨v2,es2,l,⟨hm2,hn2,fun t=>by rw[qh2 e,hl2,qx1]⟩,wO (by simp[Hh,ah]), .inl (.inl rfl), .inl (.inl rfl)⟩
  ·have hPr:qei n r es (.cptr cs off,s):=⟨hr,hm,hs,p,hp,e,hpn,hpa⟩
   simp[c0,h5,Co,hlo,hPr,Ea, -Bool.forall_bool, -Bool.exists_bool]
   exact fun v2 es2 y hQ=>⟨v2,es2,y,⟨hQ.1,hQ.2.1,hQ.2.2 p hp⟩, .same _, .inl (.inl rfl), .inl (.inl rfl)⟩
 ·rintro⟨v2,es2,l⟩ ⟨hm2,hn,hl⟩
  simp only at hm2 hn hl
  simp[-Bool.forall_bool, -Bool.exists_bool]
  refine qal hm2 hp hn hl fun es3 hm3=>?_
  exact Nk v2 es3 l (.same _) (by simp[ah]) (by simp[ah]) ⟨hm3,hn,fun p' hp''=>by obtain rfl:=ss hp hp'';exact hl⟩
end Go.Gv
