/- W184 -/
import Derived.Shelf.SlSortCmp.NoneTotal
import Derived.Test.YtmakafgajmnflaaGreatDoorGf20
set_option linter.all false
set_option maxRecDepth 100000
set_option maxHeartbeats 0
open Bool renaming forall_bool → fB', exists_bool → eB'
namespace Go.Gv
section
open Go.Proofs
open Cod (enc dec)
variable {S S0:Nat->Spc}
def qix(n:Nat)(r:Rn)(es:List D)(x:D×St3):Prop:=qlA r/\Cn r es/\X3 r.en x.2/\∃p,tS x.1 p/\p.op=6/\cM p<=n+1/\qb (qmC r) p
abbrev qlY(n:Nat):Spc:=qq2 (aD (a1 St3)) qom (qix n) qbT
abbrev b_mtok:Spc:=qmq (a2 Pat St3) qbV (qR (Y:=St3) (Z:=Bool)) XV
abbrev b_manc:Spc:=qmq (a2 Pat Int) qiC (enc (X:=Bool)) qiq
theorem qc8{d l:D}{s k:St3}(h:JY (.agg [d, .v (.int .i64 s.p), .v (.int .i64 s.b0), .v (.int .i64 s.b1), .v (.int .i64 s.b2)]) (.agg [l, .v (.int .i64 k.p), .v (.int .i64 k.b0), .v (.int .i64 k.b1), .v (.int .i64 k.b2)])){p C:Pat}(hp:tS d p)(q:tS l C):p=C/\s=k:=by
 obtain⟨tp,I,w,x,h1,h2⟩:=h;obtain⟨xs,rfl,hl,hc⟩:=h1.inv_agg;obtain⟨E,he,F,j⟩:=h2.inv_agg;have r:xs=E:=by grind
 subst r
 match xs,hl with
 | [J,K,L,M,N],_=>
   have a0:=(hc 0 _ _ rfl rfl).2;have b0:=(j 0 _ _ rfl rfl).2;have t:=(hc 1 _ _ rfl rfl).2.inv_v.symm.trans (j 1 _ _ rfl rfl).2.inv_v;have u:=(hc 2 _ _ rfl rfl).2.inv_v.symm.trans (j 2 _ _ rfl rfl).2.inv_v;have y:=(hc 3 _ _ rfl rfl).2.inv_v.symm.trans (j 3 _ _ rfl rfl).2.inv_v;have A:=(hc 4 _ _ rfl rfl).2.inv_v.symm.trans (j 4 _ _ rfl rfl).2.inv_v;simp only[qEu,true_and]at t u y A;obtain⟨a,b,c,d⟩:=s;obtain⟨O,b',c',l⟩:=k;simp only at t u y A;subst t;subst u;subst y;subst A;exact⟨qcL hp q a0 b0,rfl⟩
abbrev qzZ:List KK:=[.ptr, .int .i64, .int .i64, .int .i64, .int .i64]
def Sd{d:D}{p:Pat}(h:tS d p):qgY .ptr d=true:=by
 obtain⟨cs,off,rfl,h1,_⟩:=h;show decide (cs.length≠1)=true;grind
def Wb{r:Rn}{es:List D}(h:Cn r es):es.all (Ta true qzZ)=true:=by
 rw[qCl];intro e he;obtain⟨d,p,s,l,hp,rfl,_⟩:=h e he;have:=Sd hp;simp[Ta,Nm,mK,Zs,this];exact⟨rfl,rfl,rfl,rfl⟩
def qda{r:Rn}{es:List D}{d:D}{p:Pat}{s:St3}{K:D->Prop}(h:Cn r es)(hp:tS d p)(h1:∀l:List St3,l.Nodup->(∀t,t∈l↔nM r p s t)->K (.tup [.mp (bB l), .v (.bool true)]))(h2:K (.tup [.v (.map none), .v (.bool false)])):
 wQ true false true qzZ [.map none] (.agg [d, .v (.int .i64 s.p), .v (.int .i64 s.b0), .v (.int .i64 s.b1), .v (.int .i64 s.b2)]) es K:=by
 refine⟨Wb h,?_,λc v hm b=>?_,λ_=>h2⟩
 ·have:=Sd hp;simp[Nm,mK,Zs,this];exact⟨rfl,rfl,rfl,rfl⟩
 ·obtain⟨j,k,q,l,a,e,hn,hl⟩:=h _ hm;simp only[D.tup.injEq,qCL,and_true]at e;obtain⟨rfl,rfl⟩:=e;obtain⟨rfl,rfl⟩:=qc8 b hp a;simp_all
def qet{r:Rn}{es:List D}{d:D}{p:Pat}{s:St3}{l:List St3}{K:List D->Prop}(h:Cn r es)(hp:tS d p)(hn:l.Nodup)(hl:∀t,t∈l↔nM r p s t)(h1:∀es',Cn r es'->K es'):
 A6 true qzZ (.agg [d, .v (.int .i64 s.p), .v (.int .i64 s.b0), .v (.int .i64 s.b1), .v (.int .i64 s.b2)]) (.mp (bB l)) es K:=by
 refine⟨Wb h,?_,λa b v' c e j=>h1 _ λx hx=>?_,λ_=>h1 _ λx hx=>?_⟩
 ·have:=Sd hp;simp[Nm,mK,Zs,this];exact⟨rfl,rfl,rfl,rfl⟩
 ·rcases qCk.1 hx with hx|hx
  ·exact h x (by grind)
  ·rcases qCm.1 hx with rfl|hx;grind
   ·exact h x (by grind)
 ·rcases qCk.1 hx with hx|hx
  ·exact h x hx
  grind
def P7{cs:List D}{off:Nat}{p:Pat}(hl:off+13<=cs.length)(hc:(cs.drop off).take 13=(enc p).cells):
 cs[off]? =some (.v (.int .i64 p.op))/\cs[off+10]? =some (.v (.int .i64 p.mn))/\cs[off+11]? =some (.v (.int .i64 p.mx))/\cs[off+12]? =some (.list 13 (p.kids.map enc)):=by
 refine⟨?_,?_,?_,?_⟩
 ·have:=zg hl hc (j:=0) (by decide);simp_all
 ·rw[zg hl hc (j:=10) (by decide)];simp
 ·rw[zg hl hc (j:=11) (by decide)];simp
 ·rw[zg hl hc (j:=12) (by decide)];simp
def mz(q:Pat):tS (.cptr [.v (.int .i64 q.op), .v (.int .i64 q.cond.op), .v (.string q.cond.name), .v (.string q.cond.arg), .v (.string q.cond.val), .v (.string q.cond.lab), .v (.bool q.cond.fold), .list 7 (q.cond.kids.map enc), .v (.string q.lab), .v (.string q.reg), .v (.int .i64 q.mn), .v (.int .i64 q.mx), .list 13 (q.kids.map enc)] 0) q:=
 ⟨_,_,rfl,qCj _,by simp⟩
theorem qi3(n:Nat)(h1:S jT=b_mtok)(h2:S iI=b_manc)(h3:S lA=YN n)(h4:S dA=PR n)(h5:S mY=qlY n):TJ nj mT S (aD (a1 St3)) qom (qbW (n+1)) qbT:=by
 rintro b r v es ⟨d,s⟩ ⟨Y,hm,hs,p,hp,hpn,I⟩;have hp':=hp;obtain⟨cs,off,hd,E,O⟩:=hp';have hd:d= .cptr cs off:=hd;subst hd;have hp:tS (.cptr cs off) p:=hp;obtain⟨Z,c10,c11,M⟩:=P7 E O;simp[nj,mT,F7,-fB',-eB'];refine qda hm hp (λl hn hl=>?_) ?_
 ·simp[-fB',-eB'];exact QA v es l (.same _) (by rfl) (by rfl) ⟨hm,hn,λp' Q=>by grind [tK]⟩
 simp[-fB',-eB'];intro v1;refine fE (X:=Value×List D×List St3) [0,1,5] [] [28] [] (λx=>Cn r x.2.1/\x.2.2.Nodup/\∀t,t∈x.2.2↔nM r p s t) (λx=>[(9, .mp (bB x.2.2))]) (λx=>[(0, .box b (mL r (.own 990 x.1))),(990, .mrow x.1 x.2.1)]) [0,990] (λ_=>rfl) (by decide) ?_ ?_
 ·have hnd:=(nA I).nd;have hops:p.op=1\/p.op=2\/p.op=3\/p.op=4\/p.op=5\/p.op=6:=by
   rcases hnd with h|h|h|h
   ·exact .inl h.1
   ·rcases h.1 with h|h
    ·exact .inr (.inl h)
    ·exact .inr (.inr (.inl h))
   ·rcases h.1 with h|h
    ·exact .inr (.inr (.inr (.inl h)))
    ·exact .inr (.inr (.inr (.inr (.inl h))))
   ·exact .inr (.inr (.inr (.inr (.inr h.1))))
  have A:off+1<=cs.length:=by omega
  have F:off+12+1<=cs.length:=by omega
  have hdp:dec (X:=Pat) (.agg ((cs.drop off).take 13))=some p:=by rw[O,<-ve,Cod.dec_enc]
  have hs:X3 r.en s:=hs;have hen:=Y.en;have hOk:qs0 s:=⟨hs.1,by have:=hs.2.1;omega,λi=>⟨(hs.2.2 i).1,by have:=(hs.2.2 i).2;omega⟩⟩
  have hRn:∀k,qpi (.cptr (mL r k) 0):=λk=>⟨r,k,rfl,Y.l3⟩
  rcases hops with e|e|e|e|e|e
  all_goals rw[e]at Z
  ·have hPt:qbV (.cptr (mL r (.own 990 v)) 0,p,s):=⟨⟨r,_,rfl,Y.l3,Y.sz,(nA I).lab,(nA I).tok e s hs⟩,hOk⟩
   simp[Z,h1,VJ,A,E,hdp,hPt,-fB',-eB'];intro a y C b2;obtain⟨U,q2⟩:=C r _ rfl;refine⟨λJ=>?_,λJ=>?_⟩
   ·subst J;obtain⟨q3,q4⟩:=U.1 rfl;have q5:a=Iu r p s:=q2 rfl;subst q5;exact⟨v,es, [Iu r p s],⟨hm,by simp,λt=>by rw[qbu e];simp[q3,q4]⟩,yp (by simp[JS,ai]), .inl (.inl rfl), .inl (.inl rfl)⟩
   ·subst J;refine⟨v,es, [],⟨hm,by simp,λt=>?_⟩,yp (by simp[JS,ai,ul]), .inl (.inl rfl), .inl (.inl rfl)⟩;rw[qbu e];constructor
    ·intro h;cases h
    ·rintro⟨q3,q4,_⟩;cases U.2 ⟨q3,q4⟩
  ·simp[Z,h2,A,E,hdp,hRn,-fB',-eB'];intro y C;obtain U:y=qid r p s.p:=C r _ rfl;refine⟨λJ=>?_,λJ=>?_⟩
   ·exact⟨v,es, [s],⟨hm,by simp,λt=>by rw[ND (.inl e),<-U,J];simp⟩,yp (by simp[JS,ai]), .inl (.inl rfl), .inl (.inl rfl)⟩
   ·exact⟨v,es, [],⟨hm,by simp,λt=>by rw[ND (.inl e),<-U,J];simp⟩,yp (by simp[JS,ai,ul]), .inl (.inl rfl), .inl (.inl rfl)⟩
  ·simp[Z,h2,A,E,hdp,hRn,-fB',-eB'];intro y C;obtain U:y=qid r p s.p:=C r _ rfl;refine⟨λJ=>?_,λJ=>?_⟩
   ·exact⟨v,es, [s],⟨hm,by simp,λt=>by rw[ND (.inr e),<-U,J];simp⟩,yp (by simp[JS,ai]), .inl (.inl rfl), .inl (.inl rfl)⟩
   ·exact⟨v,es, [],⟨hm,by simp,λt=>by rw[ND (.inr e),<-U,J];simp⟩,yp (by simp[JS,ai,ul]), .inl (.inl rfl), .inl (.inl rfl)⟩
  ·simp[Z,A,-fB',-eB'];refine fE (X:=Unit) [0,1,5] [0,990] [28] [] (λ_=>True) (λ_=>[(9, .mp (bB [s]))]) (λ_=>[]) [] (λ_=>rfl) (by decide) ?_ ?_
   ·simp[-fB',-eB'];exact yp (by simp[JS,ai])
   rintro⟨⟩ -;simp[M,A,F,-fB',-eB'];intro hkl;refine A4 (X:=Value×List D×List St3) [0,1,5] [] p.kids.length (λk x=>Cn r x.2.1/\x.2.2.Nodup/\∀t,t∈x.2.2↔xE r (p.kids.take k) s t) (λx=>[(9, .mp (bB x.2.2))]) (λx=>[(0, .box b (mL r (.own 990 x.1))),(990, .mrow x.1 x.2.1)]) (v,es, [s]) (by simp) (by simp) (by omega) (by simp) (by simp)
    ⟨hm,by simp,λt=>by rw[qDR,vh];simp[eq_comm]⟩ (by simp) (by simp) ?_ ?_
   ·rintro k ⟨N,es2,l⟩ hk ⟨c,w,j⟩;simp only at c w j;obtain⟨q,hq⟩:∃q,p.kids[k]? =some q:=⟨_,qCe hk⟩
    obtain⟨_,hgq⟩:=qCd.1 hq;have K:q∈p.kids:=qCg hq;simp[hk,hgq,M,A,F,h3,D4,F7,-fB',-eB'];refine⟨⟨Y,c,⟨l,rfl,λt ht=>SJ r _ _ _ ((j t).1 ht) hs⟩,q,mz q,by have:=fq K;omega,uJ I K⟩,λv3 L ys C=>⟨v3,L,ys,⟨C.1,C.2.1,λt=>?_⟩,rfl, .inl rfl, .inl ⟨rfl,rfl⟩⟩⟩;rw[aB hq,I0,C.2.2 q l (mz q) rfl t];exact⟨λ⟨u,h1,h2⟩=>⟨u,(j u).1 h1,h2⟩,λ⟨u,h1,h2⟩=>⟨u,(j u).2 h1,h2⟩⟩
   ·rintro⟨N,es2,l⟩ ⟨c,w,j⟩;simp only at c w j;simp[-fB',-eB'];exact⟨N,es2,l,⟨c,w,λt=>by rw[qho e,j,qCx]⟩, .same _, .inl (.inl rfl), .inl (.inl rfl)⟩
  ·simp[Z,M,A,F,-fB',-eB'];intro hkl;refine A4 (X:=Value×List D×List St3) [0,1,5,9] [] p.kids.length (λk x=>Cn r x.2.1/\x.2.2.Nodup/\∀t,t∈x.2.2↔An r (p.kids.take k) s t) (λx=>[]) (λx=>[(0, .box b (mL r (.own 990 x.1))),(990, .mrow x.1 x.2.1),(28, .mrow v1 (bB x.2.2))]) (v,es, []) (by simp) (by simp) (by omega) (by simp) (by simp)
    ⟨hm,by simp,λt=>by rw[qDR,G4];simp⟩ (by simp) (by simp[ul]) ?_ ?_
   ·rintro k ⟨N,es2,l⟩ hk ⟨c,w,j⟩;simp only at c w j;obtain⟨q,hq⟩:∃q,p.kids[k]? =some q:=⟨_,qCe hk⟩
    obtain⟨_,hgq⟩:=qCd.1 hq;have K:q∈p.kids:=qCg hq;simp[hk,hgq,M,A,F,h4,D4,F7,-fB',-eB'];refine⟨⟨Y,c,hs,q,mz q,by have:=fq K;omega,uJ I K⟩,λv3 L ys C b2=>?_⟩;have hys:=C.2.2 q (mz q);refine ms (X:=List St3×List D×List St3) [0,1,5,9,91,92,104] [0,990] (λx=>x.1.Nodup/\(∀t∈x.2.2,t∈ys)/\(∀t∈l,t∈x.1)/\(∀t∈x.1,t∈l\/t∈ys)/\∀t∈ys,t∈x.2.2\/t∈x.1)
     (λ_=>[]) (λx=>[(28, .mrow v1 (bB x.1)),(104, .miter b2 x.2.1 (bB x.2.2))]) (λx=>x.2.2.length) (l, [],ys)
     ⟨w,λ_ h=>h,λ_ h=>h,λ_ h=> .inl h,λ_ h=> .inl h⟩ (by simp) (by simp) ?_
    rintro⟨W,cur2,left2⟩ ⟨g1,g2,g3,g4,g5⟩;simp only at g1 g2 g3 g4 g5;simp[-fB',-eB'];refine⟨λh0=>?_,λl1 x l2 hsp2=>?_⟩
    ·have hlz:=fV h0;subst hlz;refine⟨v3,L,W,⟨C.1,g1,λt=>?_⟩, .inl rfl, .inl ⟨rfl,rfl⟩, .inl rfl⟩;rw[aB hq,QG,<-j,<-hys];exact⟨g4 t,λh=>h.elim (g3 t) λh=>(g5 t h).elim (λh=>by cases h) id⟩
    ·obtain⟨a2,t,c2,rfl,rfl,rfl,rfl⟩:=ip hsp2;simp[-fB',-eB'];refine⟨yn t W,_,a2++c2,⟨zA g1,λx h=>g2 x (by simp only[qCk,qCm]at h ⊢;rcases h with h|h<;>simp[h]),λx hx=>ft.2 (.inr (g3 x hx)),λx hx=>?_,λx hx=>?_⟩,⟨.inl rfl, .inl ⟨rfl,(iT a2 c2).symm⟩⟩,by simp⟩
     ·rcases ft.1 hx with rfl|h
      ·exact .inr (g2 x (by simp))
      ·exact g4 x h
     ·rcases g5 x hx with h|h
      ·rcases qCk.1 h with h|h
       ·exact .inl (by simp[h])
       ·rcases qCm.1 h with rfl|h
        ·exact .inr (ft.2 (.inl rfl))
        ·exact .inl (by simp[h])
      ·exact .inr (ft.2 (.inr h))
   ·rintro⟨N,es2,l⟩ ⟨c,w,j⟩;simp only at c w j;simp[-fB',-eB'];exact⟨N,es2,l,⟨c,w,λt=>by rw[qml e,j,qCx]⟩,yp (by simp[JS,ai]), .inl (.inl rfl), .inl (.inl rfl)⟩
  ·have hPr:qix n r es (.cptr cs off,s):=⟨Y,hm,hs,p,hp,e,hpn,I⟩
   simp[Z,h5,D4,A,hPr,F7,-fB',-eB'];exactλN es2 y C=>⟨N,es2,y,⟨C.1,C.2.1,C.2.2 p hp⟩, .same _, .inl (.inl rfl), .inl (.inl rfl)⟩
 ·rintro⟨N,es2,l⟩ ⟨c,hn,hl⟩;simp only at c hn hl;simp[-fB',-eB'];refine qet c hp hn hl λL hm3=>?_
  exact QA N L l (.same _) (by simp[ai]) (by simp[ai]) ⟨hm3,hn,λp' Q=>by obtain rfl:=tK hp Q;exact hl⟩
def qmA(x:D×Unit)(l:List D):Prop:=∃a c:List St3,x.1= .mp (bB c)/\l=bB a/\a.Nodup
def qmx(x:D×Unit)(l l':List D):Prop:=∀a c:List St3,x.1= .mp (bB c)->l=bB a->∃q:List St3,l'=bB q/\q.Nodup/\∀t,t∈q↔t∈a\/t∈c
abbrev qfc:Spc:=qxC (aD a0) qmA qmx
theorem qmO:qij pP oj S (aD a0) qmA qmx:=by
 rintro v l ⟨d,⟨⟩⟩ ⟨a,c,p,hl,hn⟩;have p:d= .mp (bB c):=p;subst p;subst hl;simp[pP,oj,-fB',-eB'];intro b1;refine ms (X:=List St3×List D×List St3) [0,7] [] (λx=>x.1.Nodup/\(∀t∈x.2.2,t∈c)/\(∀t∈a,t∈x.1)/\(∀t∈x.1,t∈a\/t∈c)/\∀t∈c,t∈x.2.2\/t∈x.1)
  (λ_=>[]) (λx=>[(0, .mrow v (bB x.1)),(7, .miter b1 x.2.1 (bB x.2.2))]) (λx=>x.2.2.length) (a, [],c)
  ⟨hn,λ_ h=>h,λ_ h=>h,λ_ h=> .inl h,λ_ h=> .inl h⟩ (by simp) (by simp) ?_
 rintro⟨b,s,q⟩ ⟨u,w,y,C,A⟩;simp only at u w y C A;simp[-fB',-eB'];refine⟨λh0=>?_,λE x F j=>?_⟩
 ·have r:=fV h0;subst r;refine⟨bB b,rfl,by rfl,λI c' h1 h2=>?_⟩;have h1:D.mp (bB c)= .mp (bB c'):=h1;obtain rfl:=Ma (D.mp.inj h1);obtain rfl:=Ma h2;grind
 ·obtain⟨a2,t,c2,rfl,rfl,rfl,rfl⟩:=ip j;simp[-fB',-eB'];refine⟨yn t b,_,a2++c2,⟨zA u,λx h=>w x (by grind),λx k=>ft.2 (.inr (y x k)),λx k=>?_,λx k=>?_⟩,⟨.inl rfl, .inl ⟨rfl,(iT a2 c2).symm⟩⟩,by simp⟩;grind [ft]
  ·rcases A x k with h|h
   ·rcases qCk.1 h with h|h;grind
    ·rcases qCm.1 h with rfl|h;simp;grind
   simp_all
abbrev kp(q:Pat):D:= .cptr [.v (.int .i64 q.op), .v (.int .i64 q.cond.op), .v (.string q.cond.name), .v (.string q.cond.arg), .v (.string q.cond.val), .v (.string q.cond.lab), .v (.bool q.cond.fold), .list 7 (q.cond.kids.map enc), .v (.string q.lab), .v (.string q.reg), .v (.int .i64 q.mn), .v (.int .i64 q.mx), .list 13 (q.kids.map enc)] 0
def IA{p:Pat} :Dq p=true↔p.op=6/\p.mx< 0/\p.mn<=1:=by
 simp[Dq,and_assoc]
theorem qqu(n:Nat)(h1:S zO=qao)(h3:S lA=YN n)(h4:S dA=PR n)(h5:S wh=clC)(h6:S qM=qfc):TJ lY lK S (aD (a1 St3)) qom (qix n) qbT:=by
 rintro b r v es ⟨d,s⟩ ⟨hr,hm,hs,p,hp,hop,hpn,hpa⟩;have y:=hp;obtain⟨cs,off,hd,hl13,hc13⟩:=y;have hd:d= .cptr cs off:=hd;subst hd;have hp:tS (.cptr cs off) p:=hp;have hs:X3 r.en s:=hs;have hen:=hr.en;obtain⟨c0,c10,c11,c12⟩:=P7 hl13 hc13;have hl10:off+10+1<=cs.length:=by omega
 have hl11:off+11+1<=cs.length:=by omega
 have hl12:off+12+1<=cs.length:=by omega
 have hM:=nA hpa;obtain⟨k0,U⟩:∃k,p.kids=[k]:=by
  rcases hM.nd with h|h|h|h
  ·have:=h.1;omega
  ·have:=h.1;omega
  ·have:=h.1;omega
  ·obtain⟨_,_,_,_,h⟩:=h
   match hk:p.kids,h with
   | [k],_=>exact⟨k,rfl⟩
 have hnum:0<=p.mn/\p.mn<=16/\(p.mx= -1\/p.mn<=p.mx/\p.mx<=16):=of_decide_eq_true hM.num hop;have L:k0∈p.kids:=by rw[U];simp
 have hk0d:=fq L;simp[lY,lK,F7,c10,c12,hl10,hl12,U,-fB',-eB'];have inv0:∀s t,nM r p s t↔Cm (nM r k0) p.mn p.mx s t:=qbt hop U;refine bc (X:=Int×Pat) [0,1,5] [0,990] (λx=>cM x.2<=n/\qb (qmC r) x.2/\0<=x.1/\x.1<=16/\(0<=p.mx->x.1<=p.mx)/\(Dq p=true->x.1<=1)/\∀s t,nM r p s t↔Cm (nM r x.2) x.1 p.mx s t)
  (λx=>[(7, .v (.int .i64 x.1)),(8,kp x.2)]) (λ_=>[]) ?_ ?_
 ·simp[-fB',-eB'];refine ms (X:=Int×Pat) [0,1,5] [0,990] (λx=>cM x.2<=n/\qb (qmC r) x.2/\0<=x.1/\x.1<=16/\(0<=p.mx->x.1<=p.mx)/\(Dq p=true->x.1<=1)/\∀s t,nM r p s t↔Cm (nM r x.2) x.1 p.mx s t)
   (λx=>[(7, .v (.int .i64 x.1)),(8,kp x.2)]) (λ_=>[]) (λx=>cM x.2) (p.mn,k0)
   ⟨by show cM k0<=n;omega,uJ hpa L,hnum.1,hnum.2.1,λh=>by show p.mn<=p.mx;omega,λh=>(IA.1 h).2.2,inv0⟩ (by simp) (by simp) ?_
  rintro⟨m,q⟩ ⟨g1,g2,g3,g4,g7,g5,g6⟩;simp only at g1 g2 g3 g4 g5 g6 g7;simp[h1,-fB',-eB'];have hnow:∀q':Pat,q'=q->(cM q'<=n/\qb (qmC r) q'/\0<=m/\m<=16/\(0<=p.mx->m<=p.mx)/\(Dq p=true->m<=1)/\∀s t,nM r p s t↔Cm (nM r q') m p.mx s t):=λq' e=>by subst e;exact⟨g1,g2,g3,g4,g7,g5,g6⟩
  refine⟨⟨p,hp⟩,λy1 hy1=>⟨λe1=>⟨⟨q,mz q⟩,λy2 hy2=>⟨λe2=>?_,λe2=>⟨m,q,hnow q rfl,by simp⟩⟩⟩,λe1=>⟨m,q,hnow q rfl,by simp⟩⟩⟩;have e1:=(hy1 p hp).symm.trans e1;have e2:=(hy2 q (mz q)).symm.trans e2;obtain⟨_,px,pm⟩:=IA.1 e1;obtain⟨qo,qx,qm⟩:=IA.1 e2;have hpx:p.mx= -1:=by omega
  have hMq:=nA g2;obtain⟨q1,W⟩:∃k,q.kids=[k]:=by
   rcases hMq.nd with h|h|h|h
   ·have:=h.1;omega
   ·have:=h.1;omega
   ·have:=h.1;omega
   ·obtain⟨_,_,_,_,h⟩:=h
    match hk:q.kids,h with
    | [k],_=>exact⟨k,rfl⟩
  have qnum:0<=q.mn/\q.mn<=16/\(q.mx= -1\/q.mn<=q.mx/\q.mx<=16):=of_decide_eq_true hMq.num qo;have hqx:q.mx= -1:=by omega
  have hq1m:q1∈q.kids:=by rw[W];simp
  have hq1d:=fq hq1m;have g5:=g5 e1;have hDq:nM r q=Cm (nM r q1) q.mn (-1):=by
   funext s t;exact propext (by rw[<-hqx];exact qbt qo W s t)
  have hmm:0<=m*q.mn/\m*q.mn<=1:=by
   have a:m=0\/m=1:=by omega
   have b:q.mn=0\/q.mn=1:=by omega
   rcases a with a|a<;>rcases b with b|b<;>rw[a,b] <;>decide
  refine⟨by simp only[InR];omega,by rw[W];simp,λa ha=>?_⟩;rw[W]at ha;obtain rfl:q1=a:=by simpa using ha
  refine⟨m*q.mn,q1,⟨by omega,uJ g2 hq1m,hmm.1,by omega,λh=>by omega,λ_=>hmm.2,λs t=>?_⟩,by simp,hq1d⟩;rw[g6,hDq,hpx];exact qjT (BL r q1) ⟨g3,g5⟩ ⟨qnum.1,qm⟩ s t
 rintro⟨m,q⟩ ⟨g1,g2,g3,g4,g7,g5,g6⟩;simp only at g1 g2 g3 g4 g5 g6 g7;clear inv0 g5 U L hk0d c12 hl12;simp[-fB',-eB'];refine fE (X:=Unit) [0,1,7,8] [0,990] [41] [] (λ_=>True) (λ_=>[(9, .mp (bB [s]))]) (λ_=>[]) [] (λ_=>rfl) (by decide) ?_ ?_;simp[yp,JS];rintro⟨⟩ -;obtain⟨M,rfl⟩:∃M:Nat,m=(M:Int):=⟨m.toNat,by omega⟩
 simp[-fB',-eB'];refine A4 (X:=Value×List D×List St3) [0,1,7,8] [] M (λk x=>Cn r x.2.1/\x.2.2.Nodup/\∀t,t∈x.2.2↔Pow (nM r q) k s t) (λx=>[(9, .mp (bB x.2.2))]) (λx=>[(0, .box b (mL r (.own 990 x.1))),(990, .mrow x.1 x.2.1)]) (v,es, [s]) (by simp) (by simp) (by omega) (by simp) (by simp)
  ⟨hm,by simp,λt=>by simp[Pow,eq_comm]⟩ (by simp) (by simp) ?_ ?_
 ·rintro k ⟨v2,es2,l⟩ hk ⟨E,N,Y⟩;simp only at E N Y;simp[h3,D4,F7,-fB',-eB'];refine⟨⟨hr,E,⟨l,rfl,λt C=>IB (zz r q) _ _ _ ((Y t).1 C) hs⟩,q,mz q,g1,g2⟩,λv3 es3 Z hQ=>⟨v3,es3,Z,⟨hQ.1,hQ.2.1,λt=>?_⟩,rfl, .inl rfl, .inl ⟨rfl,rfl⟩⟩⟩;rw[MB,hQ.2.2 q l (mz q) rfl t];exact⟨λ⟨u,h1,h2⟩=>⟨u,(Y u).1 h1,h2⟩,λ⟨u,h1,h2⟩=>⟨u,(Y u).2 h1,h2⟩⟩
 rintro⟨v2,es2,base⟩ ⟨E,N,hb⟩;simp only at E N hb;have O:∀t,nM r p s t↔ ∃k:Nat,(p.mx< 0\/(M:Int) +k<=p.mx)/\Jp (nM r q) base k t:=λt=>by
  rw[g6 s t];exact qfC (mn:=(M:Int)) (λu=>by rw[hb u];rfl) t
 have hbl:∀t∈base,X3 r.en t:=λt C=>IB (zz r q) _ _ _ ((hb t).1 C) hs
 clear hb g6;have hbz:qqm (nM r q) base 0 base base:=qhV _ _;have hrn:∀{j:Nat} {t:St3},Jp (nM r q) base j t->X3 r.en t/\(j:Int)<=t.p:=λ{j t} ⟨u,h1,h2⟩=>by
  have a:=hbl u h1;have c:=IB (R:=Jq (nM r q)) (λs t q=>zz r _ s t q.1) j _ _ h2 a;have d:=Ng h2;have:=a.1;exact⟨c,by omega⟩
 simp[h5,-fB',-eB'];constructor
 ·intro h0;have A:=fV h0;subst A;refine aA (X:=Unit) [0,1,8,9,10,11] [0,990] (λ_=>True) (λ_=>[]) (λ_=>[]) (λ_=>0) () trivial ?_;rintro⟨⟩ -;refine bc (X:=Unit) [0] [] (λ_=>False) (λ_=>[]) (λ_=>[]) ?_ λ_ h=>h.elim
  simp[ul,-fB',-eB'];refine QA v2 es2 [] (.same _) (by simp[ai]) (by simp[ai]) ⟨E,qDS,λp' y t=>?_⟩;obtain rfl:=tK hp y;rw[O];exact⟨λh=>(by cases h),λ⟨k,_,u,hu,_⟩=>(by cases hu)⟩
 intro hne v5;refine ms (X:=Nat×List St3×List St3×Value×List D) [0,1,8,10] [] (λx=>(p.mx< 0\/(M:Int) +x.1<=p.mx)/\Cn r x.2.2.2.2/\x.2.1.Nodup/\x.2.2.1.Nodup/\qqm (nM r q) base x.1 x.2.1 x.2.2.1)
  (λx=>[(9, .mp (bB x.2.2.1)),(11, .v (.int .i64 (M+x.1)))]) (λx=>[(0, .box b (mL r (.own 990 x.2.2.2.1))),(990, .mrow x.2.2.2.1 x.2.2.2.2),(53, .mrow v5 (bB x.2.1))]) (λx=>r.en.toNat+1 -x.1) (0,base,base,v2,es2)
  ⟨by show p.mx< 0\/(M:Int) + ((0:Nat):Int)<=p.mx;omega,E,N,N,hbz⟩ (by simp) (by simp) ?_
 rintro⟨j,out,new,v6,es6⟩ ⟨e1,hm6,ho6,hn6,hB⟩;simp only at e1 hm6 ho6 hn6 hB;have hjm:(new≠ []->(j:Int)<=r.en):=λh=>by
  obtain⟨t,C⟩:=List.exists_mem_of_ne_nil _ h;obtain⟨a,c⟩:=hrn (hB.f t C);have:=a.2.1;omega
 refine bc (X:=Unit) [0,1,8,9,10,11] [0,990,53] (λ_=>new≠ []/\(p.mx< 0\/(M:Int) +j<p.mx)) (λ_=>[]) (λ_=>[]) ?_ ?_
 ·simp[c11,hl11,-fB',-eB'];have hnz:0<(bB new).length->¬new=[]:=λh e=>by subst e;simp[bB]at h
  refine⟨λh0=>⟨λh1=>⟨λh2=>⟨hnz h0, .inr h2⟩,λh2=>?_⟩,λh1=>⟨hnz h0, .inl h1⟩⟩,λh0=>?_⟩
  ·refine QA v6 es6 out (yp (by simp[ai])) (by simp[ai]) (by simp[ai]) ⟨hm6,ho6,λp' y t=>?_⟩;obtain rfl:=tK hp y;rw[O,hB.o];exact⟨λ⟨k,h3,h4⟩=>⟨k, .inr (by omega),h4⟩,λ⟨k,h3,h4⟩=>⟨k,by omega,h4⟩⟩
  ·have A:=fV h0;subst A;refine QA v6 es6 out (yp (by simp[ai])) (by simp[ai]) (by simp[ai]) ⟨hm6,ho6,λp' y t=>?_⟩;obtain rfl:=tK hp y;rw[O];constructor
   ·intro h;obtain⟨k,h3,h4⟩:=(hB.o t).1 h;exact⟨k,by omega,h4⟩
   ·rintro⟨k,_,h4⟩;exact(qhX hB t).2 ⟨k,h4⟩
 rintro⟨⟩ ⟨hne,hgo⟩;have hjr:=hjm hne;simp[-fB',-eB'];intro v7;refine fE (X:=Value×List D×List St3) [0,1,8,10,11] [53] [75] [] (λx=>Cn r x.2.1/\x.2.2.Nodup/\∀t,t∈x.2.2↔t∉out/\∃a∈new,Jq (nM r q) a t) (λx=>[(12, .mp (bB x.2.2))]) (λx=>[(0, .box b (mL r (.own 990 x.1))),(990, .mrow x.1 x.2.1)]) [0,990] (λ_=>rfl) (by decide) ?_ ?_
 ·simp[-fB',-eB'];intro b7;refine ms (X:=Value×List D×List St3×List D×List St3) [0,1,8,10,11,12,77] [53] (λx=>Cn r x.2.1/\x.2.2.1.Nodup/\(∀a∈x.2.2.2.2,a∈new)/\(∀t∈x.2.2.1,t∉out/\∃a∈new,Jq (nM r q) a t)/\∀a∈new,a∈x.2.2.2.2\/ ∀t,Jq (nM r q) a t->t∉out->t∈x.2.2.1)
   (λ_=>[]) (λx=>[(0, .box b (mL r (.own 990 x.1))),(990, .mrow x.1 x.2.1),(75, .mrow v7 (bB x.2.2.1)),(77, .miter b7 x.2.2.2.1 (bB x.2.2.2.2))]) (λx=>x.2.2.2.2.length) (v6,es6, [], [],new)
   ⟨hm6,qDS,λ_ h=>h,λ_ h=>(by cases h),λs hs=> .inl hs⟩ (by simp) (by simp[ul]) ?_
  rintro⟨v8,es8,w,cur,left⟩ ⟨F,I,hl8,ho8,hd8⟩;simp only at F I hl8 ho8 hd8;simp[-fB',-eB'];refine⟨λh0=>?_,λl1 x l2 hsp=>?_⟩
  ·have A:=fV h0;subst A;refine⟨v8,es8,w,⟨F,I,λt=>⟨ho8 t,λ⟨h3,a,h4,h5⟩=>(hd8 a h4).elim (λh=>by cases h) λh=>h t h5 h3⟩⟩,yp (by simp[JS,ai]), .inl (.inl rfl), .inl (.inl rfl)⟩
  ·obtain⟨a1,a,c1,rfl,rfl,rfl,rfl⟩:=ip hsp;have ha:a∈new:=hl8 a (by simp);have haL:=(hrn (hB.f a ha)).1;have hPr:qbW n r es8 (kp q,a):=⟨hr,F,haL,q,mz q,g1,g2⟩
   simp[h4,D4,hPr,F7,-fB',-eB'];intro b13 v9 es9 Z hQ b9;have hys:=hQ.2.2 q (mz q);refine ms (X:=List St3×List D×List St3) [0,1,8,10,11,12,13,77,86] [0,990,13,53,77] (λx=>x.1.Nodup/\(∀t∈x.2.2,t∈Z)/\(∀t∈w,t∈x.1)/\(∀t∈x.1,t∈w\/t∉out/\t∈Z/\a.p<t.p)/\∀t∈Z,t∈x.2.2\/(a.p<t.p->t∉out->t∈x.1))
    (λ_=>[]) (λx=>[(75, .mrow v7 (bB x.1)),(86, .miter b9 x.2.1 (bB x.2.2))]) (λx=>x.2.2.length) (w, [],Z)
    ⟨I,λ_ h=>h,λ_ h=>h,λ_ h=> .inl h,λ_ h=> .inl h⟩ (by simp) (by simp) ?_
   rintro⟨J,cur2,left2⟩ ⟨k1,k2,k3,k4,k5⟩;simp only at k1 k2 k3 k4 k5;simp[-fB',-eB'];refine⟨λh0=>?_,λl1 x l2 hsp2=>?_⟩
   ·have A:=fV h0;subst A;refine⟨v9,es9,J,_,a1++c1,⟨hQ.1,k1,λx h=>hl8 x (by simp only[qCk,qCm]at h ⊢;rcases h with h|h<;>simp[h]),λt C=>?_,λx hx=>?_⟩,⟨.inl rfl, .inl ⟨rfl,rfl⟩, .inl rfl, .inl ⟨rfl,(iT a1 c1).symm⟩⟩,by simp⟩
    ·rcases k4 t C with h|⟨h,h',h''⟩
     ·exact ho8 t h
     ·exact⟨h,a,ha,(hys t).1 h',h''⟩
    ·rcases hd8 x hx with h|h
     ·rcases qCk.1 h with h|h
      ·exact .inl (by simp[h])
      ·rcases qCm.1 h with rfl|h
       ·exact .inr λt C K=>(k5 t ((hys t).2 C.1)).elim (λh=>by cases h) λh=>h C.2 K
       ·exact .inl (by simp[h])
     ·exact .inr λt C K=>k3 t (h t C K)
   ·obtain⟨a2,t,c2,rfl,rfl,rfl,rfl⟩:=ip hsp2;have Q:∀x∈a2++c2,x∈Z:=λx h=>k2 x (by simp only[qCk,qCm]at h ⊢;rcases h with h|h<;>simp[h])
    have C:t∈Z:=k2 t (by simp);have K:(a.p<t.p->t∉out->t∈J)->∀x∈Z,x∈a2++c2\/(a.p<x.p->x∉out->x∈J):=λhh x hx=>by
     rcases k5 x hx with h|h
     ·rcases qCk.1 h with h|h
      ·exact .inl (by simp[h])
      ·rcases qCm.1 h with rfl|h
       ·exact .inr hh
       ·exact .inl (by simp[h])
     ·exact .inr h
    by_cases e3:a.p<t.p
    rotate_left
    ·simp[e3,-fB',-eB'];exact⟨J,_,a2++c2,⟨k1,Q,k3,k4,K λh=>absurd h e3⟩,⟨.inl rfl, .inl ⟨rfl,(iT a2 c2).symm⟩⟩,by simp⟩
    by_cases e4:t∈out
    ·simp[e3,e4,-fB',-eB'];exact⟨J,_,a2++c2,⟨k1,Q,k3,k4,K λ_ h=>absurd e4 h⟩,⟨.inl rfl, .inl ⟨rfl,(iT a2 c2).symm⟩⟩,by simp⟩
    ·simp[e3,e4,-fB',-eB'];refine⟨yn t J,_,a2++c2,⟨zA k1,Q,λx hx=>ft.2 (.inr (k3 x hx)),λx hx=>?_,λx hx=>?_⟩,⟨.inl rfl, .inl ⟨rfl,(iT a2 c2).symm⟩⟩,by simp⟩
     ·rcases ft.1 hx with rfl|h
      ·exact .inr ⟨e4,C,e3⟩
      ·exact k4 x h
     ·rcases k5 x hx with h|h
      ·rcases qCk.1 h with h|h
       ·exact .inl (by simp[h])
       ·rcases qCm.1 h with rfl|h
        ·exact .inr λ_ _=>ft.2 (.inl rfl)
        ·exact .inl (by simp[h])
      ·exact .inr λq1 q2=>ft.2 (.inr (h q1 q2))
 ·rintro⟨v8,es8,w⟩ ⟨F,I,hx8⟩;simp only at F I hx8;simp[h6,-fB',-eB'];refine⟨⟨out,w,rfl,rfl,ho6⟩,λl' hQ=>?_⟩;obtain⟨out',rfl,ho',hx'⟩:=hQ out w rfl rfl;exact⟨by simp only[InR];omega,j+1,out',w,v8,es8,⟨by omega,F,ho',I,qhW hB hx8 hx'⟩,⟨⟨rfl,by omega⟩, .inl rfl, .inl ⟨rfl,rfl⟩, .inl rfl⟩,by omega⟩
end
section
open Cod (enc dec)
open Go.Proofs Go.Sort Go.Shelf Go.Lib Go.RowKit
def SY{α c:Type}{f:α->List c}{n:Nat} :∀{l:List α},(∀x∈l,(f x).length=n)->∀{i j:Nat},j<n->(l.flatMap f)[i*n+j]? =(l[i]?).bind λx=>(f x)[j]?
 | [],_,i,j,_=>by simp
 | d::es,h,0,j,b=>by
   have a:=h d (by simp);simp only[qC9,Nat.zero_mul,qCR];rw[qCK (by omega)];simp
 | d::es,h,i+1,j,b=>by
   have a:=h d (by simp);have p:=SY (l:=es) (λd a=>h d (by simp[a])) (i:=i) b;simp only[qC9];rw[qCG (by rw[a,qDj];omega),a];have:(i+1) *n+j -n=i*n+j:=by rw[qDj];omega
   rw[this,p];simp
def II{α a:Type}{f:α->List a}{n:Nat} :∀{l:List α},(∀x∈l,(f x).length=n)->(l.flatMap f).length=l.length*n
 | [],_=>by simp
 | d::es,h=>by
   have b:=II (l:=es) (λd c=>h d (by simp[c]));simp only[qC9,qCJ];rw[b,h d (by simp),qCZ,qDj];omega
section
variable {X:Type}[Cod X][Inhabited X](ev:X->List Value)(k:Nat)(hk:∀x,(ev x).length=k)
include hk
omit [Cod X]in
theorem zD(l:List X):(flatK ev k l.toArray).toList=l.flatMap ev:=by
 have hl:=II (f:=ev) (n:=k) (l:=l) (λx _=>hk x);apply qCP;intro t;by_cases ht:t<l.length*k
 ·have k0:0<k:=by
   rcases qED k with h|h
   ·subst h;simp at ht
   ·exact h
  have h1:=get_flatK ev k l.toArray t (by simpa using ht);have hs:t<(flatK ev k l.toArray).size:=by simpa using ht
  rw[getElem!_pos _ t hs]at h1;rw[qCA,qCQ hs,h1];have hm:t % k<k:=qDs _ k0;have hdm:t=(t/k) *k+t % k:=by have:=qDn t k;rw[qD2]at this;omega
  have hq:t/k<l.length:=qEf (by rw[qD2];exact ht);have h2:=SY (f:=ev) (n:=k) (l:=l) (λx _=>hk x) (i:=t/k) hm;rw[<-hdm]at h2;rw[h2,qCe hq];have h3:(l.toArray)[t/k]! =l[t/k]:=by rw[getElem!_pos l.toArray (t/k) (by simpa using hq)];simp
  rw[h3];have h4:t % k<(ev l[t/k]).length:=by rw[hk];exact hm
  simp only[qCy];rw[getElem!_pos (ev l[t/k]) (t % k) h4,qCe h4]
 ·rw[qCz (by simpa using ht),qCz (by omega)]
end
def zB{w:World}{b j el:Nat}{c:Array Value}(h:w.heap[b]? =some (.cells c el (0,0))):w.frozen? ⟨b,j,none⟩=false:=by
 simp[World.frozen?,h]
def EP{w:World}{b j el:Nat}{c:Array Value}{fr:Nat×Nat}(h:w.heap[b]? =some (.cells c el fr)):w.cell? ⟨b,j,none⟩=c[j]?:=by
 simp[World.cell?,h]
def Cs{w:World}{gb b:Nat}{f:Array Value->Array Value}{os:Array Obj}(hb:b<w.heap.size)(a:b≠gb):(grow (mapBlock w gb f) os).heap[b]? =w.heap[b]?:=by
 simp only[grow,mapBlock];rw[qC0 (by simpa using hb),qEb];have:¬gb=b:=λe=>a e.symm
 simp[this]
def Mz{w:World}{gb el:Nat}{c:Array Value}{fr:Nat×Nat}{f:Array Value->Array Value}{os:Array Obj}(h:w.heap[gb]? =some (.cells c el fr)):(grow (mapBlock w gb f) os).heap[gb]? =some (.cells (f c) el fr):=by
 have hb:gb<w.heap.size:=(qCp.1 h).1;simp only[grow,mapBlock];rw[qC0 (by simpa using hb),qEb];simp[h,onCells]
variable {dq:Prop}
section
variable {P:Program}{ρ:Ren}
theorem qo8{tp I p q:Nat->Prop}{w w':World}{v:Value}{l:List Int}(h:R tp I w v (enc l))(hI:∀b,I b->q b/\w'.heap[b]? =w.heap[b]?):R p q w' v (enc l):=by
 have h:R tp I w v (.list 1 (l.map enc)):=h;show R p q w' v (.list 1 (l.map enc));have j:∀c∈ba (l.map (enc (X:=Int))),∃x:Int,c= .v (.int .i64 x):=λc hm=>by
  unfold ba at hm;obtain⟨d,t,hc⟩:=qDq.1 hm;obtain⟨x,_,rfl⟩:=qCo.1 t;simp_all
 generalize l.map (enc (X:=Int))=es at h j;cases h with
 |nolist a cap n=>exact .nolist _ _ _
 | list b off cap n _ f r hc hm hz hn hcell h1 s=>
   refine .list b off cap 1 _ f (hI b r).1 hc hm (λh=>absurd rfl h) hn (λk c hk=>by grind [D,PlainB,World.cell?_of_block]) h1 λk c hk=>?_
   have u:=s k c hk;obtain⟨x,y⟩:=j c (qCg hk);subst y;have:=u.inv_v;rw[this];exact .int .i64 x
def Hs(xs:List Value)(n:Nat)(i:_root_.Fin n):List Value:=(xs.drop (i.val*3)).take 3
def qhP(l:List bY)(i j:_root_.Fin l.length):Int:=I1 l[i] l[j]
theorem rX(l:List bY)(i j:_root_.Fin l.length):ltOf (qhP l) i j=true↔Za l[i] l[j]:=by
 unfold ltOf qhP Za;simp
def qjD(l:List bY):SWO (ltOf (qhP l)):=by
 refine⟨λx=>?_,λx y z h1 h2=>?_,λx y z h1 h2=>?_⟩;simp[qDp,rX,qaZ];grind [rX,Cy]
 ·rw[qDp,ne_eq,rX]at*;grind [Li,Cy]
theorem Th{xs:List Value}{n:Nat}(a:xs.length=n*3)(i:_root_.Fin n){j:Nat}(b:j< 3):(Hs xs n i)[j]? =xs[i.val*3+j]?:=by
 simp_all [Hs]
def qbk{xs:List Value}{n:Nat}(a:xs.length=n*3)(i:_root_.Fin n):(Hs xs n i).length=3:=by
 grind [Hs]
def qpg(g:Nat)(x:D×Unit)(l:List bY):Prop:=x.1= .clo g []/\l.length<=1000000000/\l.Nodup
def qo9(_:D×Unit)(l r:List bY):Prop:=CL r/\r.length=l.length/\∀m,m∈r↔m∈l
abbrev YK(g el:Nat):Spc:=qn8 (Y:=bY) (aD a0) (qpg g) qo9 el 3
def qbF(m:bY):(enc m).cells=[.v (.int .i64 m.b), .v (.int .i64 m.e),enc m.lbs]:=by rfl
theorem qdO{g:Nat}(J:Tri True P g s_cmpM.pt)(K:iU=[]){tp I:Nat->Prop}{w:World}{gb:Nat}{l:List bY}[Inhabited (_root_.Fin l.length)]{xs:List Value}(L:xs.length=l.length*3)
 (hI:∀b,I b->b<w.heap.size/\b≠gb) (M:∀(i j:Nat) (y:Value) (c:D),i<l.length->j< 3->xs[i*3+j]? =some y->∀m,l[i]? =some m->(enc m).cells[j]? =some c->y.oneCell'=true/\R tp I w y c):
 CmpLays P g #[] (Hs xs l.length) 3 (qhP l) gb 0 l.length w:=by
 intro m os t _ x y;have a:∀b,I b->(sortWorldK (Hs xs l.length) 3 w gb 0 m t os).heap[b]? =w.heap[b]?:=λb hb=>Cs (w:=Sort.ahead w m) (hI b hb).1 (hI b hb).2
 have d:w.heap.size<=(sortWorldK (Hs xs l.length) 3 w gb 0 m t os).heap.size:=by simp[sortWorldK,grow,putRowK,putRow,mapBlock,Sort.ahead]
 generalize sortWorldK (Hs xs l.length) 3 w gb 0 m t os=W at a d ⊢;have q:∀z:_root_.Fin l.length,R (λ_=>False) (aN (λb=>b<W.heap.size/\ ¬I b) (λ_=>False) bV W) W (.agg (Hs xs l.length z).toArray) (enc l[z]):=λz=>by
  have he:enc l[z]= .agg [.v (.int .i64 l[z].b), .v (.int .i64 l[z].e),enc l[z].lbs]:=by simp
  have hcell:∀(j:Nat) (v:Value) (c:D),j< 3->(Hs xs l.length z)[j]? =some v->(enc l[z]).cells[j]? =some c->v.oneCell'=true/\R tp I w v c:=λj v c u h1 h2=>
   M z.val j v c z.isLt u (by grind [Tri,iU,Th]) l[z] (by simp) h2
  have h3:=qbk L z;rw[he];refine .agg _ _ (by omega) (λv A=>?_) λj v c h1 h2=>?_
  ·obtain⟨j,u,rfl⟩:=qEB A;have k:j< 3:=by omega
   have hc:j<(enc l[z]).cells.length:=by simp_all
   exact(hcell j _ _ k (qCe u) (qCe hc)).1
  ·have k:j< 3:=by have:=(qCd.1 h2).1;simpa using this
   have C:=(hcell j v c k h1 (by rw[qbF];exact h2)).2;rcases j with _|_|_|j
   ·cases h2;rw[C.inv_v];exact .int .i64 _
   ·cases h2;rw[C.inv_v];exact .int .i64 _
   ·cases h2;exact qo8 C λb hb=>⟨⟨qCt (hI b hb).1 d,λh=>h.2 hb,λh=>h,λ⟨i,r,h,_⟩=>by simp[bV]at h⟩,a b hb⟩
   ·omega
 obtain⟨_,hc⟩:=J (λb=>b<W.heap.size/\ ¬I b) (λ_=>False) W [.agg (Hs xs l.length x).toArray, .agg (Hs xs l.length y).toArray] [enc l[x],enc l[y]] bV 0 (λr H'=>r=enc (qhP l x y)/\H'=bV) (λb h=>h.1) ⟨λb h=>h.elim,λp hp=>by rw[K]at hp;cases hp⟩
  ⟨λi j r s b h=>by simp[bV]at h,λi r b h=>by simp[bV]at h,λi r h=>by simp[bV]at h⟩ rfl
  (λj v c h1 h2=>by
    rcases j with _|_|j
    ·simp only[qEr,qCq]at h1 h2;subst h1;subst h2;exact q x
    ·simp only[qD6,qEr,qCq]at h1 h2;subst h1;subst h2;exact q y
    ·simp at h1)
  (by
    rw[su,qih,Cod.dec_enc,Cod.dec_enc];exact⟨trivial,λz hz=>by subst hz;exact⟨rfl,rfl⟩⟩)
 refine hc.mono ?_;rintro e w' ⟨v,r,H',N,rfl,⟨rfl,rfl⟩,_,_,_,hs,_,_,A⟩;have E:v= .int .i64 (qhP l x y):=R.inv_v A;subst E;refine⟨rfl,w'.drawn -W.drawn,w'.heap.extract W.heap.size w'.heap.size,?_⟩;have F:w'.heap=W.heap++w'.heap.extract W.heap.size w'.heap.size:=by
  apply Array.ext_getElem?;intro b;by_cases hb:b<W.heap.size
  ·rw[qC0 hb];exact hs.same b hb (λ⟨i,r,h,_⟩=>by simp[bV]at h) (λh=>h)
  ·rw[Array.getElem?_append_right (by omega),qEw];have O:W.heap.size<=w'.heap.size:=hs.size;by_cases Q:b<w'.heap.size
   ·rw[if_pos (by omega)];congr 1;omega
   ·rw[if_neg (by omega),qDN (by omega)]
 have h1:=hs.os;have h2:=hs.tape;have h3:=hs.output;have h4:=hs.drawn trivial;have h5:W.drawn+ (w'.drawn -W.drawn)=w'.drawn:=by omega
 cases w';grind [Tri,iU,grow,World.drewN]
def qkI(l:List bY):(List.finRange l.length).map (λi=>l[i])=l:=by
 refine qEa (by simp) λi h1 h2=>?_
 simp
theorem qcs{J g el:Nat}(L:SlLaysF0.n6 P ρ)(hf:ρ.f 6=J)(aE:∀w,(isAgg (ρ.t 24)).run P w= .ok true w)(zE:∀w,(Go.sizeOf (ρ.t 24)).run P w= .ok 3 w)(hT:iU=[])(hg:Tri True P g s_cmpM.pt)(eg:dj P g)(ef:dj P J):
 Tri dq P J (YK g el).pt:=by
 subst hf;intro O tp w vs ds H d K hO' htl p hlen E hA;obtain⟨id,v,l,ds',x,rfl,hd,hid,⟨hx1,hl5,hnd⟩,hK⟩:=hA;have hds:ds'=[.clo g []]:=by
  match ds',hd with
  | [],h=>cases h
  | a::r,h=>
    rw[qig]at h
    match r,h with
    | [],h=>
      simp at h;grind
    |b::r,h=>cases h
 subst hds
 match vs,hlen,E with
 | [v0,fv],_,E=>
 have e0:v0=v:=by
  have:=E 0 v0 _ rfl rfl;cases this;rfl
 have e1:fv= .func (.func g) #[] #[]:=by
  have:=E 1 fv _ rfl rfl;cases this with
  | clo _ xs _ hl _=>
    have:xs=[]:=by simpa using hl
    subst this;rfl
 subst e0;subst e1;refine⟨ef,?_⟩;obtain⟨xs,⟨W,hx⟩,hkn,hcells⟩:=p.ok id _ hid;have hll:(l.map (enc (X:=bY))).length=l.length:=by simp
 have hkw:∀d∈l.map (enc (X:=bY)),d.cells.length=3:=λd hd=>(hkn d hd).2
 rcases hx with⟨rfl,h0⟩|⟨gb,cap,cur,rfl,_,hgb,hcap,hcapm,hsz,Z⟩
 ·have hl0:l=[]:=by simpa using h0
  subst hl0;refine(AnyF.slices_SortFunc_none L none 0 _ w).mono ?_;rintro e w' ⟨rfl,rfl⟩;have hH:ai H id (some (.row (.slice none 0 0) el 3 (([]:List bY).map enc)))=H:=by
   funext i;simp only[ai];by_cases hi:i=id
   ·subst hi;simp[hid]
   ·simp[hi]
  refine⟨_,_,_,tp,rfl,hK [] ⟨List.Pairwise.nil,rfl,λ_=>qDz⟩,λb h=>h,λb h=> .inl h,htl.1, .refl _ _ _,λb h=> .inl (by rwa [hH]at h),by rw[hH];exact p, .tup [] [] rfl (λk x c h=>by simp at h)⟩
 rw[hll]at hcap W Z ⊢;by_cases hl0:l=[]
 ·subst hl0;refine(AnyF.slices_SortFunc_none L (some ⟨gb,0,none⟩) cap _ w).mono ?_;rintro e w' ⟨rfl,rfl⟩;have hH:ai H id (some (.row (.slice (some ⟨gb,0,none⟩) (([]:List bY).map (enc (X:=bY))).length cap) el 3 (([]:List bY).map enc)))=H:=by
   funext i;simp only[ai];by_cases hi:i=id
   ·subst hi;simp[hid]
   ·simp[hi]
  refine⟨_,_,_,tp,rfl,hK [] ⟨List.Pairwise.nil,rfl,λ_=>qDz⟩,λb h=>h,λb h=> .inl h,htl.1, .refl _ _ _,λb h=> .inl (by rwa [hH]at h),by rw[hH];exact p, .tup [] [] rfl (λk x c h=>by simp at h)⟩
 have hlp:0<l.length:=List.length_pos_iff.2 hl0
 letI inst:Inhabited (_root_.Fin l.length):=⟨⟨0,hlp⟩⟩
 have hbo:(Res.row (.slice (some ⟨gb,0,none⟩) l.length cap) el 3 (l.map enc)).blk=some gb:=rfl;have C:H id=some (.row (.slice (some ⟨gb,0,none⟩) l.length cap) el 3 (l.map enc)):=by rw[hid,hll]
 have S:bz H gb:=⟨id,_,C,hbo⟩
 have u:∀(i j:Nat) (y:Value) (c:D),i<l.length->j< 3->xs[i*3+j]? =some y->∀m,l[i]? =some m->(enc m).cells[j]? =some c->y.oneCell'=true/\R tp (aN O tp H w) w y c:=λi j y c hi Y hy m hm hc=>by
  refine hcells (i*3+j) y c hy ?_;rw[dJ hkw Y,qCu,hm];exact hc
 have hgs:gb<w.heap.size:=(qCp.1 hgb).1;have hlays:=qdO (gb:=gb) hg hT (tp:=tp) (I:=aN O tp H w) (w:=w) W (λb hb=>⟨hb.1,λe=>hb.2.2.2 (e ▸S)⟩) u;have q:∀z:_root_.Fin l.length,(Hs xs l.length z).length=3:=qbk W;have hone:∀(z:_root_.Fin l.length),∀y∈Hs xs l.length z,y.oneCell'=true:=λz y hy=>by
  obtain⟨j,Y,rfl⟩:=qEB hy;have hj3:j< 3:=by have:=q z;omega
  have hc:j<(enc l[z]).cells.length:=by rw[qbF];exact hj3
  exact(u z.val j _ _ z.isLt hj3 (by rw[<-Th W z hj3];exact qCe Y) l[z] (by simp) (qCe hc)).1
 have hfm:(List.finRange l.length).flatMap (Hs xs l.length)=xs:=by
  refine qCP λt=>?_
  by_cases ht:t<l.length*3
  ·have hm:t % 3< 3:=qDs _ (by decide);have hdm:t=(t/3) *3+t % 3:=by have:=qDn t 3;omega
   have hq:t/3<l.length:=by omega
   have h2:=SY (f:=Hs xs l.length) (n:=3) (l:=List.finRange l.length) (λx _=>q x) (i:=t/3) hm;rw[<-hdm]at h2;rw[h2];have h3:(List.finRange l.length)[t/3]? =some ⟨t/3,hq⟩:=by
    rw[qCe (by simpa using hq)];simp
   rw[h3,qCy,Th W _ hm];congr 1;exact hdm.symm
  ·have h4:=II (f:=Hs xs l.length) (n:=3) (l:=List.finRange l.length) (λx _=>q x);rw[qCz (by rw[h4];simp;omega),qCz (by omega)]
 have hcur:∀j,j<l.length*3->cur[j]? =xs[j]?:=λj Y=>by
  rw[<-Z,qCv,if_pos Y,qCA]
 have hsz0:(List.finRange l.length).toArray.size=l.length:=by simp
 have hH:HoldsK (Hs xs l.length) 3 w gb 0 (List.finRange l.length).toArray:=by
  intro j Y;have hj':j<l.length*3:=by simpa using Y
  refine⟨?_,zB hgb⟩;have h6:xs[j]? =(flatK (Hs xs l.length) 3 (List.finRange l.length).toArray).toList[j]?:=congrArg (λz:List Value=>z[j]?) ((zD (Hs xs l.length) 3 q (List.finRange l.length)).trans hfm).symm;rw[EP hgb,qCR,hcur j hj',h6,qCA,qCQ Y,getElem!_pos _ j Y];rfl
 have hndi:∀x y:_root_.Fin l.length,l[x]=l[y]->x=y:=λx y e=>by
  have hp:=qDy.1 hnd;apply Fin.ext;rcases qEJ x.val y.val with h|h|h
  ·exact absurd e (hp x.val y.val x.isLt y.isLt h)
  ·exact h
  ·exact absurd e.symm (hp y.val x.val y.isLt x.isLt h)
 have M:=AnyQ.slices_SortFunc_total L 3 aE zE (Hs xs l.length) q hone (qhP l) (qjD l) g #[] gb 0 cap (List.finRange l.length).toArray w eg (by rw[hsz0];exact hlays) hH hgs (by rw[hsz0];omega) (λx y h1 h2=>by
  rw[qDp,ne_eq,rX]at h1 h2;rcases Li h1 with e|e
  ·exact hndi _ _ e
  ·exact absurd e h2)
 rw[hsz0]at M;refine M.mono ?_;rintro e w' ⟨rfl,n,os,N⟩;simp only[List.toList_toArray]at N;generalize hl':((List.finRange l.length).mergeSort λx y=>!(ltOf (qhP l)) y x)=l' at N;have A:l'.length=l.length:=by rw[<-hl'];simp
 have hwo:∀b,b<w.heap.size->b≠gb->w'.heap[b]? =w.heap[b]?:=λb hb hne=>by
  rw[N];exact Cs (w:=Sort.ahead w n) hb hne
 have hthis:w'.heap[gb]? =some (.cells (putCells _root_.id 0 (flatK (Hs xs l.length) 3 l'.toArray) cur) el (0,0)):=by
  rw[N];exact Mz (w:=Sort.ahead w n) hgb
 have hws:w.heap.size<=w'.heap.size:=by
  rw[N];simp[sortWorldK,grow,putRowK,putRow,mapBlock,Sort.ahead]
 have hos:w'.os=w.os/\w'.tape=w.tape/\w'.output=w.output/\w.drawn<=w'.drawn:=by
  rw[N];exact⟨rfl,rfl,rfl,Nat.le_add_right _ _⟩
 clear N M;have htp:∀b,tp b->b≠gb:=λb hb e=>(p.out id _ gb C hbo).2 (e ▸hb)
 have U:∀b,tp b->TapeStep w w' b:=λb hb=> .same (hwo b (htl.1 b hb) (htp b hb))
 have hperm:l'.Perm (List.finRange l.length):=by rw[<-hl'];exact List.mergeSort_perm _ _
 have hsort:CL (l'.map λi=>l[i]):=by
  have h1:l'.Pairwise λx y=>(!(ltOf (qhP l)) y x)=true:=by
   rw[<-hl'];refine List.pairwise_mergeSort (λa b c h1 h2=>?_) (λa b=>?_) _
   ·simp only[qDO,qDp,ne_eq,rX]at h1 h2 ⊢;intro h3;rcases Li h1 with e|e
    ·exact h2 (e ▸h3)
    ·exact h2 (Cy h3 e)
   ·by_cases h:Za l[b] l[a]
    ·have:¬Za l[a] l[b]:=λh2=>qaZ _ (Cy h h2)
     have h3:ltOf (qhP l) a b=false:=by rw[qDp,ne_eq,rX];exact this
     rw[h3];simp
    ·have h3:ltOf (qhP l) b a=false:=by rw[qDp,ne_eq,rX];exact h
     rw[h3];simp
  have h2:l'.Nodup:=hperm.nodup_iff.2 (List.nodup_finRange _);unfold CL;rw[qEK];refine(h1.and h2).imp λ{x y} h=>?_
  have h3:=h.1;simp only[qDO,qDp,ne_eq,rX]at h3;rcases Li h3 with e|e
  ·exact absurd (hndi _ _ e).symm h.2
  ·exact e
 have hmem:∀m,m∈ (l'.map λi=>l[i]) ↔m∈l:=λm=>by
  have:=(hperm.map λi=>l[i]).mem_iff (a:=m);rwa [qkI]at this
 have hK':=hK (l'.map λi=>l[i]) ⟨hsort,by simp[A],hmem⟩;rw[hll]at hK';generalize hH2:ai H id (some (.row (.slice (some ⟨gb,0,none⟩) l.length cap) el 3 ((l'.map λi=>l[i]).map enc)))=H2 at hK';have hown2:∀b,bz H2 b->bz H b:=λb ⟨i,r,h1,h2⟩=>by
  rw[<-hH2]at h1;simp only[ai]at h1;split at h1
  ·cases h1;cases h2;exact S
  ·exact⟨i,r,h1,h2⟩
 have hmove:∀y c,R tp (aN O tp H w) w y c->R tp (aN O tp H2 w') w' y c:=λy c hr=>hr.mono (λ_ h=>h) (λb hb=>⟨⟨qCt hb.1 hws,hb.2.1,hb.2.2.1,λh=>hb.2.2.2 (hown2 b h)⟩,hwo b hb.1 (λe=>hb.2.2.2 (e ▸S))⟩) U
 have F:∀i r,H2 i=some r->(i=id/\r= .row (.slice (some ⟨gb,0,none⟩) l.length cap) el 3 ((l'.map λi=>l[i]).map enc))\/(i≠id/\H i=some r):=λi r h=>by
  rw[<-hH2]at h;simp only[ai]at h;split at h
  ·rename_i e;cases h;exact .inl ⟨e,rfl⟩
  ·rename_i e;exact .inr ⟨e,h⟩
 refine⟨_,_,H2,tp,rfl,hK',λb h=>h,λb h=> .inl h,λb hb=>qCt (htl.1 b hb) hws,⟨hos.1,hos.2.1,hos.2.2.1,hws,λb hb ho ht=>hwo b hb (λe=>ho (e ▸S)),U,λ_=>hos.2.2.2⟩,λb h=> .inl (hown2 b h),⟨?_,?_,?_⟩, .tup [] [] rfl (λk x c h=>by simp at h)⟩
 ·intro i j r s b h1 h2 h3 h4;rcases F i r h1 with⟨rfl,rfl⟩|⟨n1,k1⟩
  ·rcases F j s h2 with⟨rfl,rfl⟩|⟨n2,k2⟩
   ·rfl
   ·exact p.dis _ j _ s b C k2 h3 h4
  ·rcases F j s h2 with⟨rfl,rfl⟩|⟨n2,k2⟩
   ·exact p.dis i _ r _ b k1 C h3 h4
   ·exact p.dis i j r s b k1 k2 h3 h4
 ·intro i r b h1 h2;rcases F i r h1 with⟨rfl,rfl⟩|⟨n1,k1⟩
  ·exact p.out _ _ b C h2
  ·exact p.out i r b k1 h2
 ·intro i r h1;rcases F i r h1 with⟨rfl,rfl⟩|⟨n1,k1⟩
  ·have Q:=II (f:=Hs xs l.length) (n:=3) (l:=l') (λx _=>q x);have hps:(putCells _root_.id 0 (flatK (Hs xs l.length) 3 l'.toArray) cur).size=cur.size:=by simp[putCells]
   refine⟨l'.flatMap (Hs xs l.length),⟨by simp;rw[<-List.length_flatMap];exact Q, .inr ⟨gb,cap,_,by simp[A],qCC _,hthis,by simp;omega,hcapm,by rw[hps,hsz],?_⟩⟩,λd hd=>?_,λj y c h1 h2=>?_⟩
   ·simp only[qC6,A];apply qCP;intro j;rw[qCv];by_cases Y:j<l.length*3
    ·have hjc:j<cur.size:=by
      have:l.length*3<=cap*3:=qCE 3 hcap;omega
     have hjf:j<(flatK (Hs xs l.length) 3 l'.toArray).size:=by simp[A];exact Y
     rw[if_pos Y,qCA,<-zD (Hs xs l.length) 3 q l',qCA];simp only[putCells,Array.getElem?_mapIdx,qCQ hjc,qDK,qCC,qCR,hjf,and_self,if_true,Nat.sub_zero,id_eq];rw[qCQ hjf,getElem!_pos _ j hjf]
    ·rw[if_neg Y,qCz (by rw[Q,A];omega)]
   ·obtain⟨z,_,rfl⟩:=qCo.1 hd;exact⟨Cod.kn z,Cod.wid z⟩
   ·have ht:j<l'.length*3:=by rw[<-Q];exact(qCd.1 h1).1
    have hm:j % 3< 3:=qDs _ (by decide);have hdm:j=(j/3) *3+j % 3:=by have:=qDn j 3;omega
    have hq:j/3<l'.length:=by omega
    have h5:=SY (f:=Hs xs l.length) (n:=3) (l:=l') (λx _=>q x) (i:=j/3) hm;rw[<-hdm,h1,qCe hq,qCy,Th W _ hm]at h5;rw[hdm,dJ (λd hd=>by obtain⟨z,_,rfl⟩:=qCo.1 hd;exact Cod.wid z) hm,qCu,qCu,qCe hq]at h2;obtain⟨a1,a2⟩:=u (l'[j/3]).val (j % 3) y c (l'[j/3]).isLt hm h5.symm l[l'[j/3]] (by simp) h2;exact⟨a1,hmove _ _ a2⟩
  ·have hne:∀b,r.blk=some b->b≠gb:=λb hb e=>n1 (p.dis i id r _ gb k1 C (e ▸hb) hbo)
   exact(p.ok i r k1).conv hmove (λb hb=>hwo b ((p.ok i r k1).lt hb) (hne b hb))
end
end
section
open Go.Proofs
def ta:CC:=gq Tryz.f59 [1] { bx:=[7] } _
def sC:List ak:=[.tmp 2]
def Ku:FO uW [1] ta sC 8:=fo
def jj:CC:=gq Tryz.f52 [2] { bx:=[1,31],cu:=[1] } _
def iW:List ak:=[.tmp 4]
def At:FO dy [2] jj iW 34:=fo
def ji:CC:=gq Tryz.f53 [2] { bx:=[1,24] } _
def iV:List ak:=[.tmp 4]
def As:FO fu [2] ji iV 27:=fo
def vx:CC:=gq Tryz.f112 [1,2002002] {} _
def uz:List ak:=[.cell 2 true 13]
def MO:FO rF [1,2002002] vx uz 11:=fo
def sZ:CC:=gq Tryz.f177 [1,2021003,1020020] {} _
def sB:List ak:=[.cell 2 true 7]
def Kt:FO kN [1,2021003,1020020] sZ sB 24:=fo
def jD:CC:=gq Tryz.f51 [1] { bx:=[41] } _
def jr:List ak:=[.tmp 2]
def AN:FO kO [1] jD jr 44:=fo
def ib:CC:=gq Tryz.f108 [1] {} _
def gP:List ak:=[.tmp 2]
def yi:FO dz [1] ib gP 7:=fo
def pI:CC:=gq Tryz.f21 [2] { bx:=[17,20],fz:=[(17,1),(20,13)] } _
def nZ:List ak:=[.tmp 4]
def Gh:FO qL [2] pI nZ 49:=fo
def pH:CC:=gq Tryz.f57 [3] {} _
def nY:List ak:=[.tmp 6]
def Gg:FO gV [3] pH nY 33:=fo
def aG:CC:=gq Tryz.f118 [3] {} _
def aF:List ak:=[.tmp 6]
def Ed:FO ph [3] aG aF 115:=fo
def xp:CC:=gq Tryz.f55 [1] {} _
def wG:List ak:=[.tmp 2]
def O9:FO pg [1] xp wG 11:=fo
def rI:CC:=gq Tryz.f114 [1] {} _
def rv:List ak:=[.tmp 2]
def O7:FO zN [1] rI rv 58:=fo
def pJ:CC:=gq Tryz.f56 [1] {} _
def oa:List ak:=[.tmp 2]
def MR:FO wW [1] pJ oa 22:=fo
def eG:CC:=gq Tryz.f54 [] {} _
def ep:List ak:=[.tmp 4]
def rV:FO cX [] eG ep 9:=fo
def fC:CC:=gq Tryz.f113 [] {} _
def fm:List ak:=[.tmp 4]
def uL:FO fL [] fC fm 19:=fo
open Cod (enc dec)
variable {S S0:Nat->Spc}
def LU{α:Type}{l:List α}{k:Nat}{a:α}{P:α->Prop}(h:∀x∈l.take k,P x)(b:l[k]? =some a)(hp:P a):∀x∈l.take (k+1),P x:=by
 rw[aB b];intro x hx;rcases qCk.1 hx with hx|hx
 ·exact h x hx
 ·simp at hx;subst hx;exact hp
def qpe{X:Type}(m:X->Nat)(n:Nat)(x:X):Prop:=m x<=n
abbrev qaj(n:Nat):Spc:=aJ (a2 Cond Cond) (qpe (λx=>dE x.1) n) (enc (X:=Bool)) λx y=>(y=true↔x.1=x.2)
def qhF{a b:Cond}(h1:a.op=b.op)(h2:a.name=b.name)(h3:a.arg=b.arg)(h4:a.val=b.val)(h5:a.lab=b.lab)(h6:a.fold=b.fold)(c:a.kids=b.kids):a=b:=by
 cases a;cases b;simp only at*;subst h1;subst h2;subst h3;subst h4;subst h5;subst h6;subst c;rfl
theorem Yb(n:Nat)(h1:S uR=qaj n):aq B8 Bg S (a2 Cond Cond) (qpe (λx=>dE x.1) (n+1)) (enc (X:=Bool)) λx y=>(y=true↔x.1=x.2):=by
 rintro⟨a,b⟩ hn;have hn:dE a<=n+1:=hn;have c:∀k∈a.kids,∀y,qpe (λx:Cond×Cond=>dE x.1) n (k,y):=λk hk y=>by have:=NV hk;show dE k<=n;omega
 simp[B8,Bg];refine⟨λA=>⟨λC=>⟨λE=>⟨λF=>⟨λI=>⟨λJ _ _=>⟨λh e=>h (by rw[e]),λhl _=>?_⟩,λh e=>h (by rw[e])⟩,λh e=>h (by rw[e])⟩,λh e=>h (by rw[e])⟩,λh e=>h (by rw[e])⟩,λh e=>h (by rw[e])⟩,λh e=>h (by rw[e])⟩;refine ah (X:=Unit) [2,3] [] a.kids.length (λk _=>a.kids.take k=b.kids.take k) (λ_=>[]) (λ_=>[]) () (by simp) ?_ ?_
 ·rintro k -hk p;obtain⟨x,d⟩:=bh hk;obtain⟨y,j⟩:=bh (l:=b.kids) (k:=k) (by omega);have q:=aY d;obtain⟨_,s⟩:=qCd.1 d;obtain⟨_,t⟩:=qCd.1 j;simp[h1,hk,d,j,s,t,c x q,-fB'];refine⟨by omega,λr u=>⟨λw e=>?_,λK=>?_⟩⟩
  ·subst e;rw[d]at j;cases j;rw[u.2 rfl]at w;cases w
  ·rw[aB d,aB j,p,u.1 K]
 ·rintro -p;simp;have L:a.kids=b.kids:=by
   rw[qC7 (by omega),qC7 (by omega)]at p;exact p
  exact qhF A C E F I J L
abbrev JB:Spc:=aJ (a2 Pat Int) (λ_=>True) (enc (X:=Bool)) λx y=>y=(decide (x.2<=100) && oL x.1)
abbrev qak:Spc:=aJ (a2 Cond Cond) (λ_=>True) (enc (X:=Bool)) λx y=>(y=true↔x.1=x.2)
def Ub(h1:S uR=qak):aq zU yO S (a2 Pat Int) (λ_=>True) (enc (X:=Bool)) λx y=>y=(decide (x.2<=100) && oL x.1):=by
 rintro⟨p,d⟩ -;simp[zU,yO,h1,-fB'];clear h1;refine⟨λh c=>absurd h (by omega),λb y a=>?_⟩;have a:y=true↔p.cond=qd:=a;rw[decide_eq_true b,qDE];revert a;revert y
 repeat' first|apply And.intro|intro _
 all_goals (rw[qCS,tY];unfold vK;simp_all;try omega)
abbrev Vd(n:Nat):Spc:=aJ (a2 Pat Int) (λx=>cM x.1<=n/\0<=x.2/\x.2<=101) (enc (X:=Bool)) λx y=>y=(bZ x.1 x.2 && cm oL x.1)
theorem Q6(n:Nat)(h1:S BO=JB)(h2:S pb=Vd n):aq xc ww S (a2 Pat Int) (λx=>cM x.1<=n+1/\0<=x.2/\x.2<=101) (enc (X:=Bool)) λx y=>y=(bZ x.1 x.2 && cm oL x.1):=by
 rintro⟨p,d⟩ ⟨hn,q,r⟩;have c:∀k∈p.kids,cM k<=n:=λk hk=>by have:=fq hk;have:cM p<=n+1:=hn;omega
 simp only at q r;simp[xc,ww,h1];rw[ki,cP];refine⟨λh=>?_,λu s _=>?_⟩
 ·simp only[qCi,decide_eq_true_eq];intro h1;rw[h h1.1,Bool.false_and]
 refine ah (X:=Unit) [1,12] [] p.kids.length (λk _=>∀x∈p.kids.take k,(bZ x (d+1) && cm oL x)=true) (λ_=>[]) (λ_=>[]) () (by simp) ?_ ?_
 ·rintro k -hk j;obtain⟨x,a⟩:=bh hk;have b:=aY a;obtain⟨_,t⟩:=qCd.1 a;have w:=c x b;simp[h2,hk,a,t,w,-fB'];refine⟨by simp only[InR];omega,by omega,λA _ l _=>⟨x,b,A (l x b)⟩,λt1 C=>?_⟩;have:=LU (P:=λx=>(bZ x (d+1) && cm oL x)=true) j a (by simp[t1,C]);simpa using this
 ·rintro -j;simp;simp at j;simp[s,u];exact⟨λx a=>(j x a).1,λx a=>(j x a).2⟩
abbrev qan(n:Nat):Spc:=aJ (a1 Pat) (λx=>cM x<=n) (enc (X:=Bool)) λx y=>y=cm (nD aK) x
theorem Uc(n:Nat)(h1:S cq=um)(h2:S sd=qan n):aq zV yP S (a1 Pat) (λx=>cM x<=n+1) (enc (X:=Bool)) λx y=>y=cm (nD aK) x:=by
 rintro p hn;have a:∀k∈p.kids,cM k<=n:=λk hk=>by have:=fq hk;have:cM p<=n+1:=hn;omega
 simp[zV,yP,h1];refine bc (X:=Unit) [1] [] (λ_=>nD aK p=true) (λ_=>[]) (λ_=>[]) ?_ ?_
 ·simp[h1,nD];rw[cP];unfold nD
  repeat' first|apply And.intro|intro _
  all_goals (first|omega|simp_all;try omega)
 rintro -h;rw[cP];simp;intro _;refine ah (X:=Unit) [31] [] p.kids.length (λk _=>∀x∈p.kids.take k,cm (nD aK) x=true) (λ_=>[]) (λ_=>[]) () (by simp) ?_ ?_
 ·rintro k -hk c;obtain⟨x,d⟩:=bh hk;have b:=aY d;obtain⟨_,j⟩:=qCd.1 d;have l:=a x b;simp[h2,hk,d,j,l,-fB'];exact⟨λq _=>⟨x,b,q⟩,λr=>LU c d r⟩
 ·rintro -c;simp;simp at c;rw[h];simpa using c
abbrev PS(n:Nat):Spc:=aJ (a1 Pat) (λx=>cM x<=n) (enc (X:=Bool)) λx y=>y=cm nL x
theorem Ov(n:Nat)(h2:S mC=PS n):aq vp ur S (a1 Pat) (λx=>cM x<=n+1) (enc (X:=Bool)) λx y=>y=cm nL x:=by
 rintro p hn;have a:∀k∈p.kids,cM k<=n:=λk hk=>by have:=fq hk;have:cM p<=n+1:=hn;omega
 simp[vp,ur];refine bc (X:=Unit) [1] [] (λ_=>nL p=true) (λ_=>[]) (λ_=>[]) ?_ ?_
 ·simp[nL];rw[cP];unfold nL
  repeat' first|apply And.intro|intro _
  all_goals (first|omega|(rw[qCS];simp;omega))
 rintro -h;rw[cP];simp;intro _;refine ah (X:=Unit) [36] [] p.kids.length (λk _=>∀x∈p.kids.take k,cm (nL) x=true) (λ_=>[]) (λ_=>[]) () (by simp) ?_ ?_
 ·rintro k -hk c;obtain⟨x,d⟩:=bh hk;have b:=aY d;obtain⟨_,j⟩:=qCd.1 d;have l:=a x b;simp[h2,hk,d,j,l,-fB'];exact⟨λq _=>⟨x,b,q⟩,λr=>LU c d r⟩
 ·rintro -c;simp;simp at c;rw[h];simpa using c
def Cw{a b A B:Int}(h0:0<=a)(h1:a<=A)(h2:0<=b)(h3:b<=B):0<=a*b/\a*b<=A*B:=⟨qDB h0 h2,Int.mul_le_mul h1 h3 h2 (by omega)⟩
def PPat(n:Nat)(p:Pat):Prop:=cM p<=n/\fJ aK p=true
def PPat.kid{n:Nat}{p k:Pat}(h:PPat (n+1) p)(hk:k∈p.kids):PPat n k:=by
 have h1:=fq hk;have h2:=h.1;exact⟨by omega,eW h.2 hk⟩
abbrev fQ:Spc:=aJ (a1 Pat) (λ_=>True) (enc (X:=Bool)) λx y=>y=fJ aK x
abbrev PP:Spc:=aJ (a2 Pat Int) (λx=>0<=x.2/\x.2<=101) (enc (X:=Bool)) λx y=>y=(bZ x.1 x.2 && cm oL x.1)
abbrev Vg:Spc:=aJ (a1 Pat) (λ_=>True) (enc (X:=Bool)) λx y=>y=cm (nD aK) x
abbrev Me:Spc:=aJ (a1 Pat) (λ_=>True) (enc (X:=Bool)) λx y=>y=cm nL x
def J2(h1:S pb=PP)(h2:S sd=Vg)(h3:S mC=Me):aq qT qi S (a1 Pat) (λ_=>True) (enc (X:=Bool)) λx y=>y=fJ aK x:=by
 rintro p -;simp[qT,qi,h1,h2,h3,fJ,-fB'];clear h1 h2 h3;refine⟨λh1 h2=>⟨λh3 _=>⟨⟨h1,h2⟩,h3⟩,λh3 _ _ h4=>absurd h4 (by rw[h3];simp)⟩,λh h1 h2=>absurd h2 (by rw[h h1];simp)⟩
abbrev qe5(n:Nat):Spc:=aJ (a1 Pat) (PPat n) (enc (X:=Int)) λx y=>y=kg x
abbrev qah(n:Nat):Spc:=aJ (a1 Pat) (PPat n) (qR (Y:=Int) (Z:=Int)) λx y=>y=bG x
abbrev Qh:D:= .v (.slice none 0 0)
def qiE(x:Pat)(l:List Pat):Prop:=l.length+ (am x).length<=100000000
abbrev Wq(n:Nat):Spc:=qiT (X:=Pat) (Y:=Pat) (λx l=>cM x<=n/\qiE x l) (λx l r=>r=l++am x) aW 13
abbrev i_leavesA:Spc:=qiT (X:=Pat) (Y:=Pat) (λx l=>qiE x l) (λx l r=>r=l++am x) aW 13
def qgg{ks:List Pat}{k:Nat}{x:Pat}(l:List Pat)(a:ks[k]? =some x):(l++ (ks.take k).flatMap am) ++am x=l++ (ks.take (k+1)).flatMap am:=by
 rw[aB a,qEi,List.flatMap_singleton,qDf]
def Y8{ks:List Pat}{k:Nat}{x:Pat}{l:List Pat}(a:ks[k]? =some x)(h:l.length+ (ks.flatMap am).length<=100000000):qiE x (l++ (ks.take k).flatMap am):=by
 have:ks=ks.take k++x::ks.drop (k+1):=by rw[<-cY a,qCM]
 rw[this]at h;simp only[qEi,qC9,qCJ]at h;unfold qiE;rw[qCJ];omega
theorem Q7(n:Nat)(h1:S iG=Wq n):N6 (X:=Pat) (Y:=Pat) mF my S (λx l=>cM x<=n+1/\qiE x l) (λx l r=>r=l++am x) aW 13:=by
 rintro v l p ⟨hp,hl⟩;have hk:∀k∈p.kids,cM k<=n:=λk hk=>by have:=fq hk;have:cM p<=n+1:=hp;omega
 have a:=hl;unfold qiE at a;rw[aQ]at a;simp[mF,my];refine⟨λh1=>⟨by simp[h1]at a;omega,by simp[h1]at a;omega,λv=>dw (l++am p) (by simp[aQ,h1]) rfl⟩,λb _=>?_⟩;rw[if_neg b]at a;refine ah (X:=Value×List Pat) [15] [] p.kids.length (λk x=>x.2=l++ (p.kids.take k).flatMap am) (λx=>[(1, .own 1 x.1)]) (λx=>[(1, .row x.1 aW 13 (x.2.map enc))]) (v,l) (by simp) ?_ ?_ (hh:=by simp[isNilRow])
 ·rintro k ⟨v,m⟩ c hm;simp only at hm;obtain⟨x,d⟩:=bh c;have h:=aY d;obtain⟨_,j⟩:=qCd.1 d;have q:=Y8 d a;rw[<-hm]at q;have s:=hk x h;simp[h1,c,d,j,q,s];intro v';refine .inl ?_;rw[hm,qgg _ d]
 ·rintro⟨v,m⟩ hm;simp only at hm;rw[qCx]at hm;simp;refine dw m (by simp) ?_;rw[hm,aQ,if_neg b]
abbrev qg1:Spc:=qog (Y:=Pat) (aE Pat (aD a0)) (λx=>x.2.1=Qh/\qiE x.1 []) (λx r=>r=am x.1) aW 13
theorem Ow(h1:S iG=i_leavesA):QU (Y:=Pat) mF my S (aE Pat (aD a0)) (λx=>x.2.1=Qh/\qiE x.1 []) (λx r=>r=am x.1) aW 13:=by
 rintro⟨p,d,⟨⟩⟩ ⟨j,hl⟩;have j:d=Qh:=j;subst j;have a:([]:List Pat).length+ (am p).length<=100000000:=hl;rw[aQ]at a;simp[mF,my];refine⟨λh1 v=>dw (am p) (by simp[aQ,h1]) rfl,λb _=>?_⟩;rw[if_neg b]at a;refine ah (X:=Value×List Pat) [15] [] p.kids.length (λk x=>x.2=[] ++ (p.kids.take k).flatMap am) (λx=>[(1, .own 1 x.1)]) (λx=>[(1, .row x.1 aW 13 (x.2.map enc))]) (.slice none 0 0, []) (by simp) ?_ ?_ (hh:=by simp[isNilRow])
 ·rintro k ⟨v,m⟩ c hm;simp only at hm;obtain⟨x,h⟩:=bh c;have s:=aY h;obtain⟨_,l⟩:=qCd.1 h;have q:=Y8 h a;rw[<-hm]at q;simp[h1,c,h,l,q];intro v';refine .inl ?_;rw[hm,qgg _ h];rfl
 ·rintro⟨v,m⟩ hm;simp only at hm;rw[qCx]at hm;simp;refine dw m (by simp) ?_;rw[hm,aQ,if_neg b];rfl
abbrev s_leaves:Spc:=qnK qg1 i_leavesA
abbrev FR:Spc:=aJ (a1 Pat) (λx=>(am x).length<=100000000) (enc (X:=List Pat)) λx y=>y=if fJ aK x then am x else[]
def Q8(h1:S sK=fQ)(h2:S iG=s_leaves):aq xe wx S (a1 Pat) (λx=>(am x).length<=100000000) (enc (X:=List Pat)) λx y=>y=if fJ aK x then am x else[]:=by
 rintro p hp;have a:qiE p []:=by unfold qiE;simpa using hp
 simp[xe,wx,h1,h2,-fB'];clear h1 h2;exact⟨λh=>bF [] (by simp) (by rw[h];rfl),λh=> .inl ⟨a,λv=>bF (am p) (gp aW (by simp)) (by rw[h];rfl)⟩⟩
abbrev RQ:Spc:=aJ (a1 Pat) (λx=>fJ aK x=true) (enc (X:=Int)) λx y=>y=kg x
abbrev YL:Spc:=aJ (a1 Pat) (λ_=>True) (enc (X:=Int)) λx y=>y=if fJ aK x then kg x else 0
abbrev Vb:Spc:=aJ (a1 Pat) (λx=>fJ aK x=true) (qR (Y:=Int) (Z:=Int)) λx y=>y=bG x
abbrev Ld:Spc:=aJ (a1 Pat) (λ_=>True) (qR (Y:=Int) (Z:=Int)) λx y=>y=if fJ aK x then bG x else(0,0)
abbrev qeW:Spc:=aJ (a1 Cond) (λ_=>True) (enc (X:=Bool)) λx y=>(y=true↔x=qd)
def Rf:aq xk wD S (a1 Cond) (λ_=>True) (enc (X:=Bool)) λx y=>(y=true↔x=qd):=by
 rintro⟨op,n,a,v,l,f,ks⟩ -;simp[xk,wD,qd]
 repeat' first|apply And.intro|intro _
 all_goals simp_all
abbrev RR:Spc:=aJ (a1 Pat) (λ_=>True) (enc (X:=Bool)) λx y=>y=oL x
def Rh(h1:S zM=qeW):aq xo wF S (a1 Pat) (λ_=>True) (enc (X:=Bool)) λx y=>y=oL x:=by
 rintro p -;simp[xo,wF,h1,-fB'];clear h1
 repeat' first|apply And.intro|intro _
 all_goals (rw[qCS,tY];unfold vK;simp_all;try omega)
abbrev FT:Spc:=aJ (a1 Pat) (λ_=>True) (enc (X:=Bool)) λx y=>y=nD aK x
def OC(h1:S bJ=um):aq vv ux S (a1 Pat) (λ_=>True) (enc (X:=Bool)) λx y=>y=nD aK x:=by
 rintro p -;simp[vv,ux,h1,nD,-fB'];clear h1
 repeat' first|apply And.intro|intro _
 all_goals (first|omega|simp_all;try omega)
abbrev Bd:Spc:=aJ (a1 Pat) (λ_=>True) (enc (X:=Bool)) λx y=>y=nL x
def LD:aq sY sA S (a1 Pat) (λ_=>True) (enc (X:=Bool)) λx y=>y=nL x:=by
 rintro p -;simp[sY,sA,nL]
 repeat' first|apply And.intro|intro _
 all_goals (first|omega|(rw[qCS];simp;omega))
end
end Go.Gv
