/- A part of the framework and of the walks: W184 W185 W21. -/
import Derived.Shelf.SlSortCmp.NoneTotal
import Derived.Test.YtphdikcommfnhaaGreatDoorGb41
import Derived.Test.YtphdikcommfnhaaGreatDoorGb25
set_option linter.unusedSimpArgs false
set_option linter.unusedVariables false
set_option linter.unusedSectionVars false
set_option maxRecDepth 100000

namespace Go.Gv
open Go.Proofs
open Cod (enc dec)
variable {S S0:Nat->Spc}
def qaI(n:Nat)(r:Rn)(es:List D)(x:D×St3):Prop:=qdh r/\zL r es/\QI r.en x.2/\∃p,rz x.1 p/\p.op=6/\fH p<=n+1/\kg (qdm r) p
abbrev XU(n:Nat):Spc:=qih (aD (a1 St3)) qfP (qaI n) UB
abbrev b_mtok:Spc:=qd0 (a2 Pat St3) UE (yd (Y:=St3) (Z:=Bool)) QA
abbrev b_manc:Spc:=qd0 (a2 Pat Int) qaM (enc (X:=Bool)) qaC
theorem VR{d d':D}{s s':St3}(h:Jv (.agg [d, .v (.int .i64 s.p), .v (.int .i64 s.b0), .v (.int .i64 s.b1), .v (.int .i64 s.b2)]) (.agg [d', .v (.int .i64 s'.p), .v (.int .i64 s'.b0), .v (.int .i64 s'.b1), .v (.int .i64 s'.b2)])){p p':Pat}(hp:rz d p)(hp':rz d' p'):p=p'/\s=s':=by
 obtain⟨tp,I,w,x,h1,h2⟩:=h
 obtain⟨xs,rfl,hl,hc⟩:=h1.inv_agg
 obtain⟨ys,he,hl2,hc2⟩:=h2.inv_agg
 have hxy:xs=ys:=by simpa using he
 subst hxy
 match xs,hl with
 | [x0,x1,x2,x3,x4],_=>
   have a0:=(hc 0 _ _ rfl rfl).2
   have b0:=(hc2 0 _ _ rfl rfl).2
   have e1:=(hc 1 _ _ rfl rfl).2.inv_v.symm.trans (hc2 1 _ _ rfl rfl).2.inv_v
   have e2:=(hc 2 _ _ rfl rfl).2.inv_v.symm.trans (hc2 2 _ _ rfl rfl).2.inv_v
   have e3:=(hc 3 _ _ rfl rfl).2.inv_v.symm.trans (hc2 3 _ _ rfl rfl).2.inv_v
   have e4:=(hc 4 _ _ rfl rfl).2.inv_v.symm.trans (hc2 4 _ _ rfl rfl).2.inv_v
   simp only[quX,true_and]at e1 e2 e3 e4
   obtain⟨a,b,c,d⟩:=s
   obtain⟨a',b',c',d'⟩:=s'
   simp only at e1 e2 e3 e4
   subst e1;subst e2;subst e3;subst e4
   exact⟨Vo hp hp' a0 b0,rfl⟩
abbrev qqH:List KK:=[.ptr, .int .i64, .int .i64, .int .i64, .int .i64]
theorem MF{d:D}{p:Pat}(h:rz d p):Zr .ptr d=true:=by
 obtain⟨cs,off,rfl,h1,_⟩:=h
 show decide (cs.length≠1)=true
 rw[decide_eq_true_iff]
 omega
theorem O5{r:Rn}{es:List D}(h:zL r es):es.all (Py true qqH)=true:=by
 rw[qsX]
 intro e he
 obtain⟨d,p,s,l,hp,rfl,_⟩:=h e he
 have:=MF hp
 simp[Py,Ko,nS,SA,this]
 exact⟨rfl,rfl,rfl,rfl⟩
theorem VT{r:Rn}{es:List D}{d:D}{p:Pat}{s:St3}{K:D->Prop}(h:zL r es)(hp:rz d p)(h1:∀l:List St3,l.Nodup->(∀t,t∈l↔kU r p s t)->K (.tup [.mp (bG l), .v (.bool true)]))(h2:K (.tup [.v (.map none), .v (.bool false)])):
 wB true false true qqH [.map none] (.agg [d, .v (.int .i64 s.p), .v (.int .i64 s.b0), .v (.int .i64 s.b1), .v (.int .i64 s.b2)]) es K:=by
 refine⟨O5 h,?_,fun k' v hm hq=>?_,fun _=>h2⟩
 ·have:=MF hp
  simp[Ko,nS,SA,this]
  exact⟨rfl,rfl,rfl,rfl⟩
 ·obtain⟨d',p',s',l,hp',e,hn,hl⟩:=h _ hm
  simp only[D.tup.injEq,qti,and_true]at e
  obtain⟨rfl,rfl⟩:=e
  obtain⟨rfl,rfl⟩:=VR hq hp hp'
  exact h1 l hn hl
theorem Xq{r:Rn}{es:List D}{d:D}{p:Pat}{s:St3}{l:List St3}{K:List D->Prop}(h:zL r es)(hp:rz d p)(hn:l.Nodup)(hl:∀t,t∈l↔kU r p s t)(h1:∀es',zL r es'->K es'):
 Au true qqH (.agg [d, .v (.int .i64 s.p), .v (.int .i64 s.b0), .v (.int .i64 s.b1), .v (.int .i64 s.b2)]) (.mp (bG l)) es K:=by
 refine⟨O5 h,?_,fun l1 k' v' l2 e hq=>h1 _ fun x hx=>?_,fun _=>h1 _ fun x hx=>?_⟩
 ·have:=MF hp
  simp[Ko,nS,SA,this]
  exact⟨rfl,rfl,rfl,rfl⟩
 ·rcases qsZ.1 hx with hx|hx
  ·exact h x (by rw[e];simp[hx])
  ·rcases qsY.1 hx with rfl|hx
   ·exact⟨d,p,s,l,hp,rfl,hn,hl⟩
   ·exact h x (by rw[e];simp[hx])
 ·rcases qsZ.1 hx with hx|hx
  ·exact h x hx
  ·simp at hx
   subst hx
   exact⟨d,p,s,l,hp,rfl,hn,hl⟩
theorem KT{cs:List D}{off:Nat}{p:Pat}(hl:off+13<=cs.length)(hc:(cs.drop off).take 13=(enc p).cells):
 cs[off]? =some (.v (.int .i64 p.op))/\cs[off+10]? =some (.v (.int .i64 p.mn))/\cs[off+11]? =some (.v (.int .i64 p.mx))/\cs[off+12]? =some (.list 13 (p.kids.map enc)):=by
 refine⟨?_,?_,?_,?_⟩
 ·have:=wn hl hc (j:=0) (by decide)
  rw[qt4]at this
  rw[this];simp
 ·rw[wn hl hc (j:=10) (by decide)];simp
 ·rw[wn hl hc (j:=11) (by decide)];simp
 ·rw[wn hl hc (j:=12) (by decide)];simp
theorem kO(q:Pat):rz (.cptr [.v (.int .i64 q.op), .v (.int .i64 q.cond.op), .v (.string q.cond.name), .v (.string q.cond.arg), .v (.string q.cond.val), .v (.string q.cond.lab), .v (.bool q.cond.fold), .list 7 (q.cond.kids.map enc), .v (.string q.lab), .v (.string q.reg), .v (.int .i64 q.mn), .v (.int .i64 q.mx), .list 13 (q.kids.map enc)] 0) q:=
 ⟨_,_,rfl,qs2 _,by simp⟩
theorem qa9(n:Nat)(h1:S fu=b_mtok)(h2:S eH=b_manc)(h3:S eu=Hz n)(h4:S bu=Ay n)(h5:S gB=XU n):NJ lP lB S (aD (a1 St3)) qfP (UF (n+1)) UB:=by
 rintro b r v es ⟨d,s⟩ ⟨hr,hm,hs,p,hp,hpn,hpa⟩
 have hp':=hp
 obtain⟨cs,off,hd,hl13,hc13⟩:=hp'
 have hd:d= .cptr cs off:=hd
 subst hd
 have hp:rz (.cptr cs off) p:=hp
 obtain⟨c0,c10,c11,c12⟩:=KT hl13 hc13
 simp[lP,lB,CE, -Bool.forall_bool, -Bool.exists_bool]
 refine VT hm hp (fun l hn hl=>?_) ?_
 ·simp[-Bool.forall_bool, -Bool.exists_bool]
  exact Lg v es l (.same _) (by simp[ah]) (by simp[ah]) ⟨hm,hn,fun p' hp''=>by obtain rfl:=qX hp hp'';exact hl⟩
 simp[-Bool.forall_bool, -Bool.exists_bool]
 intro v1
 refine jF (X:=Value×List D×List St3) [0,1,5] [] [28] [] (fun x=>zL r x.2.1/\x.2.2.Nodup/\∀t,t∈x.2.2↔kU r p s t) (fun x=>[(9, .mp (bG x.2.2))]) (fun x=>[(0, .box b (kW r (.own 990 x.1))),(990, .mrow x.1 x.2.1)]) [0,990] (fun _=>rfl) (by decide) ?_ ?_
 ·have hnd:=(jH hpa).nd
  have hops:p.op=1\/p.op=2\/p.op=3\/p.op=4\/p.op=5\/p.op=6:=by
   rcases hnd with h|h|h|h
   ·exact .inl h.1
   ·rcases h.1 with h|h
    ·exact .inr (.inl h)
    ·exact .inr (.inr (.inl h))
   ·rcases h.1 with h|h
    ·exact .inr (.inr (.inr (.inl h)))
    ·exact .inr (.inr (.inr (.inr (.inl h))))
   ·exact .inr (.inr (.inr (.inr (.inr h.1))))
  have hlo:off+1<=cs.length:=by omega
  have hl12:off+12+1<=cs.length:=by omega
  have hdp:dec (X:=Pat) (.agg ((cs.drop off).take 13))=some p:=by rw[hc13,<-sF,Cod.dec_enc]
  have hs:QI r.en s:=hs
  have hen:=hr.en
  have hOk:qka s:=⟨hs.1,by have:=hs.2.1;omega,fun i=>⟨(hs.2.2 i).1,by have:=(hs.2.2 i).2;omega⟩⟩
  have hRn:∀k,qgC (.cptr (kW r k) 0):=fun k=>⟨r,k,rfl,hr.l3⟩
  rcases hops with e|e|e|e|e|e
  all_goals rw[e]at c0
  ·have hPt:UE (.cptr (kW r (.own 990 v)) 0,p,s):=⟨⟨r,_,rfl,hr.l3,hr.sz,(jH hpa).lab,(jH hpa).tok e s hs⟩,hOk⟩
   simp[c0,h1,OO,hlo,hl13,hdp,hPt, -Bool.forall_bool, -Bool.exists_bool]
   intro a y hQ b2
   obtain⟨q1,q2⟩:=hQ r _ rfl
   refine⟨fun hy=>?_,fun hy=>?_⟩
   ·subst hy
    obtain⟨q3,q4⟩:=q1.1 rfl
    have q5:a=EB r p s:=q2 rfl
    subst q5
    exact⟨v,es, [EB r p s],⟨hm,by simp,fun t=>by rw[qdW e];simp[q3,q4]⟩,vu (by simp[Gd,ah]), .inl (.inl rfl), .inl (.inl rfl)⟩
   ·subst hy
    refine⟨v,es, [],⟨hm,by simp,fun t=>?_⟩,vu (by simp[Gd,ah,rQ]), .inl (.inl rfl), .inl (.inl rfl)⟩
    rw[qdW e]
    constructor
    ·intro h;cases h
    ·rintro⟨q3,q4,_⟩
     cases q1.2 ⟨q3,q4⟩
  ·simp[c0,h2,hlo,hl13,hdp,hRn, -Bool.forall_bool, -Bool.exists_bool]
   intro y hQ
   obtain q1:y=SY r p s.p:=hQ r _ rfl
   refine⟨fun hy=>?_,fun hy=>?_⟩
   ·exact⟨v,es, [s],⟨hm,by simp,fun t=>by rw[Np (.inl e),<-q1,hy];simp⟩,vu (by simp[Gd,ah]), .inl (.inl rfl), .inl (.inl rfl)⟩
   ·exact⟨v,es, [],⟨hm,by simp,fun t=>by rw[Np (.inl e),<-q1,hy];simp⟩,vu (by simp[Gd,ah,rQ]), .inl (.inl rfl), .inl (.inl rfl)⟩
  ·simp[c0,h2,hlo,hl13,hdp,hRn, -Bool.forall_bool, -Bool.exists_bool]
   intro y hQ
   obtain q1:y=SY r p s.p:=hQ r _ rfl
   refine⟨fun hy=>?_,fun hy=>?_⟩
   ·exact⟨v,es, [s],⟨hm,by simp,fun t=>by rw[Np (.inr e),<-q1,hy];simp⟩,vu (by simp[Gd,ah]), .inl (.inl rfl), .inl (.inl rfl)⟩
   ·exact⟨v,es, [],⟨hm,by simp,fun t=>by rw[Np (.inr e),<-q1,hy];simp⟩,vu (by simp[Gd,ah,rQ]), .inl (.inl rfl), .inl (.inl rfl)⟩
  ·simp[c0,hlo, -Bool.forall_bool, -Bool.exists_bool]
   refine jF (X:=Unit) [0,1,5] [0,990] [28] [] (fun _=>True) (fun _=>[(9, .mp (bG [s]))]) (fun _=>[]) [] (fun _=>rfl) (by decide) ?_ ?_
   ·simp[-Bool.forall_bool, -Bool.exists_bool]
    exact vu (by simp[Gd,ah])
   rintro⟨⟩ -
   simp[c12,hlo,hl12, -Bool.forall_bool, -Bool.exists_bool]
   intro hkl
   refine ak (X:=Value×List D×List St3) [0,1,5] [] p.kids.length (fun k x=>zL r x.2.1/\x.2.2.Nodup/\∀t,t∈x.2.2↔uT r (p.kids.take k) s t) (fun x=>[(9, .mp (bG x.2.2))]) (fun x=>[(0, .box b (kW r (.own 990 x.1))),(990, .mrow x.1 x.2.1)]) (v,es, [s]) (by simp) (by simp) (by omega) (by simp) (by simp)
    ⟨hm,by simp,fun t=>by rw[quC,vx];simp[eq_comm]⟩ (by simp) (by simp) ?_ ?_
   ·rintro k ⟨v2,es2,l⟩ hk ⟨hm2,hn2,hl2⟩
    simp only at hm2 hn2 hl2
    obtain⟨q,hq⟩:∃q,p.kids[k]? =some q:=⟨_,qsU hk⟩
    obtain⟨_,hgq⟩:=qsT.1 hq
    have hqm:q∈p.kids:=qsW hq
    simp[hk,hgq,c12,hlo,hl12,h3,AZ,CE, -Bool.forall_bool, -Bool.exists_bool]
    refine⟨⟨hr,hm2,⟨l,rfl,fun t ht=>M5 r _ _ _ ((hl2 t).1 ht) hs⟩,q,kO q,by have:=kP hqm;omega,pS hpa hqm⟩,fun v3 es3 ys hQ=>⟨v3,es3,ys,⟨hQ.1,hQ.2.1,fun t=>?_⟩,rfl, .inl rfl, .inl ⟨rfl,rfl⟩⟩⟩
    rw[cO hq,ES,hQ.2.2 q l (kO q) rfl t]
    exact⟨fun⟨u,h1,h2⟩=>⟨u,(hl2 u).1 h1,h2⟩,fun⟨u,h1,h2⟩=>⟨u,(hl2 u).2 h1,h2⟩⟩
   ·rintro⟨v2,es2,l⟩ ⟨hm2,hn2,hl2⟩
    simp only at hm2 hn2 hl2
    simp[-Bool.forall_bool, -Bool.exists_bool]
    exact⟨v2,es2,l,⟨hm2,hn2,fun t=>by rw[qjv e,hl2,qtD]⟩, .same _, .inl (.inl rfl), .inl (.inl rfl)⟩
  ·simp[c0,c12,hlo,hl12, -Bool.forall_bool, -Bool.exists_bool]
   intro hkl
   refine ak (X:=Value×List D×List St3) [0,1,5,9] [] p.kids.length (fun k x=>zL r x.2.1/\x.2.2.Nodup/\∀t,t∈x.2.2↔uU r (p.kids.take k) s t) (fun x=>[]) (fun x=>[(0, .box b (kW r (.own 990 x.1))),(990, .mrow x.1 x.2.1),(28, .mrow v1 (bG x.2.2))]) (v,es, []) (by simp) (by simp) (by omega) (by simp) (by simp)
    ⟨hm,by simp,fun t=>by rw[quC,Ds];simp⟩ (by simp) (by simp[rQ]) ?_ ?_
   ·rintro k ⟨v2,es2,l⟩ hk ⟨hm2,hn2,hl2⟩
    simp only at hm2 hn2 hl2
    obtain⟨q,hq⟩:∃q,p.kids[k]? =some q:=⟨_,qsU hk⟩
    obtain⟨_,hgq⟩:=qsT.1 hq
    have hqm:q∈p.kids:=qsW hq
    simp[hk,hgq,c12,hlo,hl12,h4,AZ,CE, -Bool.forall_bool, -Bool.exists_bool]
    refine⟨⟨hr,hm2,hs,q,kO q,by have:=kP hqm;omega,pS hpa hqm⟩,fun v3 es3 ys hQ b2=>?_⟩
    have hys:=hQ.2.2 q (kO q)
    refine av (X:=List St3×List D×List St3) [0,1,5,9,91,92,104] [0,990] (fun x=>x.1.Nodup/\(∀t∈x.2.2,t∈ys)/\(∀t∈l,t∈x.1)/\(∀t∈x.1,t∈l\/t∈ys)/\∀t∈ys,t∈x.2.2\/t∈x.1)
     (fun _=>[]) (fun x=>[(28, .mrow v1 (bG x.1)),(104, .miter b2 x.2.1 (bG x.2.2))]) (fun x=>x.2.2.length) (l, [],ys)
     ⟨hn2,fun _ h=>h,fun _ h=>h,fun _ h=> .inl h,fun _ h=> .inl h⟩ (by simp) (by simp) ?_
    rintro⟨out2,cur2,left2⟩ ⟨g1,g2,g3,g4,g5⟩
    simp only at g1 g2 g3 g4 g5
    simp[-Bool.forall_bool, -Bool.exists_bool]
    refine⟨fun h0=>?_,fun l1 x l2 hsp2=>?_⟩
    ·have hlz:=fb h0
     subst hlz
     refine⟨v3,es3,out2,⟨hQ.1,g1,fun t=>?_⟩, .inl rfl, .inl ⟨rfl,rfl⟩, .inl rfl⟩
     rw[cO hq,Lm,<-hl2,<-hys]
     exact⟨g4 t,fun h=>h.elim (g3 t) fun h=>(g5 t h).elim (fun h=>by cases h) id⟩
    ·obtain⟨a2,t,c2,rfl,rfl,rfl,rfl⟩:=gi hsp2
     simp[-Bool.forall_bool, -Bool.exists_bool]
     refine⟨wG t out2,_,a2++c2,⟨wF g1,fun x h=>g2 x (by simp only[qsZ,qsY]at h ⊢;rcases h with h|h <;> simp[h]),fun x hx=>ed.2 (.inr (g3 x hx)),fun x hx=>?_,fun x hx=>?_⟩,⟨.inl rfl, .inl ⟨rfl,(gR a2 c2).symm⟩⟩,by simp⟩
     ·rcases ed.1 hx with rfl|h
      ·exact .inr (g2 x (by simp))
      ·exact g4 x h
     ·rcases g5 x hx with h|h
      ·rcases qsZ.1 h with h|h
       ·exact .inl (by simp[h])
       ·rcases qsY.1 h with rfl|h
        ·exact .inr (ed.2 (.inl rfl))
        ·exact .inl (by simp[h])
      ·exact .inr (ed.2 (.inr h))
   ·rintro⟨v2,es2,l⟩ ⟨hm2,hn2,hl2⟩
    simp only at hm2 hn2 hl2
    simp[-Bool.forall_bool, -Bool.exists_bool]
    exact⟨v2,es2,l,⟨hm2,hn2,fun t=>by rw[qdV e,hl2,qtD]⟩,vu (by simp[Gd,ah]), .inl (.inl rfl), .inl (.inl rfl)⟩
  ·have hPr:qaI n r es (.cptr cs off,s):=⟨hr,hm,hs,p,hp,e,hpn,hpa⟩
   simp[c0,h5,AZ,hlo,hPr,CE, -Bool.forall_bool, -Bool.exists_bool]
   exact fun v2 es2 y hQ=>⟨v2,es2,y,⟨hQ.1,hQ.2.1,hQ.2.2 p hp⟩, .same _, .inl (.inl rfl), .inl (.inl rfl)⟩
 ·rintro⟨v2,es2,l⟩ ⟨hm2,hn,hl⟩
  simp only at hm2 hn hl
  simp[-Bool.forall_bool, -Bool.exists_bool]
  refine Xq hm2 hp hn hl fun es3 hm3=>?_
  exact Lg v2 es3 l (.same _) (by simp[ah]) (by simp[ah]) ⟨hm3,hn,fun p' hp''=>by obtain rfl:=qX hp hp'';exact hl⟩
end Go.Gv

namespace Go.Gv
open Go.Proofs
open Cod (enc dec)
variable {S S0:Nat->Spc}
def qea(x:D×Unit)(l:List D):Prop:=∃a c:List St3,x.1= .mp (bG c)/\l=bG a/\a.Nodup
def qd7(x:D×Unit)(l l':List D):Prop:=∀a c:List St3,x.1= .mp (bG c)->l=bG a->∃q:List St3,l'=bG q/\q.Nodup/\∀t,t∈q↔t∈a\/t∈c
abbrev RK:Spc:=qov (aD a0) qea qd7
theorem qep:qav nM mP S (aD a0) qea qd7:=by
 rintro v l ⟨d,⟨⟩⟩ ⟨a,c,hd,hl,hn⟩
 have hd:d= .mp (bG c):=hd
 subst hd;subst hl
 simp[nM,mP, -Bool.forall_bool, -Bool.exists_bool]
 intro b1
 refine av (X:=List St3×List D×List St3) [0,7] [] (fun x=>x.1.Nodup/\(∀t∈x.2.2,t∈c)/\(∀t∈a,t∈x.1)/\(∀t∈x.1,t∈a\/t∈c)/\∀t∈c,t∈x.2.2\/t∈x.1)
  (fun _=>[]) (fun x=>[(0, .mrow v (bG x.1)),(7, .miter b1 x.2.1 (bG x.2.2))]) (fun x=>x.2.2.length) (a, [],c)
  ⟨hn,fun _ h=>h,fun _ h=>h,fun _ h=> .inl h,fun _ h=> .inl h⟩ (by simp) (by simp) ?_
 rintro⟨out2,cur2,left2⟩ ⟨g1,g2,g3,g4,g5⟩
 simp only at g1 g2 g3 g4 g5
 simp[-Bool.forall_bool, -Bool.exists_bool]
 refine⟨fun h0=>?_,fun l1 x l2 hsp2=>?_⟩
 ·have hlz:=fb h0
  subst hlz
  refine⟨bG out2,rfl,by simp[ah],fun a' c' h1 h2=>?_⟩
  have h1:D.mp (bG c)= .mp (bG c'):=h1
  obtain rfl:=Hq (D.mp.inj h1)
  obtain rfl:=Hq h2
  exact⟨out2,rfl,g1,fun t=>⟨g4 t,fun h=>h.elim (g3 t) fun h=>(g5 t h).elim (fun h=>by cases h) id⟩⟩
 ·obtain⟨a2,t,c2,rfl,rfl,rfl,rfl⟩:=gi hsp2
  simp[-Bool.forall_bool, -Bool.exists_bool]
  refine⟨wG t out2,_,a2++c2,⟨wF g1,fun x h=>g2 x (by simp only[qsZ,qsY]at h ⊢;rcases h with h|h <;> simp[h]),fun x hx=>ed.2 (.inr (g3 x hx)),fun x hx=>?_,fun x hx=>?_⟩,⟨.inl rfl, .inl ⟨rfl,(gR a2 c2).symm⟩⟩,by simp⟩
  ·rcases ed.1 hx with rfl|h
   ·exact .inr (g2 x (by simp))
   ·exact g4 x h
  ·rcases g5 x hx with h|h
   ·rcases qsZ.1 h with h|h
    ·exact .inl (by simp[h])
    ·rcases qsY.1 h with rfl|h
     ·exact .inr (ed.2 (.inl rfl))
     ·exact .inl (by simp[h])
   ·exact .inr (ed.2 (.inr h))
abbrev kp(q:Pat):D:= .cptr [.v (.int .i64 q.op), .v (.int .i64 q.cond.op), .v (.string q.cond.name), .v (.string q.cond.arg), .v (.string q.cond.val), .v (.string q.cond.lab), .v (.bool q.cond.fold), .list 7 (q.cond.kids.map enc), .v (.string q.lab), .v (.string q.reg), .v (.int .i64 q.mn), .v (.int .i64 q.mx), .list 13 (q.kids.map enc)] 0
theorem EE{p:Pat} :AB p=true↔p.op=6/\p.mx < 0/\p.mn<=1:=by
 unfold AB
 simp[and_assoc]
theorem qhK(n:Nat)(h1:S ro=Mm)(h3:S eu=Hz n)(h4:S bu=Ay n)(h5:S nj=clC)(h6:S jU=RK):NJ kI kw S (aD (a1 St3)) qfP (qaI n) UB:=by
 rintro b r v es ⟨d,s⟩ ⟨hr,hm,hs,p,hp,hop,hpn,hpa⟩
 have hp':=hp
 obtain⟨cs,off,hd,hl13,hc13⟩:=hp'
 have hd:d= .cptr cs off:=hd
 subst hd
 have hp:rz (.cptr cs off) p:=hp
 have hs:QI r.en s:=hs
 have hen:=hr.en
 obtain⟨c0,c10,c11,c12⟩:=KT hl13 hc13
 have hl10:off+10+1<=cs.length:=by omega
 have hl11:off+11+1<=cs.length:=by omega
 have hl12:off+12+1<=cs.length:=by omega
 have hM:=jH hpa
 obtain⟨k0,hk0⟩:∃k,p.kids=[k]:=by
  rcases hM.nd with h|h|h|h
  ·have:=h.1;omega
  ·have:=h.1;omega
  ·have:=h.1;omega
  ·obtain⟨_,_,_,_,h⟩:=h
   match hk:p.kids,h with
   | [k],_=>exact⟨k,rfl⟩
 have hnum:0<=p.mn/\p.mn<=16/\(p.mx= -1\/p.mn<=p.mx/\p.mx<=16):=of_decide_eq_true hM.num hop
 have hk0m:k0∈p.kids:=by rw[hk0];simp
 have hk0d:=kP hk0m
 simp[kI,kw,CE,c10,c12,hl10,hl12,hk0, -Bool.forall_bool, -Bool.exists_bool]
 have inv0:∀s t,kU r p s t↔xn (kU r k0) p.mn p.mx s t:=qdU hop hk0
 refine bB (X:=Int×Pat) [0,1,5] [0,990] (fun x=>fH x.2<=n/\kg (qdm r) x.2/\0<=x.1/\x.1<=16/\(0<=p.mx->x.1<=p.mx)/\(AB p=true->x.1<=1)/\∀s t,kU r p s t↔xn (kU r x.2) x.1 p.mx s t)
  (fun x=>[(7, .v (.int .i64 x.1)),(8,kp x.2)]) (fun _=>[]) ?_ ?_
 ·simp[-Bool.forall_bool, -Bool.exists_bool]
  refine av (X:=Int×Pat) [0,1,5] [0,990] (fun x=>fH x.2<=n/\kg (qdm r) x.2/\0<=x.1/\x.1<=16/\(0<=p.mx->x.1<=p.mx)/\(AB p=true->x.1<=1)/\∀s t,kU r p s t↔xn (kU r x.2) x.1 p.mx s t)
   (fun x=>[(7, .v (.int .i64 x.1)),(8,kp x.2)]) (fun _=>[]) (fun x=>fH x.2) (p.mn,k0)
   ⟨by show fH k0<=n;omega,pS hpa hk0m,hnum.1,hnum.2.1,fun h=>by show p.mn<=p.mx;omega,fun h=>(EE.1 h).2.2,inv0⟩ (by simp) (by simp) ?_
  rintro⟨m,q⟩ ⟨g1,g2,g3,g4,g7,g5,g6⟩
  simp only at g1 g2 g3 g4 g5 g6 g7
  simp[h1, -Bool.forall_bool, -Bool.exists_bool]
  have hnow:∀q':Pat,q'=q->(fH q'<=n/\kg (qdm r) q'/\0<=m/\m<=16/\(0<=p.mx->m<=p.mx)/\(AB p=true->m<=1)/\∀s t,kU r p s t↔xn (kU r q') m p.mx s t):=fun q' e=>by subst e;exact⟨g1,g2,g3,g4,g7,g5,g6⟩
  refine⟨⟨p,hp⟩,fun y1 hy1=>⟨fun e1=>⟨⟨q,kO q⟩,fun y2 hy2=>⟨fun e2=>?_,fun e2=>⟨m,q,hnow q rfl,by simp⟩⟩⟩,fun e1=>⟨m,q,hnow q rfl,by simp⟩⟩⟩
  have e1:=(hy1 p hp).symm.trans e1
  have e2:=(hy2 q (kO q)).symm.trans e2
  obtain⟨_,px,pm⟩:=EE.1 e1
  obtain⟨qo,qx,qm⟩:=EE.1 e2
  have hpx:p.mx= -1:=by omega
  have hMq:=jH g2
  obtain⟨q1,hq1⟩:∃k,q.kids=[k]:=by
   rcases hMq.nd with h|h|h|h
   ·have:=h.1;omega
   ·have:=h.1;omega
   ·have:=h.1;omega
   ·obtain⟨_,_,_,_,h⟩:=h
    match hk:q.kids,h with
    | [k],_=>exact⟨k,rfl⟩
  have qnum:0<=q.mn/\q.mn<=16/\(q.mx= -1\/q.mn<=q.mx/\q.mx<=16):=of_decide_eq_true hMq.num qo
  have hqx:q.mx= -1:=by omega
  have hq1m:q1∈q.kids:=by rw[hq1];simp
  have hq1d:=kP hq1m
  have g5:=g5 e1
  have hDq:kU r q=xn (kU r q1) q.mn (-1):=by
   funext s t
   exact propext (by rw[<-hqx];exact qdU qo hq1 s t)
  have hmm:0<=m*q.mn/\m*q.mn<=1:=by
   have a:m=0\/m=1:=by omega
   have b:q.mn=0\/q.mn=1:=by omega
   rcases a with a|a <;> rcases b with b|b <;> rw[a,b] <;> decide
  refine⟨by simp only[InR];omega,by rw[hq1];simp,fun a ha=>?_⟩
  rw[hq1]at ha
  obtain rfl:q1=a:=by simpa using ha
  refine⟨m*q.mn,q1,⟨by omega,pS g2 hq1m,hmm.1,by omega,fun h=>by omega,fun _=>hmm.2,fun s t=>?_⟩,by simp,hq1d⟩
  rw[g6,hDq,hpx]
  exact qbM (Dj r q1) ⟨g3,g5⟩ ⟨qnum.1,qm⟩ s t
 rintro⟨m,q⟩ ⟨g1,g2,g3,g4,g7,g5,g6⟩
 simp only at g1 g2 g3 g4 g5 g6 g7
 clear inv0 g5 hk0 hk0m hk0d c12 hl12
 simp[-Bool.forall_bool, -Bool.exists_bool]
 refine jF (X:=Unit) [0,1,7,8] [0,990] [41] [] (fun _=>True) (fun _=>[(9, .mp (bG [s]))]) (fun _=>[]) [] (fun _=>rfl) (by decide) ?_ ?_
 ·simp[-Bool.forall_bool, -Bool.exists_bool]
  exact fun x=>vu (by simp[Gd,ah])
 rintro⟨⟩ -
 obtain⟨M,rfl⟩:∃M:Nat,m=(M:Int):=⟨m.toNat,by omega⟩
 simp[-Bool.forall_bool, -Bool.exists_bool]
 refine ak (X:=Value×List D×List St3) [0,1,7,8] [] M (fun k x=>zL r x.2.1/\x.2.2.Nodup/\∀t,t∈x.2.2↔Pow (kU r q) k s t) (fun x=>[(9, .mp (bG x.2.2))]) (fun x=>[(0, .box b (kW r (.own 990 x.1))),(990, .mrow x.1 x.2.1)]) (v,es, [s]) (by simp) (by simp) (by omega) (by simp) (by simp)
  ⟨hm,by simp,fun t=>by simp[Pow,eq_comm]⟩ (by simp) (by simp) ?_ ?_
 ·rintro k ⟨v2,es2,l⟩ hk ⟨hm2,hn2,hl2⟩
  simp only at hm2 hn2 hl2
  simp[h3,AZ,CE, -Bool.forall_bool, -Bool.exists_bool]
  refine⟨⟨hr,hm2,⟨l,rfl,fun t ht=>wE (qw r q) _ _ _ ((hl2 t).1 ht) hs⟩,q,kO q,g1,g2⟩,fun v3 es3 ys hQ=>⟨v3,es3,ys,⟨hQ.1,hQ.2.1,fun t=>?_⟩,rfl, .inl rfl, .inl ⟨rfl,rfl⟩⟩⟩
  rw[HY,hQ.2.2 q l (kO q) rfl t]
  exact⟨fun⟨u,h1,h2⟩=>⟨u,(hl2 u).1 h1,h2⟩,fun⟨u,h1,h2⟩=>⟨u,(hl2 u).2 h1,h2⟩⟩
 rintro⟨v2,es2,base⟩ ⟨hm2,hn2,hb⟩
 simp only at hm2 hn2 hb
 have hrep:∀t,kU r p s t↔ ∃k:Nat,(p.mx < 0\/(M:Int) +k<=p.mx)/\Fe (kU r q) base k t:=fun t=>by
  rw[g6 s t]
  exact X7 (mn:=(M:Int)) (fun u=>by rw[hb u];rfl) t
 have hbl:∀t∈base,QI r.en t:=fun t ht=>wE (qw r q) _ _ _ ((hb t).1 ht) hs
 clear hb g6
 have hbz:qhD (kU r q) base 0 base base:=Z9 _ _
 have hrn:∀ {j:Nat} {t:St3},Fe (kU r q) base j t->QI r.en t/\(j:Int)<=t.p:=fun {j t} ⟨u,h1,h2⟩=>by
  have a:=hbl u h1
  have c:=wE (R:=BQ (kU r q)) (fun s t q=>qw r _ s t q.1) j _ _ h2 a
  have d:=BB h2
  have:=a.1
  exact⟨c,by omega⟩
 simp[h5, -Bool.forall_bool, -Bool.exists_bool]
 constructor
 ·intro h0
  have hlz:=fb h0
  subst hlz
  refine av (X:=Unit) [0,1,8,9,10,11] [0,990] (fun _=>True) (fun _=>[]) (fun _=>[]) (fun _=>0) () trivial (by simp) (by simp) ?_
  rintro⟨⟩ -
  refine bB (X:=Unit) [0] [] (fun _=>False) (fun _=>[]) (fun _=>[]) ?_ fun _ h=>h.elim
  simp[rQ, -Bool.forall_bool, -Bool.exists_bool]
  refine Lg v2 es2 [] (.same _) (by simp[ah]) (by simp[ah]) ⟨hm2,quP,fun p' hp' t=>?_⟩
  obtain rfl:=qX hp hp'
  rw[hrep]
  exact⟨fun h=>(by cases h),fun⟨k,_,u,hu,_⟩=>(by cases hu)⟩
 intro hne v5
 refine av (X:=Nat×List St3×List St3×Value×List D) [0,1,8,10] [] (fun x=>(p.mx < 0\/(M:Int) +x.1<=p.mx)/\zL r x.2.2.2.2/\x.2.1.Nodup/\x.2.2.1.Nodup/\qhD (kU r q) base x.1 x.2.1 x.2.2.1)
  (fun x=>[(9, .mp (bG x.2.2.1)),(11, .v (.int .i64 (M+x.1)))]) (fun x=>[(0, .box b (kW r (.own 990 x.2.2.2.1))),(990, .mrow x.2.2.2.1 x.2.2.2.2),(53, .mrow v5 (bG x.2.1))]) (fun x=>r.en.toNat+1 -x.1) (0,base,base,v2,es2)
  ⟨by show p.mx < 0\/(M:Int) + ((0:Nat):Int)<=p.mx;omega,hm2,hn2,hn2,hbz⟩ (by simp) (by simp) ?_
 rintro⟨j,out,new,v6,es6⟩ ⟨e1,hm6,ho6,hn6,hB⟩
 simp only at e1 hm6 ho6 hn6 hB
 have hjm:(new≠ []->(j:Int)<=r.en):=fun h=>by
  obtain⟨t,ht⟩:=List.exists_mem_of_ne_nil _ h
  obtain⟨a,c⟩:=hrn (hB.f t ht)
  have:=a.2.1
  omega
 refine bB (X:=Unit) [0,1,8,9,10,11] [0,990,53] (fun _=>new≠ []/\(p.mx < 0\/(M:Int) +j < p.mx)) (fun _=>[]) (fun _=>[]) ?_ ?_
 ·simp[c11,hl11, -Bool.forall_bool, -Bool.exists_bool]
  have hnz:0 < (bG new).length->¬new=[]:=fun h e=>by subst e;simp[bG]at h
  refine⟨fun h0=>⟨fun h1=>⟨fun h2=>⟨hnz h0, .inr h2⟩,fun h2=>?_⟩,fun h1=>⟨hnz h0, .inl h1⟩⟩,fun h0=>?_⟩
  ·refine Lg v6 es6 out (vu (by simp[ah])) (by simp[ah]) (by simp[ah]) ⟨hm6,ho6,fun p' hp' t=>?_⟩
   obtain rfl:=qX hp hp'
   rw[hrep,hB.o]
   exact⟨fun⟨k,h3,h4⟩=>⟨k, .inr (by omega),h4⟩,fun⟨k,h3,h4⟩=>⟨k,by omega,h4⟩⟩
  ·have hlz:=fb h0
   subst hlz
   refine Lg v6 es6 out (vu (by simp[ah])) (by simp[ah]) (by simp[ah]) ⟨hm6,ho6,fun p' hp' t=>?_⟩
   obtain rfl:=qX hp hp'
   rw[hrep]
   constructor
   ·intro h
    obtain⟨k,h3,h4⟩:=(hB.o t).1 h
    exact⟨k,by omega,h4⟩
   ·rintro⟨k,_,h4⟩
    exact(qab hB t).2 ⟨k,h4⟩
 rintro⟨⟩ ⟨hne,hgo⟩
 have hjr:=hjm hne
 simp[-Bool.forall_bool, -Bool.exists_bool]
 intro v7
 refine jF (X:=Value×List D×List St3) [0,1,8,10,11] [53] [75] [] (fun x=>zL r x.2.1/\x.2.2.Nodup/\∀t,t∈x.2.2↔t∉out/\∃a∈new,BQ (kU r q) a t) (fun x=>[(12, .mp (bG x.2.2))]) (fun x=>[(0, .box b (kW r (.own 990 x.1))),(990, .mrow x.1 x.2.1)]) [0,990] (fun _=>rfl) (by decide) ?_ ?_
 ·simp[-Bool.forall_bool, -Bool.exists_bool]
  intro b7
  refine av (X:=Value×List D×List St3×List D×List St3) [0,1,8,10,11,12,77] [53] (fun x=>zL r x.2.1/\x.2.2.1.Nodup/\(∀a∈x.2.2.2.2,a∈new)/\(∀t∈x.2.2.1,t∉out/\∃a∈new,BQ (kU r q) a t)/\∀a∈new,a∈x.2.2.2.2\/ ∀t,BQ (kU r q) a t->t∉out->t∈x.2.2.1)
   (fun _=>[]) (fun x=>[(0, .box b (kW r (.own 990 x.1))),(990, .mrow x.1 x.2.1),(75, .mrow v7 (bG x.2.2.1)),(77, .miter b7 x.2.2.2.1 (bG x.2.2.2.2))]) (fun x=>x.2.2.2.2.length) (v6,es6, [], [],new)
   ⟨hm6,quP,fun _ h=>h,fun _ h=>(by cases h),fun s hs=> .inl hs⟩ (by simp) (by simp[rQ]) ?_
  rintro⟨v8,es8,nxt,cur,left⟩ ⟨hm8,hn8,hl8,ho8,hd8⟩
  simp only at hm8 hn8 hl8 ho8 hd8
  simp[-Bool.forall_bool, -Bool.exists_bool]
  refine⟨fun h0=>?_,fun l1 x l2 hsp=>?_⟩
  ·have hlz:=fb h0
   subst hlz
   refine⟨v8,es8,nxt,⟨hm8,hn8,fun t=>⟨ho8 t,fun⟨h3,a,h4,h5⟩=>(hd8 a h4).elim (fun h=>by cases h) fun h=>h t h5 h3⟩⟩,vu (by simp[Gd,ah]), .inl (.inl rfl), .inl (.inl rfl)⟩
  ·obtain⟨a1,a,c1,rfl,rfl,rfl,rfl⟩:=gi hsp
   have ha:a∈new:=hl8 a (by simp)
   have haL:=(hrn (hB.f a ha)).1
   have hPr:UF n r es8 (kp q,a):=⟨hr,hm8,haL,q,kO q,g1,g2⟩
   simp[h4,AZ,hPr,CE, -Bool.forall_bool, -Bool.exists_bool]
   intro b13 v9 es9 ys hQ b9
   have hys:=hQ.2.2 q (kO q)
   refine av (X:=List St3×List D×List St3) [0,1,8,10,11,12,13,77,86] [0,990,13,53,77] (fun x=>x.1.Nodup/\(∀t∈x.2.2,t∈ys)/\(∀t∈nxt,t∈x.1)/\(∀t∈x.1,t∈nxt\/t∉out/\t∈ys/\a.p < t.p)/\∀t∈ys,t∈x.2.2\/(a.p < t.p->t∉out->t∈x.1))
    (fun _=>[]) (fun x=>[(75, .mrow v7 (bG x.1)),(86, .miter b9 x.2.1 (bG x.2.2))]) (fun x=>x.2.2.length) (nxt, [],ys)
    ⟨hn8,fun _ h=>h,fun _ h=>h,fun _ h=> .inl h,fun _ h=> .inl h⟩ (by simp) (by simp) ?_
   rintro⟨nx2,cur2,left2⟩ ⟨k1,k2,k3,k4,k5⟩
   simp only at k1 k2 k3 k4 k5
   simp[-Bool.forall_bool, -Bool.exists_bool]
   refine⟨fun h0=>?_,fun l1 x l2 hsp2=>?_⟩
   ·have hlz:=fb h0
    subst hlz
    refine⟨v9,es9,nx2,_,a1++c1,⟨hQ.1,k1,fun x h=>hl8 x (by simp only[qsZ,qsY]at h ⊢;rcases h with h|h <;> simp[h]),fun t ht=>?_,fun x hx=>?_⟩,⟨.inl rfl, .inl ⟨rfl,rfl⟩, .inl rfl, .inl ⟨rfl,(gR a1 c1).symm⟩⟩,by simp⟩
    ·rcases k4 t ht with h|⟨h,h',h''⟩
     ·exact ho8 t h
     ·exact⟨h,a,ha,(hys t).1 h',h''⟩
    ·rcases hd8 x hx with h|h
     ·rcases qsZ.1 h with h|h
      ·exact .inl (by simp[h])
      ·rcases qsY.1 h with rfl|h
       ·exact .inr fun t ht hno=>(k5 t ((hys t).2 ht.1)).elim (fun h=>by cases h) fun h=>h ht.2 hno
       ·exact .inl (by simp[h])
     ·exact .inr fun t ht hno=>k3 t (h t ht hno)
   ·obtain⟨a2,t,c2,rfl,rfl,rfl,rfl⟩:=gi hsp2
    have hsub:∀x∈a2++c2,x∈ys:=fun x h=>k2 x (by simp only[qsZ,qsY]at h ⊢;rcases h with h|h <;> simp[h])
    have ht:t∈ys:=k2 t (by simp)
    have hno:(a.p < t.p->t∉out->t∈nx2)->∀x∈ys,x∈a2++c2\/(a.p < x.p->x∉out->x∈nx2):=fun hh x hx=>by
     rcases k5 x hx with h|h
     ·rcases qsZ.1 h with h|h
      ·exact .inl (by simp[h])
      ·rcases qsY.1 h with rfl|h
       ·exact .inr hh
       ·exact .inl (by simp[h])
     ·exact .inr h
    by_cases e3:a.p < t.p
    rotate_left
    ·simp[e3, -Bool.forall_bool, -Bool.exists_bool]
     exact⟨nx2,_,a2++c2,⟨k1,hsub,k3,k4,hno fun h=>absurd h e3⟩,⟨.inl rfl, .inl ⟨rfl,(gR a2 c2).symm⟩⟩,by simp⟩
    by_cases e4:t∈out
    ·simp[e3,e4, -Bool.forall_bool, -Bool.exists_bool]
     exact⟨nx2,_,a2++c2,⟨k1,hsub,k3,k4,hno fun _ h=>absurd e4 h⟩,⟨.inl rfl, .inl ⟨rfl,(gR a2 c2).symm⟩⟩,by simp⟩
    ·simp[e3,e4, -Bool.forall_bool, -Bool.exists_bool]
     refine⟨wG t nx2,_,a2++c2,⟨wF k1,hsub,fun x hx=>ed.2 (.inr (k3 x hx)),fun x hx=>?_,fun x hx=>?_⟩,⟨.inl rfl, .inl ⟨rfl,(gR a2 c2).symm⟩⟩,by simp⟩
     ·rcases ed.1 hx with rfl|h
      ·exact .inr ⟨e4,ht,e3⟩
      ·exact k4 x h
     ·rcases k5 x hx with h|h
      ·rcases qsZ.1 h with h|h
       ·exact .inl (by simp[h])
       ·rcases qsY.1 h with rfl|h
        ·exact .inr fun _ _=>ed.2 (.inl rfl)
        ·exact .inl (by simp[h])
      ·exact .inr fun q1 q2=>ed.2 (.inr (h q1 q2))
 ·rintro⟨v8,es8,nxt⟩ ⟨hm8,hn8,hx8⟩
  simp only at hm8 hn8 hx8
  simp[h6, -Bool.forall_bool, -Bool.exists_bool]
  refine⟨⟨out,nxt,rfl,rfl,ho6⟩,fun l' hQ=>?_⟩
  obtain⟨out',rfl,ho',hx'⟩:=hQ out nxt rfl rfl
  exact⟨by simp only[InR];omega,j+1,out',nxt,v8,es8,⟨by omega,hm8,ho',hn8,qaa hB hx8 hx'⟩,⟨⟨rfl,by omega⟩, .inl rfl, .inl ⟨rfl,rfl⟩, .inl rfl⟩,by omega⟩
end Go.Gv

namespace Go.Gv
open Cod (enc dec)
open Go.Proofs Go.Sort Go.Shelf Go.Lib Go.RowKit
theorem Ni{α β:Type}{f:α->List β}{n:Nat} :∀ {l:List α},(∀x∈l,(f x).length=n)->∀ {i j:Nat},j < n->(l.flatMap f)[i*n+j]? =(l[i]?).bind fun x=>(f x)[j]?
 | [],_,i,j,_=>by simp
 | d::es,h,0,j,hj=>by
   have hd:=h d (by simp)
   simp only[qtE,qvs,qtH]
   rw[qtd (by omega)]
   simp
 | d::es,h,i+1,j,hj=>by
   have hd:=h d (by simp)
   have ih:=Ni (l:=es) (fun d hd=>h d (by simp[hd])) (i:=i) hj
   simp only[qtE]
   rw[qs3 (by rw[hd,qtB];omega),hd]
   have:(i+1) *n+j -n=i*n+j:=by rw[qtB];omega
   rw[this,ih]
   simp
theorem Nh{α β:Type}{f:α->List β}{n:Nat} :∀ {l:List α},(∀x∈l,(f x).length=n)->(l.flatMap f).length=l.length*n
 | [],_=>by simp
 | d::es,h=>by
   have ih:=Nh (l:=es) (fun d hd=>h d (by simp[hd]))
   simp only[qtE,qtg]
   rw[ih,h d (by simp),qtK,qtB]
   omega
section
variable {X:Type}[Cod X][Inhabited X](ev:X->List Value)(k:Nat)(hk:∀x,(ev x).length=k)
include hk
omit [Cod X] in
theorem IP(l:List X):(flatK ev k l.toArray).toList=l.flatMap ev:=by
 have hl:=Nh (f:=ev) (n:=k) (l:=l) (fun x _=>hk x)
 apply qtN
 intro t
 by_cases ht:t < l.length*k
 ·have k0:0 < k:=by
   rcases quO k with h|h
   ·subst h;simp at ht
   ·exact h
  have h1:=get_flatK ev k l.toArray t (by simpa using ht)
  have hs:t < (flatK ev k l.toArray).size:=by simpa using ht
  rw[getElem!_pos _ t hs]at h1
  rw[qtn,qtU hs,h1]
  have hm:t % k < k:=quf _ k0
  have hdm:t=(t/k) *k+t % k:=by have:=qt8 t k;rw[qt5]at this;omega
  have hq:t/k < l.length:=quZ (by rw[qt5];exact ht)
  have h2:=Ni (f:=ev) (n:=k) (l:=l) (fun x _=>hk x) (i:=t/k) hm
  rw[<-hdm]at h2
  rw[h2,qsU hq]
  have h3:(l.toArray)[t/k]! =l[t/k]:=by rw[getElem!_pos l.toArray (t/k) (by simpa using hq)];simp
  rw[h3]
  have h4:t % k < (ev l[t/k]).length:=by rw[hk];exact hm
  simp only[qtb]
  rw[getElem!_pos (ev l[t/k]) (t % k) h4,qsU h4]
 ·rw[qto (by simpa using ht),qto (by omega)]
end
theorem Ng{w:World}{b j el:Nat}{c:Array Value}(h:w.heap[b]? =some (.cells c el (0,0))):w.frozen? ⟨b,j,none⟩=false:=by
 simp[World.frozen?,h]
theorem SP{w:World}{b j el:Nat}{c:Array Value}{fr:Nat×Nat}(h:w.heap[b]? =some (.cells c el fr)):w.cell? ⟨b,j,none⟩=c[j]?:=by
 simp[World.cell?,h]
theorem KS{w:World}{gb b:Nat}{f:Array Value->Array Value}{os:Array Obj}(hb:b < w.heap.size)(hne:b≠gb):(grow (mapBlock w gb f) os).heap[b]? =w.heap[b]?:=by
 simp only[grow,mapBlock]
 rw[qtL (by simpa using hb),quD]
 have:¬gb=b:=fun e=>hne e.symm
 simp[this]
theorem Yb{w:World}{gb el:Nat}{c:Array Value}{fr:Nat×Nat}{f:Array Value->Array Value}{os:Array Obj}(h:w.heap[gb]? =some (.cells c el fr)):(grow (mapBlock w gb f) os).heap[gb]? =some (.cells (f c) el fr):=by
 have hb:gb < w.heap.size:=(qs0.1 h).1
 simp only[grow,mapBlock]
 rw[qtL (by simpa using hb),quD]
 simp[h,onCells]
end Go.Gv
