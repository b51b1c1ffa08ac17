/- T7 -/
import Derived.Test.YtnffegdacbdhmaaGreatDoorGd10
set_option linter.all false
namespace Go.Gv
variable {dq:Prop}
inductive ak where
 |tmp (t:Nat)
 |cell (t:Nat) (agg:Bool) (sz:Nat)
def eW(P:Program):ResultVar->Option ak
 | .tmp t=>some (.tmp t)
 | .cell t ty=>do
   let agg <-iv P ty
   let sz <-dn P ty
   if agg||sz=1 then some (.cell t agg sz)else none
def yY:List ak->Sg->ab->(List D->Prop)->Prop
 | [],_,_,K=>K []
 | .tmp t::r,σ,H,K=>yY r σ H λds=>K (σ t::ds)
 | .cell t agg sz::r,σ,H,K=>aj (.load agg sz (.tmp t)) σ H λd=>yY r σ H λds=>K (d::ds)
def dI:List D->D
 | [d]=>d
 |ds=> .tup ds
def vN(rs:List ak)(K:D->ab->Prop):Ex->Sg->ab->Prop
 | .norm,σ,H=>yY rs σ H λds=>K (dI ds) H
 | .ret,σ,H=>yY rs σ H λds=>K (dI ds) H
 | .ex _,_,_=>False
def FZ(tmps:Array Value):ResultVar->Sem Value
 | .tmp t=>pure (tmps.getD t undef)
 | .cell t ty=>do loadVar ty (<-asAddr (tmps.getD t undef))
def YH(fn:Func)(tmps:Array Value):results fn tmps=(do
 let vs <-fn.results.mapM (FZ tmps)
 return if h:vs.size=1 then vs[0]else .tuple vs):=by
 unfold results;congr 1
inductive FrzTo (H:ab):D->D->Prop
 |same (d:D):FrzTo H d d
 |any (d:D):FrzTo H d .any
 |nil (n:Nat):FrzTo H (.v (.slice none 0 0)) (.list n [])
 |own (i j:Nat) (x:Value):FrzTo H (.own i x) (.own j x)
 |nilown (j:Nat):FrzTo H (.v (.slice none 0 0)) (.own j (.slice none 0 0))
 |bptr (i j b off:Nat):FrzTo H (.bptr i b off) (.bptr j b off)
 | row {id:Nat} {x:Value} {el n:Nat} {es es':List D} (h:H id=some (.row x el n es)) (hl:es.length=es'.length) (hk:∀d∈es',d.kn=true/\d.cells.length=n)
    (he:∀(k:Nat) (c c':D),es[k]? =some c->es'[k]? =some c'->FrzTo H c c'):FrzTo H (.own id x) (.list n es')
 | sub {id:Nat} {x:Value} {el n lo hi:Nat} {es es':List D} (h:H id=some (.row x el n es)) (hl:((es.take hi).drop lo).length=es'.length) (hk:∀d∈es',d.kn=true/\d.cells.length=n)
    (he:∀(k:Nat) (c c':D),((es.take hi).drop lo)[k]? =some c->es'[k]? =some c'->FrzTo H c c'):FrzTo H (.sub id x n lo hi) (.list n es')
 | list {n:Nat} {es es':List D} (hl:es.length=es'.length) (hk:∀d∈es',d.kn=true/\d.cells.length=n)
    (he:∀(k:Nat) (c c':D),es[k]? =some c->es'[k]? =some c'->FrzTo H c c'):FrzTo H (.list n es) (.list n es')
 |box {id b off:Nat} {cs:List D} (h:H id=some (.box b cs)):FrzTo H (.bptr id b off) (.cptr cs off)
 |agg {cs cs':List D} (hl:cs.length=cs'.length) (h:∀(k:Nat) (c c':D),cs[k]? =some c->cs'[k]? =some c'->FrzTo H c c'):FrzTo H (.agg cs) (.agg cs')
 |tup {cs cs':List D} (hl:cs.length=cs'.length) (h:∀(k:Nat) (c c':D),cs[k]? =some c->cs'[k]? =some c'->FrzTo H c c'):FrzTo H (.tup cs) (.tup cs')
 |clo {f:Nat} {cs cs':List D} (hl:cs.length=cs'.length) (h:∀(k:Nat) (c c':D),cs[k]? =some c->cs'[k]? =some c'->FrzTo H c c'):FrzTo H (.clo f cs) (.clo f cs')
 |nomp:FrzTo H (.v (.map none)) (.mp [])
 |mrow {id:Nat} {x:Value} {es es':List D} (h:H id=some (.mrow x es)) (hl:es.length=es'.length) (he:∀(k:Nat) (c c':D),es[k]? =some c->es'[k]? =some c'->FrzTo H c c'):FrzTo H (.own id x) (.mp es')
 |mp {es es':List D} (hl:es.length=es'.length) (he:∀(k:Nat) (c c':D),es[k]? =some c->es'[k]? =some c'->FrzTo H c c'):FrzTo H (.mp es) (.mp es')
def cY:ab:=λ_=>none
def LeL(ds ds':List D):Prop:=ds.length=ds'.length/\∀(k:Nat) (d d':D),ds[k]? =some d->ds'[k]? =some d'->FrzTo cY d d'
def dC(ds:List D):Sg:=λt=>(ds[t]?).getD .any
section
variable {P:Program}{im:List Nat}{E:AD}{S:Nat->Spc}
theorem Mg{tp I:Nat->Prop}{w:World}{el n:Nat}{x:Value}{es:List D}(hI:∀b,x.ownBlock=some b->I b)(h:ResOk (R tp I w) w (.row x el n es)):R tp I w x (.list n es):=by
 obtain⟨xs,⟨g1,g2⟩,g3,g4⟩:=h;have hfl:=aY (es:=es) (λd hd=>(g3 d hd).2);rcases g2 with⟨rfl,h0⟩|⟨g,cap,cur,rfl,_,g5,g6,g7,g8,g9⟩
 ·have:es=[]:=qAd h0;subst this;exact .nolist _ _ _
 ·have hcell:∀(k:Nat) (c:D),(be es)[k]? =some c->∃y,xs[k]? =some y/\w.cell? ⟨g,0+k,none⟩=some y/\y.oneCell'=true/\R tp I w y c:=by
   intro k c hk;have hlt:k<xs.length:=by
    rw[g1,<-hfl];exact(qzV.1 hk).1
   have hy:xs[k]? =some xs[k]:=qzX hlt;refine⟨xs[k],hy,?_,(g4 k _ c hy hk).1,(g4 k _ c hy hk).2⟩;rw[qAG,cell_of_row w g k cur el (0,0) g5];have:(cur.toList.take (es.length*n))[k]? =some xs[k]:=by rw[g9];exact hy
   rw[qAf]at this;split at this
   ·simpa using this
   ·cases this
  refine .list g 0 cap n es (λk=>xs.getD k undef) (hI g rfl) g6 g7 (λ_=>⟨_,_,g5⟩) g3 (λk c hk=>?_) (λk c hk=>?_) (λk c hk=>?_)
  all_goals
   obtain⟨y,h1,h2,h3,h4⟩:=hcell k c hk;have hg:xs.getD k undef=y:=by simp[List.getD,h1]
   try dsimp only
   rw[hg]
  ·exact h2
  ·exact h3
  ·exact h4
theorem MV{tp I:Nat->Prop}{w:World}{n:Nat}{es es':List D}(hl:es.length=es'.length)(hk:∀d∈es',d.kn=true/\d.cells.length=n)
 (ih:∀(k:Nat) (c c':D),es[k]? =some c->es'[k]? =some c'->∀{x:Value},R tp I w x c->R tp I w x c') {x:Value} (hr:R tp I w x (.list n es)):R tp I w x (.list n es'):=by
 cases hr with
 | nolist a cap _=>
   have:es'=[]:=qAd (by simpa using hl.symm);subst this;exact .nolist _ _ _
 | list b off cap _ _ f hI hc hm hz hn hcell h1 h=>
   have key:∀(k:Nat) (c':D),(be es')[k]? =some c'->∃c,(be es)[k]? =some c/\R tp I w (f k) c':=by
    intro k c' hc';have hfl':=aY (es:=es') (λd hd=>(hk d hd).2);have hklt:k<es'.length*n:=by rw[<-hfl'];exact(qzV.1 hc').1
    have hn0:0<n:=by
     rcases qA4 n with h0|h0
     ·rw[h0]at hklt;omega
     ·exact h0
    have hi:k/n<es'.length:=qB1 (by rw[qBo];exact hklt);have hj:k % n<n:=qBG _ hn0;have hkk:k/n*n+k % n=k:=by rw[qBo];exact qBH k n
    have hi':k/n<es.length:=by omega
    have g1:=hU (es:=es) (λd hd=>(hn d hd).2) (i:=k/n) (j:=k % n) hj;have g2:=hU (es:=es') (λd hd=>(hk d hd).2) (i:=k/n) (j:=k % n) hj;rw[hkk]at g1 g2;rw[qzX hi']at g1;rw[qzX hi]at g2;simp only[qAh]at g1 g2;have hke:=hn _ (qBC hi');have hke':=hk _ (qBC hi);have hjl:k % n<es[k/n].cells.length:=by rw[hke.2];exact hj
    have hjl':k % n<es'[k/n].cells.length:=by rw[hke'.2];exact hj
    refine⟨es[k/n].cells[k % n],by rw[g1];exact qzX hjl,?_⟩;have hcc:es'[k/n].cells[k % n]? =some c':=by rw[<-g2];exact hc'
    have ihk:= @ih (k/n) es[k/n] es'[k/n] (qzX hi') (qzX hi);have cellat:∀j,j<n->∀c,es[k/n].cells[j]? =some c->(f (k/n*n+j)).oneCell'=true/\R tp I w (f (k/n*n+j)) c:=by
     intro j hj c hc;have g3:=hU (es:=es) (λd hd=>(hn d hd).2) (i:=k/n) (j:=j) hj;rw[qzX hi']at g3;simp only[qAh]at g3;rw[hc]at g3;exact⟨h1 _ c g3,h _ c g3⟩
    by_cases hag:∃cs,es[k/n]= .agg cs
    ·obtain⟨cs,hag⟩:=hag;have hcs:cs.length=n:=by have:=hke.2;rw[hag]at this;exact this
     have hx:R tp I w (.agg ((List.range n).map λj=>f (k/n*n+j)).toArray) (.agg cs):=by
      refine .agg _ _ (by simp[hcs]) (λy hy=>?_) (λj y c hy hc=>?_)
      ·obtain⟨j,hj,rfl⟩:=qz1.1 hy;have hj:=qBd.1 hj;have hjc:j<cs.length:=by omega
       exact(cellat j hj cs[j] (by rw[hag];exact qzX hjc)).1
      ·have hjn:j<n:=by rw[<-hcs];exact(qzV.1 hc).1
       rw[qz7,qBD hjn]at hy;cases hy;exact(cellat j hjn c (by rw[hag];exact hc)).2
     rw[<-hag]at hx;have hq:=(ihk hx).cells hke'.1;have:=(hq.2 (k % n) (f (k/n*n+k % n)) c' (by simp[Value.cells,hj]) hcc).2;rw[hkk]at this;exact this
    ·have hcell1:es[k/n].cells=[es[k/n]]:=by
      have:=hke.1;cases hd:es[k/n] <;>first|rfl|(rw[hd]at hag;exact absurd ⟨_,rfl⟩ hag)
     have hn1:n=1:=by have:=hke.2;rw[hcell1]at this;simpa using this.symm
     subst hn1;have hj0:k % 1=0:=Nat.mod_one k;have hx:=(cellat 0 (by omega) es[k/1] (by rw[hcell1];rfl))
     have hq:=(ihk hx.2).cells hke'.1;have hone:(f (k/1*1+0)).cells= #[f (k/1*1+0)]:=by
      have:=hx.1;revert this;generalize f (k/1*1+0)=y;intro hy;cases y<;>first|rfl|(simp[Value.oneCell']at hy)
     have:=(hq.2 0 (f (k/1*1+0)) c' (by rw[hone];rfl) (by rw[hj0]at hcc;exact hcc)).2;simpa using this
   rw[hl];refine .list b off cap n es' f hI (by omega) hm hz hk (λk c hkc=>?_) (λk c hkc=>?_) (λk c hkc=>?_)
   ·obtain⟨c0,h0,_⟩:=key k c hkc;exact hcell k c0 h0
   ·obtain⟨c0,h0,_⟩:=key k c hkc;exact h1 k c0 h0
   ·obtain⟨c0,h0,h2⟩:=key k c hkc;exact h2
theorem qfG{tp I:Nat->Prop}{w:World}{id n lo hi:Nat}{x q:Value}{es:List D}{I':Nat->Prop}(hl:R tp I w x (.list n es))(hq:R tp I' w q (.sub id x n lo hi)):R tp I w q (.list n ((es.take hi).drop lo)):=by
 cases hq with
 | subnil=>
   have:((es.take 0).drop 0)=[]:=by simp
   rw[this];exact .nolist _ _ _
 | sub _ b len cap _ _ _ p h1 h2 h3 hm hp=>
   cases hl with
   | nolist _ _ _=>
     have e0:hi -lo=0:=by omega
     rw[e0,qB9,qBW];exact .nolist _ _ _
   | list _ _ _ _ _ f hI hc hm' hz hn hcell hone hR=>
     by_cases hlc:lo<cap\/lo=0
     ·have:=MX hI hc hm' hz hn hcell hone hR h1 h2;rw[hp hlc];simpa using this
     ·have e0:hi -lo=0:=by omega
      have e1:(es.take hi).drop lo=[]:=by
       apply qAd;simp;omega
      rw[e0,e1];exact .nolist _ _ _
theorem FrzTo.R{tp I I':Nat->Prop}{w:World}{H Hf:ab}{d d':D}(h:FrzTo Hf d d')(hok:∀i r,Hf i=some r->ResOk (R tp I w) w r)(hI:∀b,I b->I' b)
 (hb:∀i r b,Hf i=some r->r.blk=some b->I' b):∀{x:Value},Gv.R tp I w x d->Gv.R tp I' w x d':=by
 have mv:∀x e,Gv.R tp I w x e->Gv.R tp I' w x e:=λx e hr=>hr.mono (λ_ h=>h) (λb hb=>⟨hI b hb,rfl⟩) (λb _=> .refl _ _)
 have hok':∀i r,Hf i=some r->ResOk (Gv.R tp I' w) w r:=λi r h=>(hok i r h).conv mv (λ_ _=>rfl)
 suffices ∀{x:Value},Gv.R tp I' w x d->Gv.R tp I' w x d' fromλ{x} hr=>this (mv x _ hr)
 clear hok mv hI
 induction h with
 |same d=>exactλhr=>hr
 |any d=>exactλ_=> .any _
 | nil n=>
   intro x hr;cases hr;exact .nolist _ _ _
 | own i j x=>
   intro x hr;cases hr with
   |own _ _ h1=>exact .own _ _ h1
 | nilown j=>
   intro x hr;cases hr;exact .own _ _ rfl
 | bptr i j b off=>
   intro x hr;cases hr;exact .bptr _ _ _
 | @row id y el n es es' h hl hk he ih=>
   intro x hr;cases hr;exact MV hl hk (λk c c' h1 h2=>ih k c c' h1 h2) (Mg (λb hb'=>hb _ _ b h hb') (hok' _ _ h))
 | @sub id y el n lo up es es' h hl hk he ih=>
   intro x hr;refine MV hl hk (λk c c' h1 h2=>ih k c c' h1 h2) (qfG ?_ hr);exact Mg (λb hb'=>hb _ _ b h hb') (hok' _ _ h)
 | @list n es es' hl hk he ih=>
   intro x hr;exact MV hl hk (λk c c' h1 h2=>ih k c c' h1 h2) hr
 | @box id b off cs h=>
   intro x hr;cases hr;obtain⟨xs,el,g1,g2,g3⟩:=hok' _ _ h;obtain⟨f,k1,k2,k3⟩:=yn g1 g2 g3;have:=Gv.R.cptr (tp:=tp) b 0 cs off f (hb _ _ b h rfl) (λ_=>⟨_,_,g1⟩) k1 k2 k3;simpa using this
 | @agg cs cs' hl h ih=>
   intro x hr;cases hr with
   | agg xs _ hlx h1 hx=>
     refine .agg xs cs' (hlx.trans hl) h1 (λk y c hy hc=>?_);have hk:k<cs.length:=by rw[hl];exact(qzV.1 hc).1
     exact ih k cs[k] c (qzX hk) hc (hx k y _ hy (qzX hk))
 | @tup cs cs' hl h ih=>
   intro x hr;cases hr with
   | tup xs _ hlx hx=>
     refine .tup xs cs' (hlx.trans hl) (λk y c hy hc=>?_);have hk:k<cs.length:=by rw[hl];exact(qzV.1 hc).1
     exact ih k cs[k] c (qzX hk) hc (hx k y _ hy (qzX hk))
 | @clo f cs cs' hl h ih=>
   intro x hr;cases hr with
   | clo _ xs _ hlx hx=>
     refine .clo f xs cs' (hlx.trans hl) (λk y c hy hc=>?_);have hk:k<cs.length:=by rw[hl];exact(qzV.1 hc).1
     exact ih k cs[k] c (qzX hk) hc (hx k y _ hy (qzX hk))
 | nomp=>
   intro x hr;have:=hr.inv_v;subst this;exact .nomp
 | @mrow id y es es' h hl he ih=>
   intro x hr;cases hr;obtain⟨b,ents,clock,rfl,g1,g2,g3⟩:=hok' _ _ h;refine .mp b ents clock es' (hb _ _ b h rfl) g1 (g3.1.trans hl) g2 (λk e c he hc=>?_);have hk:k<es.length:=by rw[hl];exact(qzV.1 hc).1
   exact ih k es[k] c (qzX hk) hc (g3.2 k e _ he (qzX hk))
 | @mp es es' hl he ih=>
   intro x hr;cases hr with
   | nomp=>
     have:es'=[]:=qAN.1 (by simpa using hl.symm);subst this;exact .nomp
   | mp b ents clock _ hI hh hl2 hbo h=>
     refine .mp b ents clock es' hI hh (hl2.trans hl) hbo (λk e c he hc=>?_);have hk:k<es.length:=by rw[hl];exact(qzV.1 hc).1
     exact ih k es[k] c (qzX hk) hc (h k e _ he (qzX hk))
theorem D9{tp I:Nat->Prop}{w:World}{a:Act}{σ:Sg}{H:ab}(hr:∀t,R tp I w (a.tmps.getD t undef) (σ t))(hsat:∀i r,H i=some r->ResOk (R tp I w) w r):
 ∀ (rvs:List ResultVar) (rs:List ak) (K:List D->Prop),rvs.mapM (eW P)=some rs->yY rs σ H K->
  ∃ (vs:List Value) (ds:List D),(rvs.mapM (FZ a.tmps)).run P w= .ok vs w/\vs.length=ds.length/\
   (∀(k:Nat) (x:Value) (d:D),vs[k]? =some x->ds[k]? =some d->R tp I w x d)/\K ds
 | [],rs,K,hc,hv=>by
   simp at hc;subst hc;exact⟨[], [],by simp,rfl,λk x d h=>by simp at h,hv⟩
 | .tmp t::rvs,rs,K,hc,hv=>by
   rw[qAC]at hc;simp only[eW,qzW,qzU]at hc;obtain⟨x,hx,y,hy,hc⟩:=hc;cases hx;cases hc;obtain⟨vs,ds,h1,h2,h3,h4⟩:=D9 hr hsat rvs y _ hy hv;refine⟨a.tmps.getD t undef::vs,σ t::ds,?_,by simp[h2],λk x d hx hd=>?_,h4⟩
   ·rw[qAC];simp only[qAk,FZ,qAu,qz8,h1]
   ·cases k with
    |zero=>simp at hx hd;subst hx;subst hd;simpa using hr t
    |succ k=>simp at hx hd;exact h3 k x d hx hd
 | .cell t ty::rvs,rs,K,hc,hv=>by
   rw[qAC]at hc;simp only[eW,qzW,qzU]at hc;obtain⟨x,⟨agg,ha,sz,hs,hx⟩,y,hy,hc⟩:=hc;split at hx
   ·rename_i hcond;cases hx;cases hc;simp only[yY]at hv
    have hg := Qh (P := P) (o := { dst := none, op := .load ty (.tmp t), type := 0, pos := "", after := #[], guard := none }) (a := a) rfl ha hs (by simpa using hcond) (hr t) (fun _ _ h => h) hsat hv
    obtain⟨v,d,hrun,hR,hk⟩:=hg;obtain⟨vs,ds,h1,h2,h3,h4⟩:=D9 hr hsat rvs y _ hy hk;have hrun':(do loadVar ty (<-asAddr (a.tmps.getD t undef)):Sem Value).run P w= .ok v w:=by
     simp only[execOp,Act.eval,Instr.loadAt]at hrun;generalize a.tmps.getD t undef=q at*;cases q with
     | pointer p=>
       cases p with
       | some ad=>
         simp only[Instr.sureAddr,asAddr,qAk,qAu,qz8]at hrun ⊢;generalize (loadVar ty ad).run P w=r at*;cases r with
         | ok u w'=>
           simp only[qz8,Result.ok.injEq,Next.value.injEq]at hrun;obtain⟨rfl,rfl⟩:=hrun;rfl
         |halt h w'=>simp[Result.andThen]at hrun
       |none=>simp[Instr.sureAddr,Result.andThen]at hrun
     | _=>simp[Instr.sureAddr,Result.andThen]at hrun
    refine⟨v::vs,d::ds,?_,by simp[h2],λk x e hx he=>?_,h4⟩
    ·rw[qAC];rw[qAk];rw[show Sem.run P (FZ a.tmps (ResultVar.cell t ty)) w= .ok v w from hrun'];simp only[qz8,qAk,h1,qAu]
    ·cases k with
     |zero=>simp at hx he;subst hx;subst he;exact hR
     |succ k=>simp at hx he;exact h3 k x e hx he
   ·cases hx
theorem rh{fn:Func}{rs:List ak}(hc:fn.results.toList.mapM (eW P)=some rs){tp I:Nat->Prop}{w:World}{a:Act}{σ:Sg}{H:ab}(hr:∀t,R tp I w (a.tmps.getD t undef) (σ t))(hsat:∀i r,H i=some r->ResOk (R tp I w) w r)
 {K:D->Prop} (hv:yY rs σ H λds=>K (dI ds)):∃v d,(results fn a.tmps).run P w= .ok v w/\R tp I w v d/\K d:=by
 obtain⟨vs,ds,h1,h2,h3,h4⟩:=D9 hr hsat fn.results.toList rs _ hc hv;have hm:(fn.results.mapM (FZ a.tmps)).run P w= .ok vs.toArray w:=by
  rw[Array.mapM_eq_mapM_toList];simp only[Sem.run_map,h1,qz8]
 refine⟨if h:vs.toArray.size=1 then vs.toArray[0]else .tuple vs.toArray,dI ds,?_,?_,h4⟩
 ·rw[YH,qAk,hm];simp only[qz8,qAu]
 ·match vs,ds,h2 with
  | [v], [d],_=>exact h3 0 v d rfl rfl
  | [], [],_=>exact .tup [] [] rfl (λk x c h=>by simp at h)
  |v1::v2::vs,d1::d2::ds,hl=>exact .tup _ _ hl h3
theorem Yk{z:List PanicEntry->Prop}{f:Nat}{fn:Func}{code:Code}{cc:CC}{rs:List ak}{A:PT}(hqu:Ku dq P z S cc)(hmix:P.follows .mixedOrders=true)(hf:P.funcs[f]? =some fn)(hb:fn.body=some code)(hce:ee P f){N:Nat}(hN:fn.ntmps=N)
 (hcc:aG P im N code=some (bG cc)) (hrs:fn.results.toList.mapM (eW P)=some rs)
 (hA:∀ (ds:List D) (H:ab) (d:Nat) (K:D->ab->Prop),A d ds H K->ds.length<=N/\
   ∃ (ds':List D) (H0:ab) (ι:Nat->Nat),LeL ds ds'/\(∀i r,H0 i=some r->H (ι i)=some r)/\(∀i j r s,H0 i=some r->H0 j=some s->ι i=ι j->i=j)/\
    ∃Q:D->ab->Prop,vc S cc (vN rs Q) (dC ds') H0/\∀r H',Q r H'->∃(r':D) (Hf Hc:ab) (κ:Nat->Option Nat),FrzTo Hf r r'/\(∀j q,Hf j=some q->H' j=some q/\∀i,κ i≠some j)/\K r' Hc/\
     (∀i s,Hc i=some s->match κ i with|some j=>H' j=some s|none=>H i=some s/\∀k q,H0 k=some q->ι k≠i)/\
     (∀i j k s q,Hc i=some s->Hc j=some q->κ i=some k->κ j=some k->i=j)):TriZ dq z P f A:=by
 intro O tp w vs ds H d K hO htl hsat hlen hargs hAK;refine⟨hce,?_⟩;obtain⟨hdN,ds',H0,ι,hle,hsub,hinj,Q,hv,hQ⟩:=hA ds H d K hAK
 let passed:Nat->Prop:=λi=>∃k q,H0 k=some q/\ι k=i
 let rest:Nat->Prop:=λb=>∃i r,H i=some r/\ ¬passed i/\r.blk=some b
 let E:AD:={ O:=λb=>O b\/rest b,tp0:=tp,w0:=w,own0:=bL H0,N:=N,dq:=dq }
 have hownH0:∀b,bL H0 b->bL H b:=λb ⟨i,r,h1,h2⟩=>⟨ι i,r,hsub i r h1,h2⟩
 have hrestlt:∀b,rest b->b<w.heap.size:=λb ⟨i,r,h1,_,h2⟩=>(hsat.ok i r h1).lt h2
 have hrestown:∀b,rest b->¬bL H0 b:=λb ⟨i,r,h1,h2,h3⟩ ⟨j,s,h4,h5⟩=>h2 ⟨j,s,h4,(hsat.dis i (ι j) r s b h1 (hsub j s h4) h3 h5).symm⟩
 have himm:∀b,bh O tp H w b->bh E.O tp H0 w b:=λb hb=>⟨hb.1,λh=>h.elim hb.2.1 (λ⟨i,r,h1,_,h2⟩=>hb.2.2.2 ⟨i,r,h1,h2⟩),hb.2.2.1,λh=>hb.2.2.2 (hownH0 b h)⟩
 have hmove:∀x e,R tp (bh O tp H w) w x e->R tp (bh E.O tp H0 w) w x e:=λx e hr=>hr.mono (λ_ h=>h) (λb hb=>⟨himm b hb,rfl⟩) (λb _=> .refl _ _)
 have hstw:StW E tp H0 w:=by
  refine⟨λb hb=>hb.elim (hO b) (hrestlt b),λb h=>h,λb h=> .inl h,⟨htl.1,htl.2.mono (λ_ h=>h) hownH0⟩, .refl _ _ _,λb hb=> .inl hb,⟨λi j r s b h1 h2 h3 h4=>?_,λi r b h1 h2=>⟨λh=>?_,?_⟩,λi r h1=>?_⟩⟩
  ·exact hinj i j r s h1 h2 (hsat.dis _ _ r s b (hsub i r h1) (hsub j s h2) h3 h4)
  ·rcases h with h|h
   ·exact(hsat.out _ r b (hsub i r h1) h2).1 h
   ·exact hrestown b h ⟨i,r,h1,h2⟩
  ·exact(hsat.out _ r b (hsub i r h1) h2).2
  ·exact(hsat.ok _ r (hsub i r h1)).conv hmove (λ_ _=>rfl)
 have hst:St E (dC ds') H0 { tmps:=vs.toArray++Array.replicate (fn.ntmps -vs.toArray.size) undef,defers:=[] } w:=by
  refine⟨rfl,?_,tp,hstw,λt=>?_⟩
  ·show(vs.toArray++Array.replicate (fn.ntmps -vs.toArray.size) undef).size=N;simp;omega
  ·unfold dC;cases hd:ds'[t]? with
   |none=>exact .any _
   | some e'=>
     have hlt:t<vs.length:=by rw[hlen,hle.1];exact(qzV.1 hd).1
     have hlt':t<ds.length:=by rw[<-hlen];exact hlt
     have hg:(vs.toArray++Array.replicate (fn.ntmps -vs.toArray.size) undef).getD t undef=vs[t]:=by
      rw[qAv,qAM (by simpa using hlt)];simp[hlt]
     simp only[qAE,hg];have he:=qzX hlt';exact(hle.2 t _ e' he hd).R (H:=cY) (λi r h=>by cases h) (λ_ h=>h) (λi r b h=>by cases h) (hmove _ _ (hargs t _ _ (by simp[hlt]) he))
 have hwp:=Po hmix cc hqu code (by exact hcc) _ _ _ _ w hst hv;refine calls_of_wp hf hb (qBr ?_ hwp);have sC:∀a' w' σ' H',St E σ' H' a' w'->(yY rs σ' H' λds=>Q (dI ds) H')->
  a'.defers=[]/\∃v,(results fn a'.tmps).run P w'= .ok v w'/\ZJ dq O tp H w K (.returned v) w':=by
  intro a' w' σ' H' hst' hres;obtain⟨hd',hN',tp',hw',hr'⟩:=hst';obtain⟨v,r0,hrun,hR,hq⟩:=rh (K:=λr=>Q r H') hrs hr' hw'.sat.ok hres;obtain⟨r,Hf,Hc,κ,hfz,hHf,hK,hκ,hκi⟩:=hQ r0 H' hq;refine⟨hd',v,hrun,v,r,Hc,tp',rfl,hK,hw'.tpx,hw'.tpn,hw'.tpl.1,?_,?_,?_,?_⟩
  ·-- the step
   have hs:=hw'.step;exact⟨hs.os,hs.tape,hs.output,hs.size,λb hb ho ht=>hs.same b hb (λh=>ho (hownH0 b h)) ht,hs.tapes,hs.drawn⟩
  all_goals
   have hkn:∀i s,Hc i=some s->(∃j,κ i=some j/\H' j=some s)\/(κ i=none/\H i=some s/\ ¬passed i):=λi s hi=>by
    have:=hκ i s hi;cases hk:κ i with
    |some j=>rw[hk]at this;exact .inl ⟨j,rfl,this⟩
    |none=>rw[hk]at this;exact .inr ⟨rfl,this.1,λ⟨k,q,h1,h2⟩=>this.2 k q h1 h2⟩
  ·intro b ⟨i,s,h1,h2⟩;rcases hkn i s h1 with⟨j,_,h3⟩|⟨_,h3,_⟩
   ·rcases hw'.loc b ⟨j,s,h3,h2⟩with h4|h4
    ·exact .inl (hownH0 b h4)
    ·exact .inr h4
   ·exact .inl ⟨i,s,h3,h2⟩
  all_goals
   have hownc:∀b,bL Hc b->bL H' b\/rest b:=λb ⟨i,s,h1,h2⟩=>by
    rcases hkn i s h1 with⟨j,_,h3⟩|⟨_,h3,h4⟩
    ·exact .inl ⟨j,s,h3,h2⟩
    ·exact .inr ⟨i,s,h3,h4,h2⟩
   have himmc:∀b,bh E.O tp' H' w' b->bh O tp' Hc w' b:=λb hb=>⟨hb.1,λh=>hb.2.1 (.inl h),hb.2.2.1,λh=>by
    rcases hownc b h with h|h
    ·exact hb.2.2.2 h
    ·exact hb.2.1 (.inr h)⟩
   have hmovec:∀x e,R tp' (bh E.O tp' H' w') w' x e->R tp' (bh O tp' Hc w') w' x e:=λx e hr=>hr.mono (λ_ h=>h) (λb hb=>⟨himmc b hb,rfl⟩) (λb _=> .refl _ _)
  ·refine⟨λi j s q b h1 h2 h3 h4=>?_,λi s b h1 h2=>?_,λi s h1=>?_⟩
   ·rcases hkn i s h1 with⟨i',e1,k1⟩|⟨e1,k1,p1⟩
    ·rcases hkn j q h2 with⟨j',e2,k2⟩|⟨e2,k2,p2⟩
     ·have:=hw'.sat.dis i' j' s q b k1 k2 h3 h4;subst this;exact hκi i j i' s q h1 h2 e1 e2
     ·exact absurd (Or.inr ⟨j,q,k2,p2,h4⟩) (hw'.sat.out i' s b k1 h3).1
    ·rcases hkn j q h2 with⟨j',e2,k2⟩|⟨e2,k2,p2⟩
     ·exact absurd (Or.inr ⟨i,s,k1,p1,h3⟩) (hw'.sat.out j' q b k2 h4).1
     ·exact hsat.dis i j s q b k1 k2 h3 h4
   ·rcases hkn i s h1 with⟨i',e1,k1⟩|⟨e1,k1,p1⟩
    ·have:=hw'.sat.out i' s b k1 h2;exact⟨λh=>this.1 (.inl h),this.2⟩
    ·have h3:=hsat.out i s b k1 h2;refine⟨h3.1,λh=>?_⟩;rcases hw'.tpn b h with h4|h4
     ·exact h3.2 h4
     ·have:=(hsat.ok i s k1).lt h2;have h4':w.heap.size<=b:=h4;omega
   ·rcases hkn i s h1 with⟨i',e1,k1⟩|⟨e1,k1,p1⟩
    ·exact(hw'.sat.ok i' s k1).conv hmovec (λ_ _=>rfl)
    ·-- a resource that was not handed in is as it was
     have hs:=hw'.step;have hsame:∀b,b<w.heap.size->¬bL H0 b->¬tp b->w'.heap[b]? =w.heap[b]?:=hs.same;refine(hsat.ok i s k1).conv (λx e hr=>?_) (λb hb=>hsame b ((hsat.ok i s k1).lt hb) (hrestown b ⟨i,s,k1,p1,hb⟩) (hsat.out i s b k1 hb).2);refine hr.mono hw'.tpx (λb hb=>?_) hs.tapes;have h0:¬bL H0 b:=λh=>hb.2.2.2 (hownH0 b h)
     have hsz:w.heap.size<=w'.heap.size:=hs.size;have hbl:b<w.heap.size:=hb.1;refine⟨⟨by omega,hb.2.1,λh=>?_,λh=>?_⟩,hsame b hb.1 h0 hb.2.2.1⟩
     ·rcases hw'.tpn b h with h4|h4
      ·exact hb.2.2.1 h4
      ·have h4':w.heap.size<=b:=h4;omega
     ·rcases hownc b h with h|h
      ·rcases hw'.loc b h with h4|h4
       ·exact h0 h4
       ·have h4':w.heap.size<=b:=h4;omega
      ·obtain⟨j,q,h5,_,h6⟩:=h;exact hb.2.2.2 ⟨j,q,h5,h6⟩
  ·refine hfz.R (H:=cY) (λi q hi=>hw'.sat.ok i q (hHf i q hi).1) himmc (λi q b hi hb=>?_) hR;obtain⟨hi',hne⟩:=hHf i q hi;have ho:=hw'.sat.out i q b hi' hb;refine⟨(hw'.sat.ok i q hi').lt hb,λh=>ho.1 (.inl h),ho.2,λ⟨j,s,h1,h2⟩=>?_⟩;rcases hkn j s h1 with⟨j',e1,k1⟩|⟨e1,k1,p1⟩
   ·have:=hw'.sat.dis i j' q s b hi' k1 hb h2;subst this;exact hne j e1
   ·exact ho.1 (.inr ⟨j,s,k1,p1,h2⟩)
 intro e a' w' hp;cases e with
 | normal=>
   obtain⟨σ',H',hs,hk⟩:=hp
   let ⟨h1,v,h2,h3⟩:=sC a' w' σ' H' hs hk
   exact⟨h1,v,h2, .inl h3⟩
 | ret=>
   obtain⟨σ',H',hs,hk⟩:=hp
   let ⟨h1,v,h2,h3⟩:=sC a' w' σ' H' hs hk
   exact⟨h1,v,h2, .inl h3⟩
 | exit i=>
   obtain⟨σ',H',hs,hk⟩:=hp;exact hk.elim
 |goto l=>exact hp.elim
 | panic c=>
   have hs:=hp.2.2;exact⟨hp.1, .inr ⟨c,rfl,hp.2.1,⟨hs.os,hs.tape,hs.output,hs.size,λb hb ho ht=>hs.same b hb (λh=>ho (hownH0 b h)) ht,hs.tapes,hs.drawn⟩⟩⟩
 |outgrown=>exact hp.elim
theorem nG{f:Nat}{fn:Func}{code:Code}{cc:CC}{rs:List ak}{A:PT}(hS:∀f,Tri dq P f (S f).pt)(hmix:P.follows .mixedOrders=true)(hf:P.funcs[f]? =some fn)(hb:fn.body=some code)(hce:ee P f){N:Nat}(hN:fn.ntmps=N)
 (hcc:aG P im N code=some (bG cc)) (hrs:fn.results.toList.mapM (eW P)=some rs)
 (hA:∀ (ds:List D) (H:ab) (d:Nat) (K:D->ab->Prop),A d ds H K->ds.length<=N/\
   ∃ (ds':List D) (H0:ab) (ι:Nat->Nat),LeL ds ds'/\(∀i r,H0 i=some r->H (ι i)=some r)/\(∀i j r s,H0 i=some r->H0 j=some s->ι i=ι j->i=j)/\
    ∃Q:D->ab->Prop,vc S cc (vN rs Q) (dC ds') H0/\∀r H',Q r H'->∃(r':D) (Hf Hc:ab) (κ:Nat->Option Nat),FrzTo Hf r r'/\(∀j q,Hf j=some q->H' j=some q/\∀i,κ i≠some j)/\K r' Hc/\
     (∀i s,Hc i=some s->match κ i with|some j=>H' j=some s|none=>H i=some s/\∀k q,H0 k=some q->ι k≠i)/\
     (∀i j k s q,Hc i=some s->Hc j=some q->κ i=some k->κ j=some k->i=j)):Tri dq P f A:=
 (Yk (z:=VM) (oJ hS cc) hmix hf hb hce hN hcc hrs hA).no
end
structure Ak (P:Program) (f:Nat) (im:List Nat) (cc:CC) (rs:List ak) (N:Nat):Prop where
 wQ:P.follows .mixedOrders=true
 enter:ee P f
 ex:∃fn code,P.funcs[f]? =some fn/\fn.body=some code/\fn.ntmps=N/\aG P im N code=some (bG cc)/\fn.results.toList.mapM (eW P)=some rs
section
variable {P:Program}{S:Nat->Spc}{f:Nat}{im:List Nat}{cc:CC}{rs:List ak}{N:Nat}
def qe1{X:Type}(dec:List D->Option X)(pre:X->Prop)(post:X->D->Prop):Spc:=
 .pure { pre:=λds=>∃x,dec ds=some x/\pre x,post:=λds r=>∀x,dec ds=some x->pre x->post x r }
def qdH{X:Type}{dec:List D->Option X}{pre:X->Prop}{post:X->D->Prop}{d:Nat}{ds:List D}{H:ab}{K:D->ab->Prop}(x:X)(h:dec ds=some x)(hp:pre x)
 (hk:∀r,post x r->K r H):(qe1 dec pre post).pt d ds H K:=⟨⟨x,h,hp⟩,λr hr=>hk r (hr x h hp)⟩
theorem qdM(hS:∀f,Tri dq P f (S f).pt)(h:Ak P f im cc rs N){X:Type}{dec:List D->Option X}{view:X->List D}{pre:X->Prop}{post:X->D->Prop}
 (hle:∀ds x,dec ds=some x->LeL ds (view x)) (hN:∀x,(view x).length<=N)
 (hv:∀x,pre x->vc S cc (vN rs λr H'=>∃r',FrzTo H' r r'/\post x r') (dC (view x)) cY):Tri dq P f (qe1 dec pre post).pt:=by
 obtain⟨wQ,enter,fn,code,h1,h2,h3,h4,h5⟩:=h;refine nG hS wQ h1 h2 enter h3 h4 h5 ?_;rintro ds H d K ⟨⟨x,hd,hp⟩,hK⟩;have hl:=hle ds x hd;refine⟨by rw[hl.1];exact hN x,view x,cY,id,hl,λi r h=>by simp[cY]at h,λi j r s h=>by simp[cY]at h,_,hv x hp,?_⟩;rintro r H' ⟨r',hf,hpost⟩;refine⟨r',H',H,λ_=>none,hf,λj q h=>⟨h,λi=>by simp⟩,hK r' (λy hy _=>?_),λi s hi=>⟨hi,λk q h=>by simp[cY]at h⟩,λi j k s q _ _ h=>by cases h⟩;rw[hd]at hy;cases hy;exact hpost
end
class Cod (X:Type) where
 wd:Nat
 enc:X->D
 dec:D->Option X
 kn:∀x,(enc x).kn=true
 wid:∀x,(enc x).cells.length=wd
 dec_enc:∀x,dec (enc x)=some x
 le:∀d x,dec d=some x->FrzTo cY d (enc x)
open Cod (enc dec)
instance:Cod Int where
 wd:=1
 enc n:= .v (.int .i64 n)
 dec| .v (.int .i64 n)=>some n|_=>none
 kn _:=rfl
 wid _:=rfl
 dec_enc _:=rfl
 le d x h:=by
  split at h
  ·cases h;exact .same _
  ·cases h
instance:Cod Bool where
 wd:=1
 enc n:= .v (.bool n)
 dec| .v (.bool n)=>some n|_=>none
 kn _:=rfl
 wid _:=rfl
 dec_enc _:=rfl
 le d x h:=by
  split at h
  ·cases h;exact .same _
  ·cases h
instance:Cod ByteArray where
 wd:=1
 enc n:= .v (.string n)
 dec| .v (.string n)=>some n|_=>none
 kn _:=rfl
 wid _:=rfl
 dec_enc _:=rfl
 le d x h:=by
  split at h
  ·cases h;exact .same _
  ·cases h
def VR{X:Type}{f:D->Option X} :∀{es:List D} {l:List X},es.mapM f=some l->es.length=l.length/\∀(k:Nat) (c:D) (x:X),es[k]? =some c->l[k]? =some x->f c=some x
 | [],l,h=>by
   simp at h;subst h;exact⟨rfl,λk c x h=>by simp at h⟩
 | d::es,l,h=>by
   rw[qAC]at h;simp only[qzW,qzU]at h;obtain⟨y,hy,r,hr,h⟩:=h;cases h;have ih:=VR hr;refine⟨by simp[ih.1],λk c x h1 h2=>?_⟩;cases k with
   |zero=>simp at h1 h2;subst h1;subst h2;exact hy
   |succ k=>simp at h1 h2;exact ih.2 k c x h1 h2
def Gt{X:Type}[Cod X]:∀(l:List X),(l.map enc).mapM (dec (X:=X))=some l
 | []=>by simp
 |x::l=>by rw[qAo,qAC,Cod.dec_enc,Gt l];rfl
instance {X:Type} [Cod X]:Cod (List X) where
 wd:=1
 enc l:= .list (Cod.wd X) (l.map enc)
 dec
  | .list n es=>if n=Cod.wd X then es.mapM (dec (X:=X))else none
  | .v (.slice none 0 0)=>some []
  | _=>none
 kn _:=rfl
 wid _:=rfl
 dec_enc l:=by
  show(if _ then _ else _)=_;rw[if_pos rfl];exact Gt l
 le d l h:=by
  split at h
  ·split at h
   ·rename_i n es hn;subst hn;obtain⟨h1,h2⟩:=VR h;refine .list (by simp[h1]) (λe he=>?_) (λk c c' hc hc'=>?_)
    ·obtain⟨x,hx,rfl⟩:=qz1.1 he;exact⟨Cod.kn x,Cod.wid x⟩
    ·rw[qz7]at hc';cases hx:l[k]? with
     |none=>rw[hx]at hc';cases hc'
     | some x=>
       rw[hx]at hc';cases hc';exact Cod.le c x (h2 k c x hc hx)
   ·cases h
  ·cases h;exact .nil _
  ·cases h
def qjW(n:Int):enc n= .v (.int .i64 n):=rfl
def qgx(b:Bool):enc b= .v (.bool b):=rfl
def qjV(s:ByteArray):enc s= .v (.string s):=rfl
def qnh:List D->Option Unit
 | []=>some ()
 | _=>none
def qng{X:Type}[Cod X]:List D->Option X
 | [a]=>dec a
 | _=>none
def qnf{X Y:Type}[Cod X][Cod Y]:List D->Option (X×Y)
 | [a,b]=>(dec a).bind λx=>(dec b).bind λy=>some (x,y)
 | _=>none
def qne{X Y Z:Type}[Cod X][Cod Y][Cod Z]:List D->Option (X×Y×Z)
 | [a,b,c]=>(dec a).bind λx=>(dec b).bind λy=>(dec c).bind λz=>some (x,y,z)
 | _=>none
def qnd{X Y Z W:Type}[Cod X][Cod Y][Cod Z][Cod W]:List D->Option (X×Y×Z×W)
 | [a,b,c,d]=>(dec a).bind λx=>(dec b).bind λy=>(dec c).bind λz=>(dec d).bind λw=>some (x,y,z,w)
 | _=>none
def LeL.nil:LeL [] []:=⟨rfl,λk d d' h=>by simp at h⟩
def LeL.cons{d d':D}{ds ds':List D}(h:FrzTo cY d d')(hs:LeL ds ds'):LeL (d::ds) (d'::ds'):=
 ⟨by simp[hs.1],λk e e' h1 h2=>by
  cases k with
  |zero=>simp at h1 h2;subst h1;subst h2;exact h
  |succ k=>simp at h1 h2;exact hs.2 k e e' h1 h2⟩
def LeL.agg{ds ds':List D}(h:LeL ds ds'):FrzTo cY (.agg ds) (.agg ds'):= .agg h.1 h.2
def qzs:∀ds (x:Unit),qnh ds=some x->LeL ds []:=by
 intro ds x h;unfold qnh at h;split at h
 ·exact .nil
 ·cases h
def qzr{X:Type}[Cod X]:∀ds (x:X),qng ds=some x->LeL ds [enc x]:=by
 intro ds x h;unfold qng at h;split at h
 ·exact .cons (Cod.le _ _ h) .nil
 ·cases h
def qzq{X Y:Type}[Cod X][Cod Y]:∀ds (x:X×Y),qnf ds=some x->LeL ds [enc x.1,enc x.2]:=by
 intro ds x h;unfold qnf at h;split at h
 ·simp only[qzU]at h;obtain⟨a,ha,b,hb,h⟩:=h;cases h;exact .cons (Cod.le _ _ ha) (.cons (Cod.le _ _ hb) .nil)
 ·cases h
def qzp{X Y Z:Type}[Cod X][Cod Y][Cod Z]:∀ds (x:X×Y×Z),qne ds=some x->LeL ds [enc x.1,enc x.2.1,enc x.2.2]:=by
 intro ds x h;unfold qne at h;split at h
 ·simp only[qzU]at h;obtain⟨a,ha,b,hb,c,hc,h⟩:=h;cases h;exact .cons (Cod.le _ _ ha) (.cons (Cod.le _ _ hb) (.cons (Cod.le _ _ hc) .nil))
 ·cases h
def qzo{X Y Z W:Type}[Cod X][Cod Y][Cod Z][Cod W]:∀ds (x:X×Y×Z×W),qnd ds=some x->LeL ds [enc x.1,enc x.2.1,enc x.2.2.1,enc x.2.2.2]:=by
 intro ds x h;unfold qnd at h;split at h
 ·simp only[qzU]at h;obtain⟨a,ha,b,hb,c,hc,d,hd,h⟩:=h;cases h;exact .cons (Cod.le _ _ ha) (.cons (Cod.le _ _ hb) (.cons (Cod.le _ _ hc) (.cons (Cod.le _ _ hd) .nil)))
 ·cases h
def Jh:List (Nat×Spc)->Nat->Spc
 | [],_=> .none
 |(g,c)::l,f=>if f=g then c else Jh l f
def Us(P:Program)(f:Nat):Tri dq P f (Spc.none).pt:=λ_ _ _ _ _ _ _ _ _ _ _ _ _ h=>h.elim
def ag{P:Program} :∀{l:List (Nat×Spc)},(∀p∈l,Tri dq P p.1 p.2.pt)->∀f,Tri dq P f (Jh l f).pt
 | [],_,f=>Us P f
 | (g,c)::l,h,f=>by
  unfold Jh;split
  ·rename_i e;subst e;exact h (f,c) (by simp)
  ·exact ag (λp hp=>h p (by simp[hp])) f
def ae{P:Program} :∀p∈ ([]:List (Nat×Spc)),Tri dq P p.1 p.2.pt:=λp h=>by cases h
def aa{P:Program}{f:Nat}{c:Spc}{l:List (Nat×Spc)}(h:Tri dq P f c.pt)(hl:∀p∈l,Tri dq P p.1 p.2.pt):∀p∈ (f,c)::l,Tri dq P p.1 p.2.pt:=λp hp=>by
 rcases qAc.1 hp with rfl|hp
 ·exact h
 ·exact hl p hp
def qcQ{X:Type}[Cod X]{H:ab}{id el:Nat}{x:Value}{l:List X}(h:H id=some (.row x el (Cod.wd X) (l.map enc))):FrzTo H (.own id x) (enc l):=
 .row h rfl (λd hd=>by obtain⟨y,_,rfl⟩:=qz1.1 hd;exact⟨Cod.kn y,Cod.wid y⟩) (λk c c' h1 h2=>by rw[h1]at h2;cases h2;exact .same _)
end Go.Gv
