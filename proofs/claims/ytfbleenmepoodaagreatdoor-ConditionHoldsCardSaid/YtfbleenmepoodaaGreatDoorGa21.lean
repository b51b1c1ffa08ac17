/- A part of the framework and of the walks: T14 T15 T16 T17 W10. -/
import Derived.Test.YtfbleenmepoodaaGreatDoorGa20
set_option linter.unusedSimpArgs false
set_option linter.unusedVariables false
set_option linter.unusedSectionVars false
set_option linter.defProp false
set_option maxRecDepth 100000
namespace Go.Gv
open Cod (enc dec)
variable {dq:Prop}
section
variable {X Y:Type}[Cod Y]
def qga(A:fw X)(pre:X->List Y->Prop)(post:X->List Y->List Y->Prop)(el n:Nat):PT:=λd ds H K=>∃id v l ds' x,ds= .own id v::ds'/\A.dec ds'=some x/\H id=some (.row v el n (l.map enc))/\pre x l/\
 ∀v' l',post x l l'->K (.own id v') (aj H id (some (.row v' el n (l'.map enc))))
def UH(A:fw X)(pre:X->List Y->Prop)(post:X->List Y->List Y->Prop)(el n:Nat):uo (qga A pre post el n):=λd ds H K K' hk ⟨id,v,l,ds',x,h1,h2,h3,h4,h5⟩=>⟨id,v,l,ds',x,h1,h2,h3,h4,λv' l' hp=>hk _ _ (h5 v' l' hp)⟩
def qgc(A:fw X)(pre:X->List Y->Prop)(post:X->List Y->List Y->Prop)(el n:Nat):Spc:= .gen _ (UH A pre post el n)
def qdM(A:fw X)(pre:X->List Y->Prop)(post:X->List Y->List Y->Prop)(el n id:Nat)(v:Value)(ds:List D)(r:Option Res)(H:aa)(K:D->aa->Prop):Prop:=∃l,r=some (.row v el n (l.map enc))/\ij (A.dec ds) λx=>pre x l/\∀v' l',post x l l'->K (.own id v') (aj H id (some (.row v' el n (l'.map enc))))
@[congr] theorem qf9{A:fw X}{pre:X->List Y->Prop}{post:X->List Y->List Y->Prop}{el n id:Nat}{v:Value}{ds ds':List D}{r r':Option Res}{H:aa}{K:D->aa->Prop}(h1:ds=ds')(h2:r=r'):qdM A pre post el n id v ds r H K=qdM A pre post el n id v ds' r' H K:=by subst h1;subst h2;rfl
@[simp] theorem qgb(A:fw X)(pre:X->List Y->Prop)(post:X->List Y->List Y->Prop)(el n:Nat)(d i:Nat)(v:Value)(ds:List D)(H:aa)(K:D->aa->Prop):(qgc A pre post el n).pt d (.own i v::ds) H K=qdM A pre post el n i v ds (H i) H K:=by
 refine propext ⟨λh=>?_,λh=>?_⟩
 ·obtain⟨id,v,l,ds',x,h1,h2,h3,h4,h5⟩:=h;cases h1;refine⟨l,h3,?_⟩;rw[h2];exact⟨h4,h5⟩
 ·obtain⟨l,h1,h2⟩:=h;cases hd:A.dec ds with
  | none=>rw[hd]at h2;exact h2.elim
  | some x=>rw[hd]at h2;exact⟨i,v,l,ds,x,rfl,hd,h1,h2.1,h2.2⟩
@[simp] theorem qh5(A:fw X)(pre:X->List Y->Prop)(post:X->List Y->List Y->Prop)(el n id:Nat)(v:Value)(ds:List D)(l:List Y)(H:aa)(K:D->aa->Prop):qdM A pre post el n id v ds (some (.row v el n (l.map enc))) H K=ij (A.dec ds) λx=>pre x l/\∀v' l',post x l l'->K (.own id v') (aj H id (some (.row v' el n (l'.map enc)))):=by
 refine propext ⟨λ⟨l',h1,h2⟩=>?_,λh=>⟨l,rfl,h⟩⟩;simp at h1;subst h1;exact h2
def qcn(el n:Nat)(q:List Y->Prop)(r:D)(H':aa):Prop:=∃j v l,r= .own j v/\H' j=some (.row v el n (l.map enc))/\q l
def UX{el n:Nat}{q:List Y->Prop}{j:Nat}{v:Value}{H':aa}(l:List Y)(h:H' j=some (.row v el n (l.map enc)))(hq:q l):qcn el n q (.own j v) H':=⟨j,v,l,rfl,h,hq⟩
def SM(cc:CC)(rs:List ai)(S:Nat->Spc)(A:fw X)(pre:X->List Y->Prop)(post:X->List Y->List Y->Prop)(el n:Nat):Prop:=
 ∀v l x,pre x l->vc S cc (ra rs λr H'=>qcn el n (post x l) r H') (cR (.own 0 v::A.view x)) (aj cv 0 (some (.row v el n (l.map enc))))
variable {P:Program}{S:Nat->Spc}{f:Nat}{im:List Nat}{cc:CC}{rs:List ai}{N:Nat}{A:fw X}{el n:Nat}
theorem Lr{pre:X->List Y->Prop}{post:X->List Y->List Y->Prop}(hS:∀f,Tri dq P f (S f).pt)(h:aq P f im cc rs N)(hN:∀x,(A.view x).length+1<=N)(hw:SM cc rs S A pre post el n):Tri dq P f (qgc A pre post el n).pt:=by
 obtain⟨rp,enter,fn,code,h1,h2,h3,h4,h5⟩:=h;refine mZ hS rp h1 h2 enter h3 h4 h5 ?_;rintro ds H d K ⟨id,v,l,ds',x,rfl,hd,hid,hp,hK⟩;have hl:=A.le ds' x hd;refine⟨by simp only[qkn];rw[hl.1];exact hN x, .own 0 v::A.view x,aj cv 0 (some (.row v el n (l.map enc))),λ_=>id, .cons (.own _ _ _) hl,λi r h=>?_,λi j r s h h' _=>?_,_,hw v l x hp,?_⟩
 ·by_cases e:i=0
  ·subst e;simp only[aj,if_true]at h;cases h;exact hid
  ·simp[aj,e]at h
 ·have a:i=0:=by
   by_cases e:i=0
   ·exact e
   ·simp[aj,e]at h
  have b:j=0:=by
   by_cases e:j=0
   ·exact e
   ·simp[aj,e]at h'
  exact a.trans b.symm
 ·rintro r H' ⟨j,v',l',rfl,hj,hpost⟩;refine⟨.own id v',cv,aj H id (some (.row v' el n (l'.map enc))),λi=>if i=id then some j else none, .own _ _ _,λj q h=>by simp at h,hK v' l' hpost,λi s hi=>?_,λi j' k s q hi hj' e1 e2=>?_⟩
  ·by_cases e:i=id
   ·subst e;simp only[aj,if_true]at hi;cases hi;simpa using hj
   ·simp only[aj,e,if_false]at hi ⊢;exact⟨hi,λk q h he=>e he.symm⟩
  ·have a:i=id:=by
    by_cases e:i=id
    ·exact e
    ·simp[e]at e1
   have b:j'=id:=by
    by_cases e:j'=id
    ·exact e
    ·simp[e]at e2
   exact a.trans b.symm
end
def aD{X:Type}(A:fw X):fw (D×X):=⟨λds=>match ds with|d::r=>(A.dec r).map λx=>(d,x)|_=>none,λx=>x.1::A.view x.2,λds x h=>by
 split at h
 ·simp only[qjH]at h;obtain⟨y,hy,rfl⟩:=h;exact .cons (.same _) (A.le _ _ hy)
 ·cases h⟩
def aE(X:Type)[Cod X]{Y:Type}(A:fw Y):fw (X×Y):=⟨λds=>match ds with|d::r=>(dec d).bind λx=>(A.dec r).map λy=>(x,y)|_=>none,λx=>enc x.1::A.view x.2,λds x h=>by
 split at h
 ·simp only[qjy,qjH]at h;obtain⟨x,hx,y,hy,rfl⟩:=h;exact .cons (Cod.le _ _ hx) (A.le _ _ hy)
 ·cases h⟩
@[simp] theorem qhq{X:Type}(A:fw X)(d:D)(r:List D):(aD A).dec (d::r)=(A.dec r).map λx=>(d,x):=id rfl
@[simp] theorem qeP{X:Type}(A:fw X)(d:D)(x:X):(aD A).view (d,x)=d::A.view x:=id rfl
@[simp] theorem qhp{X Y:Type}[Cod X](A:fw Y)(d:D)(r:List D):(aE X A).dec (d::r)=(dec d).bind λx=>(A.dec r).map λy=>(x,y):=id rfl
@[simp] theorem qeO{X Y:Type}[Cod X](A:fw Y)(x:X)(y:Y):(aE X A).view (x,y)=enc x::A.view y:=id rfl
def FunIs{X Y:Type}[Cod X][Cod Y](S:Nat->Spc)(d:D)(p:X->Y):Prop:=
 ∃g caps pc,d= .clo g caps/\S g= .pure pc/\∀x:X,pc.pre (enc x::caps)/\∀r,pc.post (enc x::caps) r->r=enc (p x)
def FunIs.use'{X Y:Type}[Cod X][Cod Y]{S:Nat->Spc}{d:D}{p:X->Y}(h:FunIs S d p)(x:X)(d':Nat)(H:aa)(K:D->aa->Prop)(hk:∀y:Y,(∀q,FunIs S d q->y=q x)->K (enc y) H):yM S d d' [enc x] H K:=by
 obtain⟨g,caps,pc,rfl,h1,h2⟩:=h;simp only[yM,h1,Spc.pt];refine⟨(h2 x).1,λr hr=>?_⟩;have e:=(h2 x).2 r hr;rw[e];refine hk (p x) λq hq=>?_
 obtain⟨g',caps',pc',e',k1,k2⟩:=hq;cases e';rw[h1]at k1;cases k1;exact bC (e.symm.trans ((k2 x).2 r hr))
def FunIs.useB{X:Type}[Cod X]{S:Nat->Spc}{d:D}{p:X->Bool}(h:FunIs S d p)(x:X){d':Nat}{H:aa}{K:D->aa->Prop}(hk:∀y:Bool,(∀q,FunIs S d q->y=q x)->K (.v (.bool y)) H):yM S d d' [enc x] H K:=h.use' x d' H K hk
def YE(d:D):Prop:=∀ (tp I tp' I':Nat->Prop) (w w':World) (x:Value),R tp I w x d->R tp' I' w' x d
def RL{ds:List D}(h:∀d∈ds,YE d):YE (.tup ds):=λtp I tp' I' w w' x hr=>by
 cases hr with
 | tup xs _ hl hx=>exact .tup xs ds hl λk x c h1 h2=>h c (qjD h2) _ _ _ _ _ _ _ (hx k x c h1 h2)
section
variable {X Y Z:Type}[Cod Y]
def qg4(A:fw X)(pre:List Y×X->Prop)(er:Z->D)(post:List Y×X->Z->Prop)(el n:Nat):PT:=λd ds H K=>∃id v l ds' x,ds= .own id v::ds'/\A.dec ds'=some x/\H id=some (.row v el n (l.map enc))/\pre (l,x)/\∀z,post (l,x) z->K (er z) H
def Vk(A:fw X)(pre:List Y×X->Prop)(er:Z->D)(post:List Y×X->Z->Prop)(el n:Nat):uo (qg4 A pre er post el n):=λd ds H K K' hk ⟨id,v,l,ds',x,h1,h2,h3,h4,h5⟩=>⟨id,v,l,ds',x,h1,h2,h3,h4,λz hz=>hk _ _ (h5 z hz)⟩
def qg6(A:fw X)(pre:List Y×X->Prop)(er:Z->D)(post:List Y×X->Z->Prop)(el n:Nat):Spc:= .gen _ (Vk A pre er post el n)
def qeB(A:fw X)(pre:List Y×X->Prop)(er:Z->D)(post:List Y×X->Z->Prop)(el n:Nat)(v:Value)(ds:List D)(r:Option Res)(H:aa)(K:D->aa->Prop):Prop:=∃l,r=some (.row v el n (l.map enc))/\ij (A.dec ds) λx=>pre (l,x)/\∀z,post (l,x) z->K (er z) H
@[congr] theorem qg3{A:fw X}{pre:List Y×X->Prop}{er:Z->D}{post:List Y×X->Z->Prop}{el n:Nat}{v:Value}{ds ds':List D}{r r':Option Res}{H:aa}{K:D->aa->Prop}(h1:ds=ds')(h2:r=r'):qeB A pre er post el n v ds r H K=qeB A pre er post el n v ds' r' H K:=by subst h1;subst h2;rfl
@[simp] theorem qg5(A:fw X)(pre:List Y×X->Prop)(er:Z->D)(post:List Y×X->Z->Prop)(el n:Nat)(d i:Nat)(v:Value)(ds:List D)(H:aa)(K:D->aa->Prop):(qg6 A pre er post el n).pt d (.own i v::ds) H K=qeB A pre er post el n v ds (H i) H K:=by
 refine propext ⟨λh=>?_,λh=>?_⟩
 ·obtain⟨id,v,l,ds',x,h1,h2,h3,h4,h5⟩:=h;cases h1;refine⟨l,h3,?_⟩;rw[h2];exact⟨h4,h5⟩
 ·obtain⟨l,h1,h2⟩:=h;cases hd:A.dec ds with
  | none=>rw[hd]at h2;exact h2.elim
  | some x=>rw[hd]at h2;exact⟨i,v,l,ds,x,rfl,hd,h1,h2.1,h2.2⟩
@[simp] theorem qiv(A:fw X)(pre:List Y×X->Prop)(er:Z->D)(post:List Y×X->Z->Prop)(el n:Nat)(v:Value)(ds:List D)(l:List Y)(H:aa)(K:D->aa->Prop):qeB A pre er post el n v ds (some (.row v el n (l.map enc))) H K=ij (A.dec ds) λx=>pre (l,x)/\∀z,post (l,x) z->K (er z) H:=by
 refine propext ⟨λ⟨l',h1,h2⟩=>?_,λh=>⟨l,rfl,h⟩⟩;simp at h1;subst h1;exact h2
theorem Lw{P:Program}{f:Nat}{A:fw X}{pre:List Y×X->Prop}{er:Z->D}{post:List Y×X->Z->Prop}{el n:Nat}(hf:Tri dq P f (aZ (aE (List Y) A) pre er post).pt)(hn:n=Cod.wd Y)(hflat:∀z,YE (er z)):Tri dq P f (qg6 A pre er post el n).pt:=by
 intro O tp w vs ds H d K hO htl hsat hlen hargs hA;obtain⟨id,v,l,ds',x,rfl,hd,hid,hp,hK⟩:=hA;subst hn;cases vs with
 | nil=>simp at hlen
 | cons v0 vs=>
   have hv0:v0=v:=by
    have:=hargs 0 v0 (.own id v) rfl rfl;cases this;rfl
   subst hv0
   let O':Nat->Prop:=λb=>O b\/ ∃i r,i≠id/\H i=some r/\r.blk=some b
   have himm:∀b,aI O tp H w b->aI O' tp cv w b:=λb hb=>⟨hb.1,λh=>h.elim hb.2.1 λ⟨i,r,_,h1,h2⟩=>hb.2.2.2 ⟨i,r,h1,h2⟩,hb.2.2.1,λ⟨i,r,h1,_⟩=>by simp at h1⟩
   have hmv:∀y e,R tp (aI O tp H w) w y e->R tp (aI O' tp cv w) w y e:=λy e hr=>hr.mono (λ_ h=>h) (λb hb=>⟨himm b hb,rfl⟩) (λb _=> .refl _ _)
   have hl:R tp (aI O' tp cv w) w v0 (.list (Cod.wd Y) (l.map enc)):=CN (λb hb=>by
    have h1:=hsat.out id _ b hid hb;refine⟨(hsat.ok id _ hid).lt hb,λh=>h.elim h1.1 λ⟨i,r,hne,h2,h3⟩=>hne (hsat.dis _ _ _ _ b h2 hid h3 hb),h1.2,λ⟨i,r,h2,_⟩=>by simp at h2⟩) ((hsat.ok id _ hid).conv hmv (λ_ _=>rfl))
   have hdec:(aE (List Y) A).dec (.list (Cod.wd Y) (l.map enc)::ds')=some (l,x):=by simp[hd]
   obtain⟨hce,hc⟩:=hf O' tp w (v0::vs) (.list (Cod.wd Y) (l.map enc)::ds') cv d (λr H'=>∃z,r=er z/\post (l,x) z/\H'=cv)
    (λb hb=>hb.elim (hO b) λ⟨i,r,_,h1,h2⟩=>(hsat.ok i r h1).lt h2) (htl.mono λb ⟨i,r,h,_⟩=>by simp at h) ⟨λi j r s b h=>by simp at h,λi r b h=>by simp at h,λi r h=>by simp at h⟩ (by simpa using hlen)
    (λk y e h1 h2=>by
      cases k with
      | zero=>simp at h1 h2;subst h1;subst h2;exact hl
      | succ k=>simp at h1 h2;exact hmv _ _ (hargs (k+1) y e (by simpa using h1) (by simpa using h2)))
    (by rw[kA,hdec];exact⟨hp,λz hz=>⟨z,rfl,hz,rfl⟩⟩)
   refine⟨hce,hc.mono ?_⟩;rintro e w' ⟨q,r,H',tp',rfl,⟨z,rfl,hz,rfl⟩,t1,t2,t3,hs,ho,hsat',hR⟩;have hsame:∀b,b < w.heap.size->¬tp b->w'.heap[b]? =w.heap[b]?:=λb hb ht=>hs.same b hb (λ⟨i,r,h,_⟩=>by simp at h) ht
   have hmove:∀y e,R tp (aI O tp H w) w y e->R tp' (aI O tp' H w') w' y e:=λy e hr=>hr.mono t1 (λb hb=>⟨⟨qjZ hb.1 hs.size,hb.2.1,λh=>by
    rcases t2 b h with h|h
    ·exact hb.2.2.1 h
    ·have:=hb.1;omega,hb.2.2.2⟩,hsame b hb.1 hb.2.2.1⟩) hs.tapes
   refine⟨q,er z,H,tp',rfl,hK z hz,t1,t2,t3,⟨hs.os,hs.tape,hs.output,hs.size,λb hb _ ht=>hsame b hb ht,hs.tapes,hs.drawn⟩,λb h=> .inl h,⟨hsat.dis,λi r b h1 h2=>?_,λi r h1=>?_⟩,hflat z _ _ _ _ _ _ _ hR⟩
   ·have:=hsat.out i r b h1 h2;refine⟨this.1,λh=>?_⟩;rcases t2 b h with h|h
    ·exact this.2 h
    ·have:=(hsat.ok i r h1).lt h2;omega
   ·exact(hsat.ok i r h1).conv hmove λb hb=>hsame b ((hsat.ok i r h1).lt hb) (hsat.out i r b h1 hb).2
end
end Go.Gv
namespace Go.Gv
def RSub(r r':Res):Prop:=r=r'\/ ∃b cs cs',r= .box b cs/\r'= .box b cs'/\cs.length=cs'.length/\∀ (m:Nat) (c c':D),cs[m]? =some c->cs'[m]? =some c'->MC c c'
def RSub.blk{r r':Res}(h:RSub r r'):r'.blk=r.blk:=by
 rcases h with rfl|⟨b,cs,cs',rfl,rfl,_⟩ <;> rfl
def RSub.ok{tp I:Nat->Prop}{w w':World}{r r':Res}(h:RSub r r')(hr:ResOk (R tp I w) w' r):ResOk (R tp I w) w' r':=by
 rcases h with rfl|⟨b,cs,cs',rfl,rfl,hl,hc⟩
 ·exact hr
 ·obtain⟨xs,el,h1,h2,h3⟩:=hr;refine⟨xs,el,h1,h2.trans hl,λk y c hy hc'=>?_⟩;have hk:k < cs.length:=by rw[hl];exact(qjA.1 hc').1
  have h4:=h3 k y cs[k] hy (qjC hk);exact⟨h4.1,Wh (hc k _ _ (qjC hk) hc') h4.2⟩
theorem StW.ren{E:sw}{tp:Nat->Prop}{H H':aa}{w:World}(ρ:Nat->Nat)(h:StW E tp H w)(hρ:∀i j r s,H' i=some r->H' j=some s->ρ i=ρ j->i=j)
 (hs:∀i r,H' i=some r->∃r0,H (ρ i)=some r0/\RSub r0 r):
 StW E tp H' w/\∀x d,R tp (aI E.O tp H w) w x d->R tp (aI E.O tp H' w) w x d:=by
 have hown:∀b,bF H' b->bF H b:=λb ⟨i,r,h1,h2⟩=>by
  obtain⟨r0,h3,h4⟩:=hs i r h1;exact⟨ρ i,r0,h3,h4.blk ▸h2⟩
 have move:∀x d,R tp (aI E.O tp H w) w x d->R tp (aI E.O tp H' w) w x d:=λx d hr=>
  hr.mono (λ_ h=>h) (λb hb=>⟨⟨hb.1,hb.2.1,hb.2.2.1,λho=>hb.2.2.2 (hown b ho)⟩,rfl⟩) (λb _=> .refl _ _)
 refine⟨⟨h.hO,h.tpx,h.tpn,h.tpl,h.step,λb hb=>h.loc b (hown b hb),⟨λi j r s b h1 h2 h3 h4=>?_,λi r b h1 h2=>?_,λi r h1=>?_⟩⟩,move⟩
 ·obtain⟨r0,a1,a2⟩:=hs i r h1;obtain⟨s0,b1,b2⟩:=hs j s h2;exact hρ i j r s h1 h2 (h.sat.dis _ _ r0 s0 b a1 b1 (a2.blk ▸h3) (b2.blk ▸h4))
 ·obtain⟨r0,a1,a2⟩:=hs i r h1;exact h.sat.out _ r0 b a1 (a2.blk ▸h2)
 ·obtain⟨r0,a1,a2⟩:=hs i r h1;exact a2.ok ((h.sat.ok _ r0 a1).conv move (λ_ _=>rfl))
theorem Wp{σ:Sg}{H:aa}(i j k b:Nat)(cs cs':List D)(hij:i≠j)(hk:k≠i/\k≠j)(h10:H k=some (.box b cs))(hl:cs.length=cs'.length)(hc:∀ (m:Nat) (c c':D),cs[m]? =some c->cs'[m]? =some c'->MC c c'):
 Wk σ H σ (aj (aj (aj H i none) j (H i)) k (some (.box b cs'))):=by
 intro E a w hst;obtain⟨hd,hN,tp,hw,hr⟩:=hst;have hm:=hw.ren (H':=aj (aj (aj H i none) j (H i)) k (some (.box b cs'))) (λt=>if t=j then i else t) (λa c r s h1 h2 h3=>?_) (λt r h1=>?_)
 ·exact⟨hd,hN,tp,hm.1,λt=>hm.2 _ _ (hr t)⟩
 ·simp only[aj]at h1 h2;by_cases ea:a=j
  ·by_cases ec:c=j
   ·exact ea.trans ec.symm
   ·simp only[ea,ec,if_true,if_false]at h3;subst h3;simp[hk.1.symm,hij]at h2
  ·by_cases ec:c=j
   ·simp only[ea,ec,if_true,if_false]at h3;subst h3;simp[hk.1.symm,hij]at h1
   ·simpa [ea,ec]using h3
 ·simp only[aj]at h1;by_cases e1:t=k
  ·subst e1;simp only[if_true]at h1;cases h1;simp only[hk.2,if_false];exact⟨_,h10, .inr ⟨b,cs,cs',rfl,rfl,hl,hc⟩⟩
  ·simp only[e1,if_false]at h1;by_cases e2:t=j
   ·simp only[e2,if_true]at h1 ⊢;exact⟨r,h1, .inl rfl⟩
   ·simp only[e2,if_false]at h1 ⊢;by_cases e3:t=i
    ·simp[e3]at h1
    ·simp only[e3,if_false]at h1;exact⟨r,h1, .inl rfl⟩
section
variable {S:Nat->Spc}{σ σ1:Sg}{H H1:aa}{K:Ex->Sg->aa->Prop}
def PQ{k:Nat}{b:CC}(hw:Wk σ H σ1 H1)(h:vc S (.loop k b) K σ1 H1):vc S (.loop k b) K σ H:=by
 rw[HJ]at h ⊢;obtain⟨I,⟨x,h1,h2⟩,h3⟩:=h;exact⟨I,⟨x,h1,λE a w hs=>h2 E a w (hw E a w hs)⟩,h3⟩
def ES{id i n c id2 i2:Nat}{body:CC}(hw:Wk σ H σ1 H1)(h:vc S (kZ id i n c id2 body i2) K σ1 H1):vc S (kZ id i n c id2 body i2) K σ H:=by
 unfold kZ at h ⊢;rw[HK]at h ⊢;exact PQ hw h
end
variable {dq:Prop}
section
variable {X Y:Type}
def qg1(ce:X->List D)(cf:Y->List D)(pre:X->Prop)(post:X->Y->Prop):PT:=λd ds H K=>∃L id b x,ds=[.tape L, .bptr id b 0]/\H id=some (.box b (ce x))/\pre x/\∀y,post x y->K (.tup []) (aj H id (some (.box b (cf y))))
def Vj(ce:X->List D)(cf:Y->List D)(pre:X->Prop)(post:X->Y->Prop):uo (qg1 ce cf pre post):=λd ds H K K' hk ⟨L,id,b,x,h1,h2,h3,h4⟩=>⟨L,id,b,x,h1,h2,h3,λy hy=>hk _ _ (h4 y hy)⟩
def qeA(ce:X->List D)(cf:Y->List D)(pre:X->Prop)(post:X->Y->Prop):Spc:= .gen _ (Vj ce cf pre post)
def qg0(ce:X->List D)(cf:Y->List D)(pre:X->Prop)(post:X->Y->Prop)(id b:Nat)(r:Option Res)(H:aa)(K:D->aa->Prop):Prop:=∃x,r=some (.box b (ce x))/\pre x/\∀y,post x y->K (.tup []) (aj H id (some (.box b (cf y))))
@[congr] theorem qgZ{ce:X->List D}{cf:Y->List D}{pre:X->Prop}{post:X->Y->Prop}{id b:Nat}{r r':Option Res}{H:aa}{K:D->aa->Prop}(h:r=r'):qg0 ce cf pre post id b r H K=qg0 ce cf pre post id b r' H K:=by subst h;rfl
@[simp] theorem qg2(ce:X->List D)(cf:Y->List D)(pre:X->Prop)(post:X->Y->Prop)(d i b:Nat)(L:List Int)(H:aa)(K:D->aa->Prop):(qeA ce cf pre post).pt d [.tape L, .bptr i b 0] H K=qg0 ce cf pre post i b (H i) H K:=by
 refine propext ⟨λh=>?_,λh=>?_⟩
 ·obtain⟨L',id,b',x,h1,h2,h3,h4⟩:=h;cases h1;exact⟨x,h2,h3,h4⟩
 ·obtain⟨x,h1,h2,h3⟩:=h;exact⟨L,i,b,x,rfl,h1,h2,h3⟩
variable {P:Program}{S:Nat->Spc}{f:Nat}{im:List Nat}{cc:CC}{rs:List ai}{N:Nat}
end
def HWk(H H2:aa):Prop:=∀ (E:sw) (tp:Nat->Prop) (w:World),StW E tp H w->StW E tp H2 w/\∀x d,R tp (aI E.O tp H w) w x d->R tp (aI E.O tp H2 w) w x d
def HWk.refl(H:aa):HWk H H:=λ_ _ _ h=>⟨h,λ_ _ h=>h⟩
def Wk.trans{σ σ1 σ2:Sg}{H H1 H2:aa}(h:Wk σ H σ1 H1)(k:Wk σ1 H1 σ2 H2):Wk σ H σ2 H2:=λE a w hs=>k E a w (h E a w hs)
def UU(k:Nat)(ks:List Nat)(H:aa):aa:=λi=>if i=k\/i∈ks then none else H i
def left(k b:Nat)(cs:List D)(ks:List Nat)(H:aa):aa:=λi=>if i=k then some (.box b cs)else if i∈ks then H i else none
theorem UL{H:aa}(k b:Nat)(cs cs':List D)(ks:List Nat)(hk:H k=some (.box b cs))(hl:cs.length=cs'.length)
 (hc:∀ (m:Nat) (c c':D),cs[m]? =some c->cs'[m]? =some c'->FrzTo (UU k ks H) c c'):HWk H (left k b cs' ks H):=by
 intro E tp w h;have hs:∀i r,left k b cs' ks H i=some r->(i=k/\r= .box b cs')\/(i≠k/\i∈ks/\H i=some r):=λi r h1=>by
  simp only[left]at h1;by_cases e:i=k
  ·rw[if_pos e]at h1;cases h1;exact .inl ⟨e,rfl⟩
  ·rw[if_neg e]at h1;by_cases e2:i∈ks
   ·rw[if_pos e2]at h1;exact .inr ⟨e,e2,h1⟩
   ·rw[if_neg e2]at h1;cases h1
 have hblk:∀i r c,left k b cs' ks H i=some r->r.blk=some c->∃r0,H i=some r0/\r0.blk=some c:=λi r c h1 h2=>by
  rcases hs i r h1 with⟨rfl,rfl⟩|⟨_,_,h3⟩
  ·exact⟨_,hk,h2⟩
  ·exact⟨r,h3,h2⟩
 have hown:∀c,bF (left k b cs' ks H) c->bF H c:=λc ⟨i,r,h1,h2⟩=>by
  obtain⟨r0,h3,h4⟩:=hblk i r c h1 h2;exact⟨i,r0,h3,h4⟩
 have himm:∀c,aI E.O tp H w c->aI E.O tp (left k b cs' ks H) w c:=λc hb=>⟨hb.1,hb.2.1,hb.2.2.1,λho=>hb.2.2.2 (hown c ho)⟩
 have move:∀x d,R tp (aI E.O tp H w) w x d->R tp (aI E.O tp (left k b cs' ks H) w) w x d:=λx d hr=>
  hr.mono (λ_ h=>h) (λb hb=>⟨himm b hb,rfl⟩) (λb _=> .refl _ _)
 refine⟨⟨h.hO,h.tpx,h.tpn,h.tpl,h.step,λb hb=>h.loc b (hown b hb),⟨λi j r s c h1 h2 h3 h4=>?_,λi r c h1 h2=>?_,λi r h1=>?_⟩⟩,move⟩
 ·obtain⟨r0,a1,a2⟩:=hblk i r c h1 h3;obtain⟨s0,b1,b2⟩:=hblk j s c h2 h4;exact h.sat.dis i j r0 s0 c a1 b1 a2 b2
 ·obtain⟨r0,a1,a2⟩:=hblk i r c h1 h2;exact h.sat.out i r0 c a1 a2
 ·rcases hs i r h1 with⟨rfl,rfl⟩|⟨_,_,h3⟩
  ·obtain⟨xs,el,h1,h2,h3⟩:=h.sat.ok _ _ hk;refine⟨xs,el,h1,h2.trans hl,λm y c hy hc'=>?_⟩;have hm:m < cs.length:=by rw[hl];exact(qjA.1 hc').1
   have h4:=h3 m y cs[m] hy (qjC hm);refine⟨h4.1,(hc m _ _ (qjC hm) hc').R (H:=cv) (λi r hi=>?_) himm (λi r c hi hb=>?_) h4.2⟩
   ·simp only[UU]at hi;split at hi
    ·cases hi
    ·exact h.sat.ok i r hi
   ·simp only[UU]at hi;split at hi
    ·cases hi
    ·rename_i hn;have ho:=h.sat.out i r c hi hb;refine⟨(h.sat.ok i r hi).lt hb,ho.1,ho.2,λ⟨j,s,k1,k2⟩=>?_⟩;obtain⟨s0,k3,k4⟩:=hblk j s c k1 k2;have e:=h.sat.dis i j r s0 c hi k3 hb k4;subst e;rcases hs i s k1 with⟨e,_⟩|⟨_,e,_⟩
     ·exact hn (.inl e)
     ·exact hn (.inr e)
  ·exact(h.sat.ok i r h3).conv move (λ_ _=>rfl)
section
variable {S:Nat->Spc}{σ:Sg}{H:aa}{K:Ex->Sg->aa->Prop}
def TD{X:Type}(P:X->Prop)(s:X->Sg)(h:X->aa){k:Nat}{a b:CC}
 (ha:vc S a (Ri (λσ' H'=>∃x,P x/\Wk σ' H' (s x) (h x)) K) σ H)
 (hb:∀x,P x->vc S b K (s x) (h x)):vc S (LD k a b) K σ H:=by
 unfold LD;rw[Kp];refine qG a _ _ (λe σ' H' h=>?_) ha;cases e with
 | norm=>
   obtain⟨x,h1,h2⟩:=h;rw[Dy,R9];exact⟨_,_,h2,hb x h1⟩
 | ex i=>exact h
 | ret=>exact h
end
section
variable {P:Program}{im:List Nat}{E:sw}{S:Nat->Spc}
theorem Lu{f:Nat}{fn:Func}{code:Code}{cc:CC}{rs:List ai}{A:PT}(hS:∀f,Tri dq P f (S f).pt)(hmix:P.follows .mixedOrders=true)(hf:P.funcs[f]? =some fn)(hb:fn.body=some code)(hce:fy P f){N:Nat}(hN:fn.ntmps=N)
 (hcc:aw P im N code=some (aY cc)) (hrs:fn.results.toList.mapM (ak P)=some rs)
 (hA:∀ (ds:List D) (H:aa) (d:Nat) (K:D->aa->Prop),A d ds H K->ds.length<=N/\
   ∃ (ds':List D) (H0:aa) (ι:Nat->Nat),LeL ds ds'/\(∀i r,H0 i=some r->H (ι i)=some r)/\(∀i j r s,H0 i=some r->H0 j=some s->ι i=ι j->i=j)/\
    ∃Q:D->aa->Prop,vc S cc (ra rs Q) (cR ds') H0/\∀r H',Q r H'->∃ (r':D) (H2 Hf Hc:aa) (κ:Nat->Option Nat),HWk H' H2/\FrzTo Hf r r'/\(∀j q,Hf j=some q->H2 j=some q/\∀i,κ i≠some j)/\K r' Hc/\
     (∀i s,Hc i=some s->match κ i with|some j=>H2 j=some s|none=>H i=some s/\∀k q,H0 k=some q->ι k≠i)/\
     (∀i j k s q,Hc i=some s->Hc j=some q->κ i=some k->κ j=some k->i=j)):Tri dq P f A:=by
 intro O tp w vs ds H d K hO htl hsat hlen hargs hAK;refine⟨hce,?_⟩;obtain⟨hdN,ds',H0,ι,hle,hsub,hinj,Q,hv,hQ⟩:=hA ds H d K hAK
 let passed:Nat->Prop:=λi=>∃k q,H0 k=some q/\ι k=i
 let rest:Nat->Prop:=λb=>∃i r,H i=some r/\ ¬passed i/\r.blk=some b
 let E:sw:={ O:=λb=>O b\/rest b,tp0:=tp,w0:=w,own0:=bF H0,N:=N,dq:=dq }
 have hownH0:∀b,bF H0 b->bF H b:=λb ⟨i,r,h1,h2⟩=>⟨ι i,r,hsub i r h1,h2⟩
 have hrestlt:∀b,rest b->b < w.heap.size:=λb ⟨i,r,h1,_,h2⟩=>(hsat.ok i r h1).lt h2
 have hrestown:∀b,rest b->¬bF H0 b:=λb ⟨i,r,h1,h2,h3⟩ ⟨j,s,h4,h5⟩=>h2 ⟨j,s,h4,(hsat.dis i (ι j) r s b h1 (hsub j s h4) h3 h5).symm⟩
 have himm:∀b,aI O tp H w b->aI E.O tp H0 w b:=λb hb=>⟨hb.1,λh=>h.elim hb.2.1 (λ⟨i,r,h1,_,h2⟩=>hb.2.2.2 ⟨i,r,h1,h2⟩),hb.2.2.1,λh=>hb.2.2.2 (hownH0 b h)⟩
 have hmove:∀x e,R tp (aI O tp H w) w x e->R tp (aI E.O tp H0 w) w x e:=λx e hr=>hr.mono (λ_ h=>h) (λb hb=>⟨himm b hb,rfl⟩) (λb _=> .refl _ _)
 have hstw:StW E tp H0 w:=by
  refine⟨λb hb=>hb.elim (hO b) (hrestlt b),λb h=>h,λb h=> .inl h,⟨htl.1,htl.2.mono (λ_ h=>h) hownH0⟩, .refl _ _ _,λb hb=> .inl hb,⟨λi j r s b h1 h2 h3 h4=>?_,λi r b h1 h2=>⟨λh=>?_,?_⟩,λi r h1=>?_⟩⟩
  ·exact hinj i j r s h1 h2 (hsat.dis _ _ r s b (hsub i r h1) (hsub j s h2) h3 h4)
  ·rcases h with h|h
   ·exact(hsat.out _ r b (hsub i r h1) h2).1 h
   ·exact hrestown b h ⟨i,r,h1,h2⟩
  ·exact(hsat.out _ r b (hsub i r h1) h2).2
  ·exact(hsat.ok _ r (hsub i r h1)).conv hmove (λ_ _=>rfl)
 have hst:St E (cR ds') H0 { tmps:=vs.toArray++Array.replicate (fn.ntmps -vs.toArray.size) undef,defers:=[] } w:=by
  refine⟨rfl,?_,tp,hstw,λt=>?_⟩
  ·show(vs.toArray++Array.replicate (fn.ntmps -vs.toArray.size) undef).size=N;simp;omega
  ·unfold cR;cases hd:ds'[t]? with
   | none=>exact .any _
   | some e'=>
     have hlt:t < vs.length:=by rw[hlen,hle.1];exact(qjA.1 hd).1
     have hlt':t < ds.length:=by rw[<-hlen];exact hlt
     have hg:(vs.toArray++Array.replicate (fn.ntmps -vs.toArray.size) undef).getD t undef=vs[t]:=by
      rw[qj1,qkv (by simpa using hlt)];simp[hlt]
     simp only[qj7,hg];have he:=qjC hlt';exact(hle.2 t _ e' he hd).R (H:=cv) (λi r h=>by cases h) (λ_ h=>h) (λi r b h=>by cases h) (hmove _ _ (hargs t _ _ (by simp[hlt]) he))
 have hwp:=qh hS hmix cc code (by exact hcc) _ _ _ _ w hst hv;refine calls_of_wp hf hb (qkM ?_ hwp);have rv:∀a' w' σ' H',St E σ' H' a' w'->(rb rs σ' H' λds=>Q (cz ds) H')->
  a'.defers=[]/\∃v,(results fn a'.tmps).run P w'= .ok v w'/\MG dq O tp H w K (.returned v) w':=by
  intro a' w' σ' H' hst' hres;obtain⟨hd',hN',tp',hw',hr'⟩:=hst';obtain⟨v,r0,hrun,hR,hq⟩:=kY (K:=λr=>Q r H') hrs hr' hw'.sat.ok hres;obtain⟨r,H2,Hf,Hc,κ,hW,hfz,hHf,hK,hκ,hκi⟩:=hQ r0 H' hq;obtain⟨hw2,mv2⟩:=hW _ _ _ hw';refine⟨hd',v,hrun,v,r,Hc,tp',rfl,hK,hw2.tpx,hw2.tpn,hw2.tpl.1,?_,?_,?_,?_⟩
  ·-- the step
   have hs:=hw2.step;exact⟨hs.os,hs.tape,hs.output,hs.size,λb hb ho ht=>hs.same b hb (λh=>ho (hownH0 b h)) ht,hs.tapes,hs.drawn⟩
  all_goals
   have hkn:∀i s,Hc i=some s->(∃j,κ i=some j/\H2 j=some s)\/(κ i=none/\H i=some s/\ ¬passed i):=λi s hi=>by
    have:=hκ i s hi;cases hk:κ i with
    | some j=>rw[hk]at this;exact .inl ⟨j,rfl,this⟩
    | none=>rw[hk]at this;exact .inr ⟨rfl,this.1,λ⟨k,q,h1,h2⟩=>this.2 k q h1 h2⟩
  ·intro b ⟨i,s,h1,h2⟩;rcases hkn i s h1 with⟨j,_,h3⟩|⟨_,h3,_⟩
   ·rcases hw2.loc b ⟨j,s,h3,h2⟩with h4|h4
    ·exact .inl (hownH0 b h4)
    ·exact .inr h4
   ·exact .inl ⟨i,s,h3,h2⟩
  all_goals
   have hownc:∀b,bF Hc b->bF H2 b\/rest b:=λb ⟨i,s,h1,h2⟩=>by
    rcases hkn i s h1 with⟨j,_,h3⟩|⟨_,h3,h4⟩
    ·exact .inl ⟨j,s,h3,h2⟩
    ·exact .inr ⟨i,s,h3,h4,h2⟩
   have himmc:∀b,aI E.O tp' H2 w' b->aI O tp' Hc w' b:=λb hb=>⟨hb.1,λh=>hb.2.1 (.inl h),hb.2.2.1,λh=>by
    rcases hownc b h with h|h
    ·exact hb.2.2.2 h
    ·exact hb.2.1 (.inr h)⟩
   have hmovec:∀x e,R tp' (aI E.O tp' H2 w') w' x e->R tp' (aI O tp' Hc w') w' x e:=λx e hr=>hr.mono (λ_ h=>h) (λb hb=>⟨himmc b hb,rfl⟩) (λb _=> .refl _ _)
  ·refine⟨λi j s q b h1 h2 h3 h4=>?_,λi s b h1 h2=>?_,λi s h1=>?_⟩
   ·rcases hkn i s h1 with⟨i',e1,k1⟩|⟨e1,k1,p1⟩
    ·rcases hkn j q h2 with⟨j',e2,k2⟩|⟨e2,k2,p2⟩
     ·have:=hw2.sat.dis i' j' s q b k1 k2 h3 h4;subst this;exact hκi i j i' s q h1 h2 e1 e2
     ·exact absurd (Or.inr ⟨j,q,k2,p2,h4⟩) (hw2.sat.out i' s b k1 h3).1
    ·rcases hkn j q h2 with⟨j',e2,k2⟩|⟨e2,k2,p2⟩
     ·exact absurd (Or.inr ⟨i,s,k1,p1,h3⟩) (hw2.sat.out j' q b k2 h4).1
     ·exact hsat.dis i j s q b k1 k2 h3 h4
   ·rcases hkn i s h1 with⟨i',e1,k1⟩|⟨e1,k1,p1⟩
    ·have:=hw2.sat.out i' s b k1 h2;exact⟨λh=>this.1 (.inl h),this.2⟩
    ·have h3:=hsat.out i s b k1 h2;refine⟨h3.1,λh=>?_⟩;rcases hw2.tpn b h with h4|h4
     ·exact h3.2 h4
     ·have:=(hsat.ok i s k1).lt h2;have h4':w.heap.size<=b:=h4;omega
   ·rcases hkn i s h1 with⟨i',e1,k1⟩|⟨e1,k1,p1⟩
    ·exact(hw2.sat.ok i' s k1).conv hmovec (λ_ _=>rfl)
    ·-- a resource that was not handed in is as it was
     have hs:=hw2.step;have hsame:∀b,b < w.heap.size->¬bF H0 b->¬tp b->w'.heap[b]? =w.heap[b]?:=hs.same;refine(hsat.ok i s k1).conv (λx e hr=>?_) (λb hb=>hsame b ((hsat.ok i s k1).lt hb) (hrestown b ⟨i,s,k1,p1,hb⟩) (hsat.out i s b k1 hb).2);refine hr.mono hw2.tpx (λb hb=>?_) hs.tapes;have h0:¬bF H0 b:=λh=>hb.2.2.2 (hownH0 b h)
     have hsz:w.heap.size<=w'.heap.size:=hs.size;have hbl:b < w.heap.size:=hb.1;refine⟨⟨by omega,hb.2.1,λh=>?_,λh=>?_⟩,hsame b hb.1 h0 hb.2.2.1⟩
     ·rcases hw2.tpn b h with h4|h4
      ·exact hb.2.2.1 h4
      ·have h4':w.heap.size<=b:=h4;omega
     ·rcases hownc b h with h|h
      ·rcases hw2.loc b h with h4|h4
       ·exact h0 h4
       ·have h4':w.heap.size<=b:=h4;omega
      ·obtain⟨j,q,h5,_,h6⟩:=h;exact hb.2.2.2 ⟨j,q,h5,h6⟩
  ·refine hfz.R (H:=cv) (λi q hi=>hw2.sat.ok i q (hHf i q hi).1) himmc (λi q b hi hb=>?_) (mv2 _ _ hR);obtain⟨hi',hne⟩:=hHf i q hi;have ho:=hw2.sat.out i q b hi' hb;refine⟨(hw2.sat.ok i q hi').lt hb,λh=>ho.1 (.inl h),ho.2,λ⟨j,s,h1,h2⟩=>?_⟩;rcases hkn j s h1 with⟨j',e1,k1⟩|⟨e1,k1,p1⟩
   ·have:=hw2.sat.dis i j' q s b hi' k1 hb h2;subst this;exact hne j e1
   ·exact ho.1 (.inr ⟨j,s,k1,p1,h2⟩)
 intro e a' w' hp;cases e with
 | normal=>
   obtain⟨σ',H',hs,hk⟩:=hp;exact rv a' w' σ' H' hs hk
 | ret=>
   obtain⟨σ',H',hs,hk⟩:=hp;exact rv a' w' σ' H' hs hk
 | exit i=>
   obtain⟨σ',H',hs,hk⟩:=hp;exact hk.elim
 | goto l=>exact hp.elim
 | panic c=>exact hp.elim
 | outgrown=>exact hp.elim
end
end Go.Gv
namespace Go.Gv
open Cod (enc dec)
variable {S S0:Nat->Spc}
def C9(x n:Int)(h:1<=n):0<=Ag x n/\Ag x n < n:=by
 unfold Ag;rw[if_neg (by omega)];have h1:=Int.tmod_lt_of_pos x (show 0 < n by omega);have h2: -n < x.tmod n:=by
  have h3:=Int.natAbs_tmod x n;have h4:x.natAbs % n.natAbs < n.natAbs:=qk7 _ (by omega);omega
 split <;> omega
def Y4:CC:= .reg [
 .op (some 4) none (.mv (.const (.int .i64 0)))]
def Xl:CC:= .seq (.regd [
 .op (some 5) none (.mv (.tmp 0)),
 .op (some 6) none (.nilck (.tmp 5)),
 .op (some 7) none (.faddr 1 (.tmp 6)),
 .op (some 8) none (.load false 1 (.tmp 7)),
 .op (some 9) none (.mv (.tmp 0)),
 .op (some 10) none (.nilck (.tmp 9)),
 .op (some 11) none (.faddr 0 (.tmp 10)),
 .op (some 12) none (.load false 1 (.tmp 11)),
 .op (some 13) none (.len (.tmp 12))] [
 .op (some 14) none (.cmp .geq (.tmp 8) (.tmp 13))]) (.ite (.tmp 14) (.seq (.reg [
  .op (some 4) none (.mv (.const (.int .i64 0)))]) .ret) .skip)
def VX:CC:= .reg [
 .op (some 15) none (.mv (.tmp 0)),
 .op (some 16) none (.nilck (.tmp 15)),
 .op (some 17) none (.faddr 1 (.tmp 16)),
 .op (some 18) none (.load false 1 (.tmp 17)),
 .op (some 19) none (.arith .add (.tmp 18) (.const (.int .i64 1))),
 .op (some 20) none (.nilck (.tmp 15)),
 .op (some 21) none (.faddr 1 (.tmp 20)),
 .op none none (.store none 1 (.tmp 21) (.tmp 19))]
def Y3:CC:= .seq (.regd [
 .op (some 22) none (.mv (.tmp 0)),
 .op (some 23) none (.nilck (.tmp 22)),
 .op (some 24) none (.faddr 0 (.tmp 23)),
 .op (some 25) none (.load false 1 (.tmp 24)),
 .op (some 26) none (.mv (.tmp 0)),
 .op (some 27) none (.nilck (.tmp 26)),
 .op (some 28) none (.faddr 1 (.tmp 27)),
 .op (some 29) none (.load false 1 (.tmp 28)),
 .op (some 30) none (.arith .sub (.tmp 29) (.const (.int .i64 1))),
 .op (some 31) none (.iaddr 1 (.tmp 25) (.tmp 30)),
 .op (some 32) none (.load false 1 (.tmp 31)),
 .op (some 33) none (.mv (.tmp 1))] [
 .op (some 34) none (.call ph [(.tmp 32),(.tmp 33)]),
 .op (some 4) none (.mv (.tmp 34))]) .ret
def Ra:aY nY= .seq Y4 (.seq Xl (.seq VX Y3)):=rfl
def qak:aY Y4=Y4:=rfl
def qaj:aY Xl=Xl:=rfl
def qai:aY VX=VX:=rfl
def qah:aY Y3=Y3:=rfl
def VW(b:Nat)(s:Value)(i n:Int):Ex->Sg->aa->Prop:=λe σ H=>match e with
 | .norm=>σ 0= .bptr 0 b 0/\σ 1= .v (.int .i64 n)/\H 0=some (.box b [.v s, .v (.int .i64 (i+1))])/\i < slen s
 | .ret=>σ 4= .v (.int .i64 0)/\H 0=some (.box b [.v s, .v (.int .i64 i)])
 | .ex _=>False
@[simp ↓] theorem qh0(b:Nat)(s:Value)(i n:Int)(σ:Sg)(H:aa):VW b s i n .norm σ H=(σ 0= .bptr 0 b 0/\σ 1= .v (.int .i64 n)/\H 0=some (.box b [.v s, .v (.int .i64 (i+1))])/\i < slen s):=id rfl
@[simp ↓] theorem qhZ(b:Nat)(s:Value)(i n:Int)(σ:Sg)(H:aa):VW b s i n .ret σ H=(σ 4= .v (.int .i64 0)/\H 0=some (.box b [.v s, .v (.int .i64 i)])):=id rfl
def Up(b:Nat)(a:Option Addr)(len cap:Nat)(i n:Int)(h0:0<=i)(hl:(len:Int)<=9223372036854775807):vc S (.seq Y4 (.seq Xl VX)) (VW b (.slice a len cap) i n) (cR [.bptr 0 b 0, .v (.int .i64 n)]) (aj cv 0 (some (.box b [.v (.slice a len cap), .v (.int .i64 i)]))):=by
 simp[Y4,Xl,VX,slen];intro h;exact⟨by simp only[InR];omega,h⟩
def qhY(n:Int):Ex->Sg->aa->Prop:=λe σ H=>match e with
 | .ret=>∃y,σ 4= .v (.int .i64 y)/\(n < 1/\y=0\/1<=n/\0<=y/\y < n)
 | _=>False
@[simp ↓] theorem qhX(n:Int)(σ:Sg)(H:aa):qhY n .ret σ H=(∃y,σ 4= .v (.int .i64 y)/\(n < 1/\y=0\/1<=n/\0<=y/\y < n)):=id rfl
def Uo(hm:S ph=s_m_Mod)(L:List Int)(i n:Int)(h0:0<=i)(hi:i < L.length)(hn:n<=1000000000)(hl:(L.length:Int)<=9223372036854775807):vc S Y3 (qhY n) (cR [.cptr [.list 1 (L.map enc), .v (.int .i64 (i+1))] 0, .v (.int .i64 n)]) cv:=by
 obtain⟨x,hx⟩:=eM (l:=L) (k:=i.toNat) (by omega);simp[Y3,hm];refine⟨by simp only[InR];omega,h0,hi,λa _=>⟨hn,?_⟩⟩;rcases Int.lt_or_le n 1 with h|h
 ·exact .inl ⟨h,by simp[Ag,h]⟩
 ·exact .inr ⟨h,C9 a n h⟩
end Go.Gv
