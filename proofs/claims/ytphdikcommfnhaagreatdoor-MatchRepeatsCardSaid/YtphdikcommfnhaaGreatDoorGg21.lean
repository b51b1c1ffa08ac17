/- A part of the framework and of the walks: T14 T15 T16. -/
import Derived.Test.YtphdikcommfnhaaGreatDoorGg19
set_option linter.unusedSimpArgs false
set_option linter.unusedVariables false
set_option linter.unusedSectionVars false

namespace Go.Gv
open Cod (enc dec)
def qje(s t:Spc):Spc:= .gen (fun d ds H K=>s.pt d ds H K\/t.pt d ds H K) fun d ds H K K' hk h=>h.elim (fun h=> .inl (s.mono d ds H K K' hk h)) (fun h=> .inr (t.mono d ds H K K' hk h))
@[simp] theorem qo4(s t:Spc)(d:Nat)(ds:List D)(H:ab)(K:D->ab->Prop):(qje s t).pt d ds H K=(s.pt d ds H K\/t.pt d ds H K):=id rfl
theorem Q1{P:Program}{f:Nat}{s t:Spc}(h1:Tri P f s.pt)(h2:Tri P f t.pt):Tri P f (qje s t).pt:=fun O tp w vs ds H d K a b c e g h=>h.elim (fun h=>h1 O tp w vs ds H d K a b c e g h) (fun h=>h2 O tp w vs ds H d K a b c e g h)
section
variable {X Y:Type}[Cod Y]
def qp9(A:cM X)(pre:X->Prop)(post:X->List Y->Prop)(el n:Nat):PT:=fun d ds H K=>dx (A.dec ds) fun x=>pre x/\∀v l,post x l->K (.own d v) (ah H d (some (.row v el n (l.map enc))))
def qpQ(A:cM X)(pre:X->List Y->Prop)(post:X->List Y->List Y->Prop)(el n:Nat):PT:=fun d ds H K=>∃id v l ds' x,ds= .own id v::ds'/\A.dec ds'=some x/\H id=some (.row v el n (l.map enc))/\pre x l/\
 ∀v' l',post x l l'->K (.own id v') (ah H id (some (.row v' el n (l'.map enc))))
def qpL(A:cM X)(pre:X->List Y->Prop)(post:X->List Y->List Y->Prop)(el n:Nat):PT:=fun d ds H K=>∃id v l ds' x,ds= .own id v::ds'/\A.dec ds'=some x/\H id=some (.row v el n (l.map enc))/\pre x l/\
 ∀l',post x l l'->K (.tup []) (ah H id (some (.row v el n (l'.map enc))))
theorem Vn{o:Option X}{k k':X->Prop}(h:∀x,k x->k' x)(ho:dx o k):dx o k':=by
 cases o with
 | none=>exact ho
 | some x=>exact h x ho
theorem qdh(A:cM X)(pre:X->Prop)(post:X->List Y->Prop)(el n:Nat):oL (qp9 A pre post el n):=fun d ds H K K' hk h=>Vn (fun x h=>⟨h.1,fun v l hp=>hk _ _ (h.2 v l hp)⟩) h
theorem qcY(A:cM X)(pre:X->List Y->Prop)(post:X->List Y->List Y->Prop)(el n:Nat):oL (qpQ A pre post el n):=fun d ds H K K' hk ⟨id,v,l,ds',x,h1,h2,h3,h4,h5⟩=>⟨id,v,l,ds',x,h1,h2,h3,h4,fun v' l' hp=>hk _ _ (h5 v' l' hp)⟩
theorem qcT(A:cM X)(pre:X->List Y->Prop)(post:X->List Y->List Y->Prop)(el n:Nat):oL (qpL A pre post el n):=fun d ds H K K' hk ⟨id,v,l,ds',x,h1,h2,h3,h4,h5⟩=>⟨id,v,l,ds',x,h1,h2,h3,h4,fun l' hp=>hk _ _ (h5 l' hp)⟩
def qjY(A:cM X)(pre:X->Prop)(post:X->List Y->Prop)(el n:Nat):Spc:= .gen _ (qdh A pre post el n)
def qpS(A:cM X)(pre:X->List Y->Prop)(post:X->List Y->List Y->Prop)(el n:Nat):Spc:= .gen _ (qcY A pre post el n)
def qsi(A:cM X)(pre:X->List Y->Prop)(post:X->List Y->List Y->Prop)(el n:Nat):Spc:= .gen _ (qcT A pre post el n)
@[simp] theorem ZI(A:cM X)(pre:X->Prop)(post:X->List Y->Prop)(el n:Nat)(d:Nat)(ds:List D)(H:ab)(K:D->ab->Prop):(qjY A pre post el n).pt d ds H K=dx (A.dec ds) fun x=>pre x/\∀v l,post x l->K (.own d v) (ah H d (some (.row v el n (l.map enc)))):=id rfl
def qmH(A:cM X)(pre:X->List Y->Prop)(post:X->List Y->List Y->Prop)(el n id:Nat)(v:Value)(ds:List D)(r:Option Res)(H:ab)(K:D->ab->Prop):Prop:=∃l,r=some (.row v el n (l.map enc))/\dx (A.dec ds) fun x=>pre x l/\∀v' l',post x l l'->K (.own id v') (ah H id (some (.row v' el n (l'.map enc))))
def qmF(A:cM X)(pre:X->List Y->Prop)(post:X->List Y->List Y->Prop)(el n id:Nat)(v:Value)(ds:List D)(r:Option Res)(H:ab)(K:D->ab->Prop):Prop:=∃l,r=some (.row v el n (l.map enc))/\dx (A.dec ds) fun x=>pre x l/\∀l',post x l l'->K (.tup []) (ah H id (some (.row v el n (l'.map enc))))
@[congr] theorem qpP{A:cM X}{pre:X->List Y->Prop}{post:X->List Y->List Y->Prop}{el n id:Nat}{v:Value}{ds ds':List D}{r r':Option Res}{H:ab}{K:D->ab->Prop}(h1:ds=ds')(h2:r=r'):qmH A pre post el n id v ds r H K=qmH A pre post el n id v ds' r' H K:=by subst h1;subst h2;rfl
@[congr] theorem qpK{A:cM X}{pre:X->List Y->Prop}{post:X->List Y->List Y->Prop}{el n id:Nat}{v:Value}{ds ds':List D}{r r':Option Res}{H:ab}{K:D->ab->Prop}(h1:ds=ds')(h2:r=r'):qmF A pre post el n id v ds r H K=qmF A pre post el n id v ds' r' H K:=by subst h1;subst h2;rfl
@[simp] theorem qpR(A:cM X)(pre:X->List Y->Prop)(post:X->List Y->List Y->Prop)(el n:Nat)(d i:Nat)(v:Value)(ds:List D)(H:ab)(K:D->ab->Prop):(qpS A pre post el n).pt d (.own i v::ds) H K=qmH A pre post el n i v ds (H i) H K:=by
 refine propext ⟨fun h=>?_,fun h=>?_⟩
 ·obtain⟨id,v,l,ds',x,h1,h2,h3,h4,h5⟩:=h
  cases h1
  refine⟨l,h3,?_⟩
  rw[h2]
  exact⟨h4,h5⟩
 ·obtain⟨l,h1,h2⟩:=h
  cases hd:A.dec ds with
  | none=>rw[hd]at h2;exact h2.elim
  | some x=>rw[hd]at h2;exact⟨i,v,l,ds,x,rfl,hd,h1,h2.1,h2.2⟩
@[simp] theorem qpM(A:cM X)(pre:X->List Y->Prop)(post:X->List Y->List Y->Prop)(el n:Nat)(d i:Nat)(v:Value)(ds:List D)(H:ab)(K:D->ab->Prop):(qsi A pre post el n).pt d (.own i v::ds) H K=qmF A pre post el n i v ds (H i) H K:=by
 refine propext ⟨fun h=>?_,fun h=>?_⟩
 ·obtain⟨id,v,l,ds',x,h1,h2,h3,h4,h5⟩:=h
  cases h1
  refine⟨l,h3,?_⟩
  rw[h2]
  exact⟨h4,h5⟩
 ·obtain⟨l,h1,h2⟩:=h
  cases hd:A.dec ds with
  | none=>rw[hd]at h2;exact h2.elim
  | some x=>rw[hd]at h2;exact⟨i,v,l,ds,x,rfl,hd,h1,h2.1,h2.2⟩
@[simp] theorem qsj(A:cM X)(pre:X->List Y->Prop)(post:X->List Y->List Y->Prop)(el n id:Nat)(v:Value)(ds:List D)(l:List Y)(H:ab)(K:D->ab->Prop):qmH A pre post el n id v ds (some (.row v el n (l.map enc))) H K=dx (A.dec ds) fun x=>pre x l/\∀v' l',post x l l'->K (.own id v') (ah H id (some (.row v' el n (l'.map enc)))):=by
 refine propext ⟨fun⟨l',h1,h2⟩=>?_,fun h=>⟨l,rfl,h⟩⟩
 simp at h1
 subst h1
 exact h2
@[simp] theorem qsh(A:cM X)(pre:X->List Y->Prop)(post:X->List Y->List Y->Prop)(el n id:Nat)(v:Value)(ds:List D)(l:List Y)(H:ab)(K:D->ab->Prop):qmF A pre post el n id v ds (some (.row v el n (l.map enc))) H K=dx (A.dec ds) fun x=>pre x l/\∀l',post x l l'->K (.tup []) (ah H id (some (.row v el n (l'.map enc)))):=by
 refine propext ⟨fun⟨l',h1,h2⟩=>?_,fun h=>⟨l,rfl,h⟩⟩
 simp at h1
 subst h1
 exact h2
def qd0(el n:Nat)(q:List Y->Prop)(r:D)(H':ab):Prop:=∃j v l,r= .own j v/\H' j=some (.row v el n (l.map enc))/\q l
theorem te{el n:Nat}{q:List Y->Prop}{j:Nat}{v:Value}{H':ab}(l:List Y)(h:H' j=some (.row v el n (l.map enc)))(hq:q l):qd0 el n q (.own j v) H':=⟨j,v,l,rfl,h,hq⟩
def Up(cc:CC)(rs:List aj)(S:Nat->Spc)(A:cM X)(pre:X->Prop)(post:X->List Y->Prop)(el n:Nat):Prop:=
 ∀x,pre x->vc S cc (rG rs fun r H'=>qd0 el n (post x) r H') (cR (A.view x)) bB
def qaV(cc:CC)(rs:List aj)(S:Nat->Spc)(A:cM X)(pre:X->List Y->Prop)(post:X->List Y->List Y->Prop)(el n:Nat):Prop:=
 ∀v l x,pre x l->vc S cc (rG rs fun r H'=>qd0 el n (post x l) r H') (cR (.own 0 v::A.view x)) (ah bB 0 (some (.row v el n (l.map enc))))
variable {P:Program}{S:Nat->Spc}{f:Nat}{im:List Nat}{cc:CC}{rs:List aj}{N:Nat}{A:cM X}{el n:Nat}
theorem DN{pre:X->Prop}{post:X->List Y->Prop}(hS:∀f,Tri P f (S f).pt)(h:am P f im cc rs N)(hN:∀x,(A.view x).length<=N)(hw:Up cc rs S A pre post el n):Tri P f (qjY A pre post el n).pt:=by
 obtain⟨tS,enter,fn,code,h1,h2,h3,h4,h5⟩:=h
 refine lB hS tS h1 h2 enter h3 h4 h5 ?_
 intro ds H d K hA
 rw[ZI]at hA
 cases hd:A.dec ds with
 | none=>rw[hd]at hA;exact hA.elim
 | some x=>
   rw[hd]at hA
   obtain⟨hp,hK⟩:=hA
   have hl:=A.le ds x hd
   refine⟨by rw[hl.1];exact hN x,A.view x,bB,id,hl,fun i r h=>by simp at h,fun i j r s h=>by simp at h,_,hw x hp,?_⟩
   rintro r H' ⟨j,v,l,rfl,hj,hpost⟩
   refine⟨.own d v,bB,ah H d (some (.row v el n (l.map enc))),fun i=>if i=d then some j else none, .own _ _ _,fun j q h=>by simp at h,hK v l hpost,fun i s hi=>?_,fun i j' k s q hi hj' e1 e2=>?_⟩
   ·by_cases e:i=d
    ·subst e
     simp only[ah,if_true]at hi
     cases hi
     simpa using hj
    ·simp only[ah,e,if_false]at hi ⊢
     exact⟨hi,fun k q h=>by simp at h⟩
   ·have a:i=d:=by
     by_cases e:i=d
     ·exact e
     ·simp[e]at e1
    have b:j'=d:=by
     by_cases e:j'=d
     ·exact e
     ·simp[e]at e2
    exact a.trans b.symm
theorem QZ{pre:X->List Y->Prop}{post:X->List Y->List Y->Prop}(hS:∀f,Tri P f (S f).pt)(h:am P f im cc rs N)(hN:∀x,(A.view x).length+1<=N)(hw:qaV cc rs S A pre post el n):Tri P f (qpS A pre post el n).pt:=by
 obtain⟨tS,enter,fn,code,h1,h2,h3,h4,h5⟩:=h
 refine lB hS tS h1 h2 enter h3 h4 h5 ?_
 rintro ds H d K ⟨id,v,l,ds',x,rfl,hd,hid,hp,hK⟩
 have hl:=A.le ds' x hd
 refine⟨by simp only[quy];rw[hl.1];exact hN x, .own 0 v::A.view x,ah bB 0 (some (.row v el n (l.map enc))),fun _=>id, .cons (.own _ _ _) hl,fun i r h=>?_,fun i j r s h h' _=>?_,_,hw v l x hp,?_⟩
 ·by_cases e:i=0
  ·subst e
   simp only[ah,if_true]at h
   cases h
   exact hid
  ·simp[ah,e]at h
 ·have a:i=0:=by
   by_cases e:i=0
   ·exact e
   ·simp[ah,e]at h
  have b:j=0:=by
   by_cases e:j=0
   ·exact e
   ·simp[ah,e]at h'
  exact a.trans b.symm
 ·rintro r H' ⟨j,v',l',rfl,hj,hpost⟩
  refine⟨.own id v',bB,ah H id (some (.row v' el n (l'.map enc))),fun i=>if i=id then some j else none, .own _ _ _,fun j q h=>by simp at h,hK v' l' hpost,fun i s hi=>?_,fun i j' k s q hi hj' e1 e2=>?_⟩
  ·by_cases e:i=id
   ·subst e
    simp only[ah,if_true]at hi
    cases hi
    simpa using hj
   ·simp only[ah,e,if_false]at hi ⊢
    exact⟨hi,fun k q h he=>e he.symm⟩
  ·have a:i=id:=by
    by_cases e:i=id
    ·exact e
    ·simp[e]at e1
   have b:j'=id:=by
    by_cases e:j'=id
    ·exact e
    ·simp[e]at e2
   exact a.trans b.symm
end
def aD{X:Type}(A:cM X):cM (D×X):=⟨fun ds=>match ds with|d::r=>(A.dec r).map fun x=>(d,x)|_=>none,fun x=>x.1::A.view x.2,fun ds x h=>by
 split at h
 ·simp only[qtR]at h
  obtain⟨y,hy,rfl⟩:=h
  exact .cons (.same _) (A.le _ _ hy)
 ·cases h⟩
def aE(X:Type)[Cod X]{Y:Type}(A:cM Y):cM (X×Y):=⟨fun ds=>match ds with|d::r=>(dec d).bind fun x=>(A.dec r).map fun y=>(x,y)|_=>none,fun x=>enc x.1::A.view x.2,fun ds x h=>by
 split at h
 ·simp only[qtE,qtR]at h
  obtain⟨x,hx,y,hy,rfl⟩:=h
  exact .cons (Cod.le _ _ hx) (A.le _ _ hy)
 ·cases h⟩
@[simp] theorem qha{X:Type}(A:cM X)(d:D)(r:List D):(aD A).dec (d::r)=(A.dec r).map fun x=>(d,x):=id rfl
@[simp] theorem qn7{X:Type}(A:cM X)(d:D)(x:X):(aD A).view (d,x)=d::A.view x:=id rfl
@[simp] theorem qrn{X Y:Type}[Cod X](A:cM Y)(d:D)(r:List D):(aE X A).dec (d::r)=(dec d).bind fun x=>(A.dec r).map fun y=>(x,y):=id rfl
@[simp] theorem qn6{X Y:Type}[Cod X](A:cM Y)(x:X)(y:Y):(aE X A).view (x,y)=enc x::A.view y:=id rfl
def FunIs{X Y:Type}[Cod X][Cod Y](S:Nat->Spc)(d:D)(p:X->Y):Prop:=
 ∃g caps pc,d= .clo g caps/\S g= .pure pc/\∀x:X,pc.pre (enc x::caps)/\∀r,pc.post (enc x::caps) r->r=enc (p x)
theorem FunIs.use'{X Y:Type}[Cod X][Cod Y]{S:Nat->Spc}{d:D}{p:X->Y}(h:FunIs S d p)(x:X)(d':Nat)(H:ab)(K:D->ab->Prop)(hk:∀y:Y,(∀q,FunIs S d q->y=q x)->K (enc y) H):zn S d d' [enc x] H K:=by
 obtain⟨g,caps,pc,rfl,h1,h2⟩:=h
 simp only[zn,h1,Spc.pt]
 refine⟨(h2 x).1,fun r hr=>?_⟩
 have e:=(h2 x).2 r hr
 rw[e]
 refine hk (p x) fun q hq=>?_
 obtain⟨g',caps',pc',e',k1,k2⟩:=hq
 cases e'
 rw[h1]at k1
 cases k1
 exact aL (e.symm.trans ((k2 x).2 r hr))
theorem FunIs.useB{X:Type}[Cod X]{S:Nat->Spc}{d:D}{p:X->Bool}(h:FunIs S d p)(x:X){d':Nat}{H:ab}{K:D->ab->Prop}(hk:∀y:Bool,(∀q,FunIs S d q->y=q x)->K (.v (.bool y)) H):zn S d d' [enc x] H K:=h.use' x d' H K hk
def QE(d:D):Prop:=∀ (tp I tp' I':Nat->Prop) (w w':World) (x:Value),R tp I w x d->R tp' I' w' x d
theorem If(v:Value):QE (.v v):=fun tp I tp' I' w w' x h=>by
 cases h with
 | v _ h1 h2=>exact .v _ h1 h2
theorem Pn{ds:List D}(h:∀d∈ds,QE d):QE (.tup ds):=fun tp I tp' I' w w' x hr=>by
 cases hr with
 | tup xs _ hl hx=>exact .tup xs ds hl fun k x c h1 h2=>h c (qtJ h2) _ _ _ _ _ _ _ (hx k x c h1 h2)
section
variable {X Y Z:Type}[Cod Y]
def qq1(A:cM X)(pre:List Y×X->Prop)(er:Z->D)(post:List Y×X->Z->Prop)(el n:Nat):PT:=fun d ds H K=>∃id v l ds' x,ds= .own id v::ds'/\A.dec ds'=some x/\H id=some (.row v el n (l.map enc))/\pre (l,x)/\∀z,post (l,x) z->K (er z) H
theorem qdF(A:cM X)(pre:List Y×X->Prop)(er:Z->D)(post:List Y×X->Z->Prop)(el n:Nat):oL (qq1 A pre er post el n):=fun d ds H K K' hk ⟨id,v,l,ds',x,h1,h2,h3,h4,h5⟩=>⟨id,v,l,ds',x,h1,h2,h3,h4,fun z hz=>hk _ _ (h5 z hz)⟩
def qnP(A:cM X)(pre:List Y×X->Prop)(er:Z->D)(post:List Y×X->Z->Prop)(el n:Nat):Spc:= .gen _ (qdF A pre er post el n)
def qnO(A:cM X)(pre:List Y×X->Prop)(er:Z->D)(post:List Y×X->Z->Prop)(el n:Nat)(v:Value)(ds:List D)(r:Option Res)(H:ab)(K:D->ab->Prop):Prop:=∃l,r=some (.row v el n (l.map enc))/\dx (A.dec ds) fun x=>pre (l,x)/\∀z,post (l,x) z->K (er z) H
@[congr] theorem qq0{A:cM X}{pre:List Y×X->Prop}{er:Z->D}{post:List Y×X->Z->Prop}{el n:Nat}{v:Value}{ds ds':List D}{r r':Option Res}{H:ab}{K:D->ab->Prop}(h1:ds=ds')(h2:r=r'):qnO A pre er post el n v ds r H K=qnO A pre er post el n v ds' r' H K:=by subst h1;subst h2;rfl
@[simp] theorem qq2(A:cM X)(pre:List Y×X->Prop)(er:Z->D)(post:List Y×X->Z->Prop)(el n:Nat)(d i:Nat)(v:Value)(ds:List D)(H:ab)(K:D->ab->Prop):(qnP A pre er post el n).pt d (.own i v::ds) H K=qnO A pre er post el n v ds (H i) H K:=by
 refine propext ⟨fun h=>?_,fun h=>?_⟩
 ·obtain⟨id,v,l,ds',x,h1,h2,h3,h4,h5⟩:=h
  cases h1
  refine⟨l,h3,?_⟩
  rw[h2]
  exact⟨h4,h5⟩
 ·obtain⟨l,h1,h2⟩:=h
  cases hd:A.dec ds with
  | none=>rw[hd]at h2;exact h2.elim
  | some x=>rw[hd]at h2;exact⟨i,v,l,ds,x,rfl,hd,h1,h2.1,h2.2⟩
@[simp] theorem qsM(A:cM X)(pre:List Y×X->Prop)(er:Z->D)(post:List Y×X->Z->Prop)(el n:Nat)(v:Value)(ds:List D)(l:List Y)(H:ab)(K:D->ab->Prop):qnO A pre er post el n v ds (some (.row v el n (l.map enc))) H K=dx (A.dec ds) fun x=>pre (l,x)/\∀z,post (l,x) z->K (er z) H:=by
 refine propext ⟨fun⟨l',h1,h2⟩=>?_,fun h=>⟨l,rfl,h⟩⟩
 simp at h1
 subst h1
 exact h2
theorem GN{P:Program}{f:Nat}{A:cM X}{pre:List Y×X->Prop}{er:Z->D}{post:List Y×X->Z->Prop}{el n:Nat}(hf:Tri P f (aS (aE (List Y) A) pre er post).pt)(hn:n=Cod.wd Y)(hflat:∀z,QE (er z)):Tri P f (qnP A pre er post el n).pt:=by
 intro O tp w vs ds H d K hO htl hsat hlen hargs hA
 obtain⟨id,v,l,ds',x,rfl,hd,hid,hp,hK⟩:=hA
 subst hn
 cases vs with
 | nil=>simp at hlen
 | cons v0 vs=>
   have hv0:v0=v:=by
    have:=hargs 0 v0 (.own id v) rfl rfl
    cases this;rfl
   subst hv0
   let O':Nat->Prop:=fun b=>O b\/ ∃i r,i≠id/\H i=some r/\r.blk=some b
   have himm:∀b,aM O tp H w b->aM O' tp bB w b:=fun b hb=>⟨hb.1,fun h=>h.elim hb.2.1 fun⟨i,r,_,h1,h2⟩=>hb.2.2.2 ⟨i,r,h1,h2⟩,hb.2.2.1,fun⟨i,r,h1,_⟩=>by simp at h1⟩
   have hmv:∀y e,R tp (aM O tp H w) w y e->R tp (aM O' tp bB w) w y e:=fun y e hr=>hr.mono (fun _ h=>h) (fun b hb=>⟨himm b hb,rfl⟩) (fun b _=> .refl _ _)
   have hl:R tp (aM O' tp bB w) w v0 (.list (Cod.wd Y) (l.map enc)):=Hl (fun b hb=>by
    have h1:=hsat.out id _ b hid hb
    refine⟨(hsat.ok id _ hid).lt hb,fun h=>h.elim h1.1 fun⟨i,r,hne,h2,h3⟩=>hne (hsat.dis _ _ _ _ b h2 hid h3 hb),h1.2,fun⟨i,r,h2,_⟩=>by simp at h2⟩) ((hsat.ok id _ hid).conv hmv (fun _ _=>rfl))
   have hdec:(aE (List Y) A).dec (.list (Cod.wd Y) (l.map enc)::ds')=some (l,x):=by simp[hd]
   obtain⟨hce,hc⟩:=hf O' tp w (v0::vs) (.list (Cod.wd Y) (l.map enc)::ds') bB d (fun r H'=>∃z,r=er z/\post (l,x) z/\H'=bB)
    (fun b hb=>hb.elim (hO b) fun⟨i,r,_,h1,h2⟩=>(hsat.ok i r h1).lt h2) (htl.mono fun b ⟨i,r,h,_⟩=>by simp at h) ⟨fun i j r s b h=>by simp at h,fun i r b h=>by simp at h,fun i r h=>by simp at h⟩ (by simpa using hlen)
    (fun k y e h1 h2=>by
      cases k with
      | zero=>simp at h1 h2;subst h1;subst h2;exact hl
      | succ k=>simp at h1 h2;exact hmv _ _ (hargs (k+1) y e (by simpa using h1) (by simpa using h2)))
    (by rw[ra,hdec];exact⟨hp,fun z hz=>⟨z,rfl,hz,rfl⟩⟩)
   refine⟨hce,hc.mono ?_⟩
   rintro e w' ⟨q,r,H',tp',rfl,⟨z,rfl,hz,rfl⟩,t1,t2,t3,hs,ho,hsat',hR⟩
   have hsame:∀b,b < w.heap.size->¬tp b->w'.heap[b]? =w.heap[b]?:=fun b hb ht=>hs.same b hb (fun⟨i,r,h,_⟩=>by simp at h) ht
   have hmove:∀y e,R tp (aM O tp H w) w y e->R tp' (aM O tp' H w') w' y e:=fun y e hr=>hr.mono t1 (fun b hb=>⟨⟨qt1 hb.1 hs.size,hb.2.1,fun h=>by
    rcases t2 b h with h|h
    ·exact hb.2.2.1 h
    ·have:=hb.1;omega,hb.2.2.2⟩,hsame b hb.1 hb.2.2.1⟩) hs.tapes
   refine⟨q,er z,H,tp',rfl,hK z hz,t1,t2,t3,⟨hs.os,hs.tape,hs.output,hs.size,fun b hb _ ht=>hsame b hb ht,hs.tapes,hs.drawn⟩,fun b h=> .inl h,⟨hsat.dis,fun i r b h1 h2=>?_,fun i r h1=>?_⟩,hflat z _ _ _ _ _ _ _ hR⟩
   ·have:=hsat.out i r b h1 h2
    refine⟨this.1,fun h=>?_⟩
    rcases t2 b h with h|h
    ·exact this.2 h
    ·have:=(hsat.ok i r h1).lt h2;omega
   ·exact(hsat.ok i r h1).conv hmove fun b hb=>hsame b ((hsat.ok i r h1).lt hb) (hsat.out i r b h1 hb).2
end
end Go.Gv

namespace Go.Gv
def RSub(r r':Res):Prop:=r=r'\/ ∃b cs cs',r= .box b cs/\r'= .box b cs'/\cs.length=cs'.length/\∀ (m:Nat) (c c':D),cs[m]? =some c->cs'[m]? =some c'->Qs c c'
theorem RSub.blk{r r':Res}(h:RSub r r'):r'.blk=r.blk:=by
 rcases h with rfl|⟨b,cs,cs',rfl,rfl,_⟩ <;> rfl
theorem RSub.ok{tp I:Nat->Prop}{w w':World}{r r':Res}(h:RSub r r')(hr:ResOk (R tp I w) w' r):ResOk (R tp I w) w' r':=by
 rcases h with rfl|⟨b,cs,cs',rfl,rfl,hl,hc⟩
 ·exact hr
 ·obtain⟨xs,el,h1,h2,h3⟩:=hr
  refine⟨xs,el,h1,h2.trans hl,fun k y c hy hc'=>?_⟩
  have hk:k < cs.length:=by rw[hl];exact(qtG.1 hc').1
  have h4:=h3 k y cs[k] hy (qtH hk)
  exact⟨h4.1,qeH (hc k _ _ (qtH hk) hc') h4.2⟩
theorem StW.ren{E:xn}{tp:Nat->Prop}{H H':ab}{w:World}(ρ:Nat->Nat)(h:StW E tp H w)(hρ:∀i j r s,H' i=some r->H' j=some s->ρ i=ρ j->i=j)
 (hs:∀i r,H' i=some r->∃r0,H (ρ i)=some r0/\RSub r0 r):
 StW E tp H' w/\∀x d,R tp (aM E.O tp H w) w x d->R tp (aM E.O tp H' w) w x d:=by
 have hown:∀b,bA H' b->bA H b:=fun b ⟨i,r,h1,h2⟩=>by
  obtain⟨r0,h3,h4⟩:=hs i r h1
  exact⟨ρ i,r0,h3,h4.blk ▸h2⟩
 have move:∀x d,R tp (aM E.O tp H w) w x d->R tp (aM E.O tp H' w) w x d:=fun x d hr=>
  hr.mono (fun _ h=>h) (fun b hb=>⟨⟨hb.1,hb.2.1,hb.2.2.1,fun ho=>hb.2.2.2 (hown b ho)⟩,rfl⟩) (fun b _=> .refl _ _)
 refine⟨⟨h.hO,h.tpx,h.tpn,h.tpl,h.step,fun b hb=>h.loc b (hown b hb),⟨fun i j r s b h1 h2 h3 h4=>?_,fun i r b h1 h2=>?_,fun i r h1=>?_⟩⟩,move⟩
 ·obtain⟨r0,a1,a2⟩:=hs i r h1
  obtain⟨s0,b1,b2⟩:=hs j s h2
  exact hρ i j r s h1 h2 (h.sat.dis _ _ r0 s0 b a1 b1 (a2.blk ▸h3) (b2.blk ▸h4))
 ·obtain⟨r0,a1,a2⟩:=hs i r h1
  exact h.sat.out _ r0 b a1 (a2.blk ▸h2)
 ·obtain⟨r0,a1,a2⟩:=hs i r h1
  exact a2.ok ((h.sat.ok _ r0 a1).conv move (fun _ _=>rfl))
theorem qeW{σ:Sg}{H:ab}(i j k b:Nat)(cs cs':List D)(hij:i≠j)(hk:k≠i/\k≠j)(h10:H k=some (.box b cs))(hl:cs.length=cs'.length)(hc:∀ (m:Nat) (c c':D),cs[m]? =some c->cs'[m]? =some c'->Qs c c'):
 Wk σ H σ (ah (ah (ah H i none) j (H i)) k (some (.box b cs'))):=by
 intro E a w hst
 obtain⟨hd,hN,tp,hw,hr⟩:=hst
 have hm:=hw.ren (H':=ah (ah (ah H i none) j (H i)) k (some (.box b cs'))) (fun t=>if t=j then i else t) (fun a c r s h1 h2 h3=>?_) (fun t r h1=>?_)
 ·exact⟨hd,hN,tp,hm.1,fun t=>hm.2 _ _ (hr t)⟩
 ·simp only[ah]at h1 h2
  by_cases ea:a=j
  ·by_cases ec:c=j
   ·exact ea.trans ec.symm
   ·simp only[ea,ec,if_true,if_false]at h3
    subst h3
    simp[hk.1.symm,hij]at h2
  ·by_cases ec:c=j
   ·simp only[ea,ec,if_true,if_false]at h3
    subst h3
    simp[hk.1.symm,hij]at h1
   ·simpa [ea,ec]using h3
 ·simp only[ah]at h1
  by_cases e1:t=k
  ·subst e1
   simp only[if_true]at h1
   cases h1
   simp only[hk.2,if_false]
   exact⟨_,h10, .inr ⟨b,cs,cs',rfl,rfl,hl,hc⟩⟩
  ·simp only[e1,if_false]at h1
   by_cases e2:t=j
   ·simp only[e2,if_true]at h1 ⊢
    exact⟨r,h1, .inl rfl⟩
   ·simp only[e2,if_false]at h1 ⊢
    by_cases e3:t=i
    ·simp[e3]at h1
    ·simp only[e3,if_false]at h1
     exact⟨r,h1, .inl rfl⟩
section
variable {S:Nat->Spc}{σ σ1:Sg}{H H1:ab}{K:Ex->Sg->ab->Prop}
theorem Xi{k:Nat}{b:CC}(hw:Wk σ H σ1 H1)(h:vc S (.loop k b) K σ1 H1):vc S (.loop k b) K σ H:=by
 rw[M2]at h ⊢
 obtain⟨I,⟨x,h1,h2⟩,h3⟩:=h
 exact⟨I,⟨x,h1,fun E a w hs=>h2 E a w (hw E a w hs)⟩,h3⟩
theorem DI{id i n c id2 i2:Nat}{body:CC}(hw:Wk σ H σ1 H1)(h:vc S (vM id i n c id2 body i2) K σ1 H1):vc S (vM id i n c id2 body i2) K σ H:=by
 unfold vM at h ⊢
 rw[M3]at h ⊢
 exact Xi hw h
end
end Go.Gv

namespace Go.Gv
section
variable {X Y:Type}
def qqY(ce:X->List D)(cf:Y->List D)(pre:X->Prop)(post:X->Y->Prop):PT:=fun d ds H K=>∃L id b x,ds=[.tape L, .bptr id b 0]/\H id=some (.box b (ce x))/\pre x/\∀y,post x y->K (.tup []) (ah H id (some (.box b (cf y))))
theorem qdE(ce:X->List D)(cf:Y->List D)(pre:X->Prop)(post:X->Y->Prop):oL (qqY ce cf pre post):=fun d ds H K K' hk ⟨L,id,b,x,h1,h2,h3,h4⟩=>⟨L,id,b,x,h1,h2,h3,fun y hy=>hk _ _ (h4 y hy)⟩
def qnN(ce:X->List D)(cf:Y->List D)(pre:X->Prop)(post:X->Y->Prop):Spc:= .gen _ (qdE ce cf pre post)
def qqX(ce:X->List D)(cf:Y->List D)(pre:X->Prop)(post:X->Y->Prop)(id b:Nat)(r:Option Res)(H:ab)(K:D->ab->Prop):Prop:=∃x,r=some (.box b (ce x))/\pre x/\∀y,post x y->K (.tup []) (ah H id (some (.box b (cf y))))
@[congr] theorem qqW{ce:X->List D}{cf:Y->List D}{pre:X->Prop}{post:X->Y->Prop}{id b:Nat}{r r':Option Res}{H:ab}{K:D->ab->Prop}(h:r=r'):qqX ce cf pre post id b r H K=qqX ce cf pre post id b r' H K:=by subst h;rfl
@[simp] theorem qqZ(ce:X->List D)(cf:Y->List D)(pre:X->Prop)(post:X->Y->Prop)(d i b:Nat)(L:List Int)(H:ab)(K:D->ab->Prop):(qnN ce cf pre post).pt d [.tape L, .bptr i b 0] H K=qqX ce cf pre post i b (H i) H K:=by
 refine propext ⟨fun h=>?_,fun h=>?_⟩
 ·obtain⟨L',id,b',x,h1,h2,h3,h4⟩:=h
  cases h1
  exact⟨x,h2,h3,h4⟩
 ·obtain⟨x,h1,h2,h3⟩:=h
  exact⟨L,i,b,x,rfl,h1,h2,h3⟩
variable {P:Program}{S:Nat->Spc}{f:Nat}{im:List Nat}{cc:CC}{rs:List aj}{N:Nat}
end
end Go.Gv
