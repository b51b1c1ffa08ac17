/- A part of the framework and of the walks: T14 T15 T16 T17 T18 T19 T20 T21. -/
import Derived.Test.YtphdikcommfnhaaGreatDoorGa19
set_option linter.unusedSimpArgs false
set_option linter.unusedVariables false

namespace Go.Gv
open Cod (enc dec)
def qbj (s t:Spc):Spc:= .gen (fun d ds H K=> s.pt d ds H K\/t.pt d ds H K) fun d ds H K K' hk h=> h.elim (fun h=> .inl (s.mono d ds H K K' hk h)) (fun h=> .inr (t.mono d ds H K K' hk h))
@[simp] theorem qgv (s t:Spc) (d:Nat) (ds:List D) (H:aa) (K:D->aa->Prop): (qbj s t).pt d ds H K=(s.pt d ds H K\/t.pt d ds H K):=id rfl
theorem MA {P:Program} {f:Nat} {s t:Spc} (h1:Tri P f s.pt) (h2:Tri P f t.pt):Tri P f (qbj s t).pt:=fun O tp w vs ds H d K a b c e g h=> h.elim (fun h=> h1 O tp w vs ds H d K a b c e g h) (fun h=> h2 O tp w vs ds H d K a b c e g h)
section
variable {X Y:Type} [Cod Y]
def qiP (A:du X) (pre:X->Prop) (post:X->List Y->Prop) (el n:Nat):PT:=fun d ds H K=> dP (A.dec ds) fun x=> pre x/\ ∀v l,post x l->K (.own d v) (ah H d (some (.row v el n (l.map enc))))
def qiw (A:du X) (pre:X->List Y->Prop) (post:X->List Y->List Y->Prop) (el n:Nat):PT:=fun d ds H K=> ∃id v l ds' x,ds= .own id v::ds'/\A.dec ds'=some x/\H id=some (.row v el n (l.map enc))/\pre x l/\
 ∀v' l',post x l l'->K (.own id v') (ah H id (some (.row v' el n (l'.map enc))))
def qit (A:du X) (pre:X->List Y->Prop) (post:X->List Y->List Y->Prop) (el n:Nat):PT:=fun d ds H K=> ∃id v l ds' x,ds= .own id v::ds'/\A.dec ds'=some x/\H id=some (.row v el n (l.map enc))/\pre x l/\
 ∀l',post x l l'->K (.tup []) (ah H id (some (.row v el n (l'.map enc))))
theorem P8 {o:Option X} {k k':X->Prop} (h: ∀x,k x->k' x) (ho:dP o k):dP o k':=by
 cases o with
 | none=> exact ho
 | some x=> exact h x ho
theorem WB (A:du X) (pre:X->Prop) (post:X->List Y->Prop) (el n:Nat):n7 (qiP A pre post el n):=fun d ds H K K' hk h=> P8 (fun x h=> ⟨h.1,fun v l hp=> hk _ _ (h.2 v l hp)⟩) h
theorem Wn (A:du X) (pre:X->List Y->Prop) (post:X->List Y->List Y->Prop) (el n:Nat):n7 (qiw A pre post el n):=fun d ds H K K' hk ⟨id,v,l,ds',x,h1,h2,h3,h4,h5⟩=> ⟨id,v,l,ds',x,h1,h2,h3,h4,fun v' l' hp=> hk _ _ (h5 v' l' hp)⟩
theorem Wh (A:du X) (pre:X->List Y->Prop) (post:X->List Y->List Y->Prop) (el n:Nat):n7 (qit A pre post el n):=fun d ds H K K' hk ⟨id,v,l,ds',x,h1,h2,h3,h4,h5⟩=> ⟨id,v,l,ds',x,h1,h2,h3,h4,fun l' hp=> hk _ _ (h5 l' hp)⟩
def qbO (A:du X) (pre:X->Prop) (post:X->List Y->Prop) (el n:Nat):Spc:= .gen _ (WB A pre post el n)
def qiy (A:du X) (pre:X->List Y->Prop) (post:X->List Y->List Y->Prop) (el n:Nat):Spc:= .gen _ (Wn A pre post el n)
def ql7 (A:du X) (pre:X->List Y->Prop) (post:X->List Y->List Y->Prop) (el n:Nat):Spc:= .gen _ (Wh A pre post el n)
@[simp] theorem Ts (A:du X) (pre:X->Prop) (post:X->List Y->Prop) (el n:Nat) (d:Nat) (ds:List D) (H:aa) (K:D->aa->Prop): (qbO A pre post el n).pt d ds H K=dP (A.dec ds) fun x=> pre x/\ ∀v l,post x l->K (.own d v) (ah H d (some (.row v el n (l.map enc)))):=id rfl
def qem (A:du X) (pre:X->List Y->Prop) (post:X->List Y->List Y->Prop) (el n id:Nat) (v:Value) (ds:List D) (r:Option Res) (H:aa) (K:D->aa->Prop):Prop:= ∃l,r=some (.row v el n (l.map enc))/\dP (A.dec ds) fun x=> pre x l/\ ∀v' l',post x l l'->K (.own id v') (ah H id (some (.row v' el n (l'.map enc))))
def qek (A:du X) (pre:X->List Y->Prop) (post:X->List Y->List Y->Prop) (el n id:Nat) (v:Value) (ds:List D) (r:Option Res) (H:aa) (K:D->aa->Prop):Prop:= ∃l,r=some (.row v el n (l.map enc))/\dP (A.dec ds) fun x=> pre x l/\ ∀l',post x l l'->K (.tup []) (ah H id (some (.row v el n (l'.map enc))))
@[congr] theorem qiv {A:du X} {pre:X->List Y->Prop} {post:X->List Y->List Y->Prop} {el n id:Nat} {v:Value} {ds ds':List D} {r r':Option Res} {H:aa} {K:D->aa->Prop} (h1:ds=ds') (h2:r=r'):qem A pre post el n id v ds r H K=qem A pre post el n id v ds' r' H K:=by subst h1;subst h2;rfl
@[congr] theorem qis {A:du X} {pre:X->List Y->Prop} {post:X->List Y->List Y->Prop} {el n id:Nat} {v:Value} {ds ds':List D} {r r':Option Res} {H:aa} {K:D->aa->Prop} (h1:ds=ds') (h2:r=r'):qek A pre post el n id v ds r H K=qek A pre post el n id v ds' r' H K:=by subst h1;subst h2;rfl
@[simp] theorem qix (A:du X) (pre:X->List Y->Prop) (post:X->List Y->List Y->Prop) (el n:Nat) (d i:Nat) (v:Value) (ds:List D) (H:aa) (K:D->aa->Prop): (qiy A pre post el n).pt d (.own i v::ds) H K=qem A pre post el n i v ds (H i) H K:=by
 refine propext ⟨fun h=> ?_,fun h=> ?_⟩
 ·obtain⟨id,v,l,ds',x,h1,h2,h3,h4,h5⟩:=h
  cases h1
  refine⟨l,h3,?_⟩
  rw[h2]
  exact⟨h4,h5⟩
 ·obtain⟨l,h1,h2⟩:=h
  cases hd:A.dec ds with
  | none=> rw[hd] at h2;exact h2.elim
  | some x=> rw[hd] at h2;exact⟨i,v,l,ds,x,rfl,hd,h1,h2.1,h2.2⟩
@[simp] theorem qiu (A:du X) (pre:X->List Y->Prop) (post:X->List Y->List Y->Prop) (el n:Nat) (d i:Nat) (v:Value) (ds:List D) (H:aa) (K:D->aa->Prop): (ql7 A pre post el n).pt d (.own i v::ds) H K=qek A pre post el n i v ds (H i) H K:=by
 refine propext ⟨fun h=> ?_,fun h=> ?_⟩
 ·obtain⟨id,v,l,ds',x,h1,h2,h3,h4,h5⟩:=h
  cases h1
  refine⟨l,h3,?_⟩
  rw[h2]
  exact⟨h4,h5⟩
 ·obtain⟨l,h1,h2⟩:=h
  cases hd:A.dec ds with
  | none=> rw[hd] at h2;exact h2.elim
  | some x=> rw[hd] at h2;exact⟨i,v,l,ds,x,rfl,hd,h1,h2.1,h2.2⟩
@[simp] theorem ql8 (A:du X) (pre:X->List Y->Prop) (post:X->List Y->List Y->Prop) (el n id:Nat) (v:Value) (ds:List D) (l:List Y) (H:aa) (K:D->aa->Prop):qem A pre post el n id v ds (some (.row v el n (l.map enc))) H K=dP (A.dec ds) fun x=> pre x l/\ ∀v' l',post x l l'->K (.own id v') (ah H id (some (.row v' el n (l'.map enc)))):=by
 refine propext ⟨fun⟨l',h1,h2⟩=> ?_,fun h=> ⟨l,rfl,h⟩⟩
 simp at h1
 subst h1
 exact h2
@[simp] theorem ql6 (A:du X) (pre:X->List Y->Prop) (post:X->List Y->List Y->Prop) (el n id:Nat) (v:Value) (ds:List D) (l:List Y) (H:aa) (K:D->aa->Prop):qek A pre post el n id v ds (some (.row v el n (l.map enc))) H K=dP (A.dec ds) fun x=> pre x l/\ ∀l',post x l l'->K (.tup []) (ah H id (some (.row v el n (l'.map enc)))):=by
 refine propext ⟨fun⟨l',h1,h2⟩=> ?_,fun h=> ⟨l,rfl,h⟩⟩
 simp at h1
 subst h1
 exact h2
def Xk (el n:Nat) (q:List Y->Prop) (r:D) (H':aa):Prop:= ∃j v l,r= .own j v/\H' j=some (.row v el n (l.map enc))/\q l
theorem qG {el n:Nat} {q:List Y->Prop} {j:Nat} {v:Value} {H':aa} (l:List Y) (h:H' j=some (.row v el n (l.map enc))) (hq:q l):Xk el n q (.own j v) H':=⟨j,v,l,rfl,h,hq⟩
def Pj (cc:CC) (rs:List ar) (S:Nat->Spc) (A:du X) (pre:X->Prop) (post:X->List Y->Prop) (el n:Nat):Prop:=
 ∀x,pre x->vc S cc (rF rs fun r H'=> Xk el n (post x) r H') (fY (A.view x)) ed
def UH (cc:CC) (rs:List ar) (S:Nat->Spc) (A:du X) (pre:X->List Y->Prop) (post:X->List Y->List Y->Prop) (el n:Nat):Prop:=
 ∀v l x,pre x l->vc S cc (rF rs fun r H'=> Xk el n (post x l) r H') (fY (.own 0 v::A.view x)) (ah ed 0 (some (.row v el n (l.map enc))))
variable {P:Program} {S:Nat->Spc} {f:Nat} {im:List Nat} {cc:CC} {rs:List ar} {N:Nat} {A:du X} {el n:Nat}
theorem AA {pre:X->Prop} {post:X->List Y->Prop} (hS: ∀f,Tri P f (S f).pt) (h:ay P f im cc rs N) (hN: ∀x,(A.view x).length<=N) (hw:Pj cc rs S A pre post el n):Tri P f (qbO A pre post el n).pt:=by
 obtain⟨KM,enter,fn,code,h1,h2,h3,h4,h5⟩:=h
 refine mE hS KM h1 h2 enter h3 h4 h5 ?_
 intro ds H d K hA
 rw[Ts] at hA
 cases hd:A.dec ds with
 | none=> rw[hd] at hA;exact hA.elim
 | some x=>
   rw[hd] at hA
   obtain⟨hp,hK⟩:=hA
   have hl:=A.le ds x hd
   refine⟨by rw[hl.1];exact hN x,A.view x,ed,id,hl,fun i r h=> by simp at h,fun i j r s h=> by simp at h,_,hw x hp,?_⟩
   rintro r H' ⟨j,v,l,rfl,hj,hpost⟩
   refine⟨.own d v,ed,ah H d (some (.row v el n (l.map enc))),fun i=> if i=d then some j else none, .own _ _ _,fun j q h=> by simp at h,hK v l hpost,fun i s hi=> ?_,fun i j' k s q hi hj' e1 e2=> ?_⟩
   ·by_cases e:i=d
    ·subst e
     simp only[ah,if_true] at hi
     cases hi
     simpa using hj
    ·simp only[ah,e,if_false] at hi ⊢
     exact⟨hi,fun k q h=> by simp at h⟩
   ·have a:i=d:=by
     by_cases e:i=d
     ·exact e
     ·simp[e] at e1
    have b:j'=d:=by
     by_cases e:j'=d
     ·exact e
     ·simp[e] at e2
    exact a.trans b.symm
theorem Mz {pre:X->List Y->Prop} {post:X->List Y->List Y->Prop} (hS: ∀f,Tri P f (S f).pt) (h:ay P f im cc rs N) (hN: ∀x,(A.view x).length+1<=N) (hw:UH cc rs S A pre post el n):Tri P f (qiy A pre post el n).pt:=by
 obtain⟨KM,enter,fn,code,h1,h2,h3,h4,h5⟩:=h
 refine mE hS KM h1 h2 enter h3 h4 h5 ?_
 rintro ds H d K ⟨id,v,l,ds',x,rfl,hd,hid,hp,hK⟩
 have hl:=A.le ds' x hd
 refine⟨by simp only[List.length_cons];rw[hl.1];exact hN x, .own 0 v::A.view x,ah ed 0 (some (.row v el n (l.map enc))),fun _=> id, .cons (.own _ _ _) hl,fun i r h=> ?_,fun i j r s h h' _=> ?_,_,hw v l x hp,?_⟩
 ·by_cases e:i=0
  ·subst e
   simp only[ah,if_true] at h
   cases h
   exact hid
  ·simp[ah,e] at h
 ·have a:i=0:=by
   by_cases e:i=0
   ·exact e
   ·simp[ah,e] at h
  have b:j=0:=by
   by_cases e:j=0
   ·exact e
   ·simp[ah,e] at h'
  exact a.trans b.symm
 ·rintro r H' ⟨j,v',l',rfl,hj,hpost⟩
  refine⟨.own id v',ed,ah H id (some (.row v' el n (l'.map enc))),fun i=> if i=id then some j else none, .own _ _ _,fun j q h=> by simp at h,hK v' l' hpost,fun i s hi=> ?_,fun i j' k s q hi hj' e1 e2=> ?_⟩
  ·by_cases e:i=id
   ·subst e
    simp only[ah,if_true] at hi
    cases hi
    simpa using hj
   ·simp only[ah,e,if_false] at hi ⊢
    exact⟨hi,fun k q h he=> e he.symm⟩
  ·have a:i=id:=by
    by_cases e:i=id
    ·exact e
    ·simp[e] at e1
   have b:j'=id:=by
    by_cases e:j'=id
    ·exact e
    ·simp[e] at e2
   exact a.trans b.symm
end
def aD {X:Type} (A:du X):du (D×X):=⟨fun ds=> match ds with | d::r=> (A.dec r).map fun x=> (d,x) | _=> none,fun x=> x.1::A.view x.2,fun ds x h=> by
 split at h
 ·simp only[Option.map_eq_some_iff] at h
  obtain⟨y,hy,rfl⟩:=h
  exact .cons (.same _) (A.le _ _ hy)
 ·cases h⟩
def aE (X:Type) [Cod X] {Y:Type} (A:du Y):du (X×Y):=⟨fun ds=> match ds with | d::r=> (dec d).bind fun x=> (A.dec r).map fun y=> (x,y) | _=> none,fun x=> enc x.1::A.view x.2,fun ds x h=> by
 split at h
 ·simp only[Option.bind_eq_some_iff,Option.map_eq_some_iff] at h
  obtain⟨x,hx,y,hy,rfl⟩:=h
  exact .cons (Cod.le _ _ hx) (A.le _ _ hy)
 ·cases h⟩
@[simp] theorem Zy {X:Type} (A:du X) (d:D) (r:List D): (aD A).dec (d::r)=(A.dec r).map fun x=> (d,x):=id rfl
@[simp] theorem qfE {X:Type} (A:du X) (d:D) (x:X): (aD A).view (d,x)=d::A.view x:=id rfl
@[simp] theorem qjN {X Y:Type} [Cod X] (A:du Y) (d:D) (r:List D): (aE X A).dec (d::r)=(dec d).bind fun x=> (A.dec r).map fun y=> (x,y):=id rfl
@[simp] theorem qfD {X Y:Type} [Cod X] (A:du Y) (x:X) (y:Y): (aE X A).view (x,y)=enc x::A.view y:=id rfl
def FunIs {X Y:Type} [Cod X] [Cod Y] (S:Nat->Spc) (d:D) (p:X->Y):Prop:=
 ∃g caps pc,d= .clo g caps/\S g= .pure pc/\ ∀x:X,pc.pre (enc x::caps)/\ ∀r,pc.post (enc x::caps) r->r=enc (p x)
theorem FunIs.use' {X Y:Type} [Cod X] [Cod Y] {S:Nat->Spc} {d:D} {p:X->Y} (h:FunIs S d p) (x:X) (d':Nat) (H:aa) (K:D->aa->Prop) (hk: ∀y:Y,(∀q,FunIs S d q->y=q x)->K (enc y) H):u5 S d d' [enc x] H K:=by
 obtain⟨g,caps,pc,rfl,h1,h2⟩:=h
 simp only[u5,h1,Spc.pt]
 refine⟨(h2 x).1,fun r hr=> ?_⟩
 have e:=(h2 x).2 r hr
 rw[e]
 refine hk (p x) fun q hq=> ?_
 obtain⟨g',caps',pc',e',k1,k2⟩:=hq
 cases e'
 rw[h1] at k1
 cases k1
 exact bj (e.symm.trans ((k2 x).2 r hr))
theorem FunIs.useB {X:Type} [Cod X] {S:Nat->Spc} {d:D} {p:X->Bool} (h:FunIs S d p) (x:X) {d':Nat} {H:aa} {K:D->aa->Prop} (hk: ∀y:Bool,(∀q,FunIs S d q->y=q x)->K (.v (.bool y)) H):u5 S d d' [enc x] H K:=h.use' x d' H K hk
def Me (d:D):Prop:= ∀ (tp I tp' I':Nat->Prop) (w w':World) (x:Value),R tp I w x d->R tp' I' w' x d
theorem Fl (v:Value):Me (.v v):=fun tp I tp' I' w w' x h=> by
 cases h with
 | v _ h1 h2=> exact .v _ h1 h2
theorem Lg {ds:List D} (h: ∀d∈ds,Me d):Me (.tup ds):=fun tp I tp' I' w w' x hr=> by
 cases hr with
 | tup xs _ hl hx=> exact .tup xs ds hl fun k x c h1 h2=> h c (List.mem_of_getElem? h2) _ _ _ _ _ _ _ (hx k x c h1 h2)
section
variable {X Y Z:Type} [Cod Y]
def qjw (A:du X) (pre:List Y×X->Prop) (er:Z->D) (post:List Y×X->Z->Prop) (el n:Nat):PT:=fun d ds H K=> ∃id v l ds' x,ds= .own id v::ds'/\A.dec ds'=some x/\H id=some (.row v el n (l.map enc))/\pre (l,x)/\ ∀z,post (l,x) z->K (er z) H
theorem WT (A:du X) (pre:List Y×X->Prop) (er:Z->D) (post:List Y×X->Z->Prop) (el n:Nat):n7 (qjw A pre er post el n):=fun d ds H K K' hk ⟨id,v,l,ds',x,h1,h2,h3,h4,h5⟩=> ⟨id,v,l,ds',x,h1,h2,h3,h4,fun z hz=> hk _ _ (h5 z hz)⟩
def qfq (A:du X) (pre:List Y×X->Prop) (er:Z->D) (post:List Y×X->Z->Prop) (el n:Nat):Spc:= .gen _ (WT A pre er post el n)
def qfp (A:du X) (pre:List Y×X->Prop) (er:Z->D) (post:List Y×X->Z->Prop) (el n:Nat) (v:Value) (ds:List D) (r:Option Res) (H:aa) (K:D->aa->Prop):Prop:= ∃l,r=some (.row v el n (l.map enc))/\dP (A.dec ds) fun x=> pre (l,x)/\ ∀z,post (l,x) z->K (er z) H
@[congr] theorem qjv {A:du X} {pre:List Y×X->Prop} {er:Z->D} {post:List Y×X->Z->Prop} {el n:Nat} {v:Value} {ds ds':List D} {r r':Option Res} {H:aa} {K:D->aa->Prop} (h1:ds=ds') (h2:r=r'):qfp A pre er post el n v ds r H K=qfp A pre er post el n v ds' r' H K:=by subst h1;subst h2;rfl
@[simp] theorem qjx (A:du X) (pre:List Y×X->Prop) (er:Z->D) (post:List Y×X->Z->Prop) (el n:Nat) (d i:Nat) (v:Value) (ds:List D) (H:aa) (K:D->aa->Prop): (qfq A pre er post el n).pt d (.own i v::ds) H K=qfp A pre er post el n v ds (H i) H K:=by
 refine propext ⟨fun h=> ?_,fun h=> ?_⟩
 ·obtain⟨id,v,l,ds',x,h1,h2,h3,h4,h5⟩:=h
  cases h1
  refine⟨l,h3,?_⟩
  rw[h2]
  exact⟨h4,h5⟩
 ·obtain⟨l,h1,h2⟩:=h
  cases hd:A.dec ds with
  | none=> rw[hd] at h2;exact h2.elim
  | some x=> rw[hd] at h2;exact⟨i,v,l,ds,x,rfl,hd,h1,h2.1,h2.2⟩
@[simp] theorem qmC (A:du X) (pre:List Y×X->Prop) (er:Z->D) (post:List Y×X->Z->Prop) (el n:Nat) (v:Value) (ds:List D) (l:List Y) (H:aa) (K:D->aa->Prop):qfp A pre er post el n v ds (some (.row v el n (l.map enc))) H K=dP (A.dec ds) fun x=> pre (l,x)/\ ∀z,post (l,x) z->K (er z) H:=by
 refine propext ⟨fun⟨l',h1,h2⟩=> ?_,fun h=> ⟨l,rfl,h⟩⟩
 simp at h1
 subst h1
 exact h2
theorem DM {P:Program} {f:Nat} {A:du X} {pre:List Y×X->Prop} {er:Z->D} {post:List Y×X->Z->Prop} {el n:Nat} (hf:Tri P f (cC (aE (List Y) A) pre er post).pt) (hn:n=Cod.wd Y) (hflat: ∀z,Me (er z)):Tri P f (qfq A pre er post el n).pt:=by
 intro O tp w vs ds H d K hO htl hsat hlen hargs hA
 obtain⟨id,v,l,ds',x,rfl,hd,hid,hp,hK⟩:=hA
 subst hn
 cases vs with
 | nil=> simp at hlen
 | cons v0 vs=>
   have hv0:v0=v:=by
    have:=hargs 0 v0 (.own id v) rfl rfl
    cases this;rfl
   subst hv0
   let O':Nat->Prop:=fun b=> O b\/ ∃i r,i≠id/\H i=some r/\r.blk=some b
   have himm: ∀b,bG O tp H w b->bG O' tp ed w b:=fun b hb=> ⟨hb.1,fun h=> h.elim hb.2.1 fun⟨i,r,_,h1,h2⟩=> hb.2.2.2 ⟨i,r,h1,h2⟩,hb.2.2.1,fun⟨i,r,h1,_⟩=> by simp at h1⟩
   have hmv: ∀y e,R tp (bG O tp H w) w y e->R tp (bG O' tp ed w) w y e:=fun y e hr=> hr.mono (fun _ h=> h) (fun b hb=> ⟨himm b hb,rfl⟩) (fun b _=> .refl _ _)
   have hl:R tp (bG O' tp ed w) w v0 (.list (Cod.wd Y) (l.map enc)):=Ej (fun b hb=> by
    have h1:=hsat.out id _ b hid hb
    refine⟨(hsat.ok id _ hid).lt hb,fun h=> h.elim h1.1 fun⟨i,r,hne,h2,h3⟩=> hne (hsat.dis _ _ _ _ b h2 hid h3 hb),h1.2,fun⟨i,r,h2,_⟩=> by simp at h2⟩) ((hsat.ok id _ hid).conv hmv (fun _ _=> rfl))
   have hdec: (aE (List Y) A).dec (.list (Cod.wd Y) (l.map enc)::ds')=some (l,x):=by simp[hd]
   obtain⟨hce,hc⟩:=hf O' tp w (v0::vs) (.list (Cod.wd Y) (l.map enc)::ds') ed d (fun r H'=> ∃z,r=er z/\post (l,x) z/\H'=ed)
    (fun b hb=> hb.elim (hO b) fun⟨i,r,_,h1,h2⟩=> (hsat.ok i r h1).lt h2) (htl.mono fun b ⟨i,r,h,_⟩=> by simp at h) ⟨fun i j r s b h=> by simp at h,fun i r b h=> by simp at h,fun i r h=> by simp at h⟩ (by simpa using hlen)
    (fun k y e h1 h2=> by
      cases k with
      | zero=> simp at h1 h2;subst h1;subst h2;exact hl
      | succ k=> simp at h1 h2;exact hmv _ _ (hargs (k+1) y e (by simpa using h1) (by simpa using h2)))
    (by rw[sk,hdec];exact⟨hp,fun z hz=> ⟨z,rfl,hz,rfl⟩⟩)
   refine⟨hce,hc.mono ?_⟩
   rintro e w' ⟨q,r,H',tp',rfl,⟨z,rfl,hz,rfl⟩,t1,t2,t3,hs,ho,hsat',hR⟩
   have hsame: ∀b,b < w.heap.size-> ¬tp b->w'.heap[b]?=w.heap[b]?:=fun b hb ht=> hs.same b hb (fun⟨i,r,h,_⟩=> by simp at h) ht
   have hmove: ∀y e,R tp (bG O tp H w) w y e->R tp' (bG O tp' H w') w' y e:=fun y e hr=> hr.mono t1 (fun b hb=> ⟨⟨Nat.lt_of_lt_of_le hb.1 hs.size,hb.2.1,fun h=> by
    rcases t2 b h with h | h
    ·exact hb.2.2.1 h
    ·have:=hb.1;omega,hb.2.2.2⟩,hsame b hb.1 hb.2.2.1⟩) hs.tapes
   refine⟨q,er z,H,tp',rfl,hK z hz,t1,t2,t3,⟨hs.os,hs.tape,hs.output,hs.size,fun b hb _ ht=> hsame b hb ht,hs.tapes,hs.drawn⟩,fun b h=> .inl h,⟨hsat.dis,fun i r b h1 h2=> ?_,fun i r h1=> ?_⟩,hflat z _ _ _ _ _ _ _ hR⟩
   ·have:=hsat.out i r b h1 h2
    refine⟨this.1,fun h=> ?_⟩
    rcases t2 b h with h | h
    ·exact this.2 h
    ·have:=(hsat.ok i r h1).lt h2;omega
   ·exact(hsat.ok i r h1).conv hmove fun b hb=> hsame b ((hsat.ok i r h1).lt hb) (hsat.out i r b h1 hb).2
end
end Go.Gv

namespace Go.Gv
def RSub (r r':Res):Prop:=r=r'\/ ∃b cs cs',r= .box b cs/\r'= .box b cs'/\cs.length=cs'.length/\ ∀ (m:Nat) (c c':D),cs[m]?=some c->cs'[m]?=some c'->Mi c c'
theorem RSub.blk {r r':Res} (h:RSub r r'):r'.blk=r.blk:=by
 rcases h with rfl | ⟨b,cs,cs',rfl,rfl,_⟩ <;> rfl
theorem RSub.ok {tp I:Nat->Prop} {w w':World} {r r':Res} (h:RSub r r') (hr:ResOk (R tp I w) w' r):ResOk (R tp I w) w' r':=by
 rcases h with rfl | ⟨b,cs,cs',rfl,rfl,hl,hc⟩
 ·exact hr
 ·obtain⟨xs,el,h1,h2,h3⟩:=hr
  refine⟨xs,el,h1,h2.trans hl,fun k y c hy hc'=> ?_⟩
  have hk:k < cs.length:=by rw[hl];exact(List.getElem?_eq_some_iff.1 hc').1
  have h4:=h3 k y cs[k] hy (List.getElem?_eq_getElem hk)
  exact⟨h4.1,XK (hc k _ _ (List.getElem?_eq_getElem hk) hc') h4.2⟩
section
variable {S:Nat->Spc} {σ σ1:Sg} {H H1:aa} {K:Ex->Sg->aa->Prop}
theorem Rt {k:Nat} {b:CC} (hw:Wk σ H σ1 H1) (h:vc S (.loop k b) K σ1 H1):vc S (.loop k b) K σ H:=by
 rw[JD] at h ⊢
 obtain⟨I,⟨x,h1,h2⟩,h3⟩:=h
 exact⟨I,⟨x,h1,fun E a w hs=> h2 E a w (hw E a w hs)⟩,h3⟩
theorem PH {id i n c id2 i2:Nat} {body:CC} (hw:Wk σ H σ1 H1) (h:vc S (aP id i n c id2 body i2) K σ1 H1):vc S (aP id i n c id2 body i2) K σ H:=by
 unfold aP at h ⊢
 rw[JE] at h ⊢
 exact Rt hw h
end
end Go.Gv

namespace Go.Gv
section
variable {X Y:Type}
variable {P:Program} {S:Nat->Spc} {f:Nat} {im:List Nat} {cc:CC} {rs:List ar} {N:Nat}
end
end Go.Gv

namespace Go.Gv
def HWk (H H2:aa):Prop:= ∀ (E:vz) (tp:Nat->Prop) (w:World),StW E tp H w->StW E tp H2 w/\ ∀x d,R tp (bG E.O tp H w) w x d->R tp (bG E.O tp H2 w) w x d
theorem HWk.refl (H:aa):HWk H H:=fun _ _ _ h=> ⟨h,fun _ _ h=> h⟩
theorem Wk.trans {σ σ1 σ2:Sg} {H H1 H2:aa} (h:Wk σ H σ1 H1) (k:Wk σ1 H1 σ2 H2):Wk σ H σ2 H2:=fun E a w hs=> k E a w (h E a w hs)
def left (k b:Nat) (cs:List D) (ks:List Nat) (H:aa):aa:=fun i=> if i=k then some (.box b cs) else if i∈ks then H i else none
section
variable {S:Nat->Spc} {σ:Sg} {H:aa} {K:Ex->Sg->aa->Prop}
theorem Vp {X:Type} (P:X->Prop) (s:X->Sg) (h:X->aa) {k:Nat} {a b:CC}
 (ha:vc S a (Qp (fun σ' H'=> ∃x,P x/\Wk σ' H' (s x) (h x)) K) σ H)
 (hb: ∀x,P x->vc S b K (s x) (h x)):vc S (qQ k a b) K σ H:=by
 unfold qQ
 rw[Lu]
 refine sa a _ _ (fun e σ' H' h=> ?_) ha
 cases e with
 | norm=>
   obtain⟨x,h1,h2⟩:=h
   rw[FC,TK]
   exact⟨_,_,h2,hb x h1⟩
 | ex i=> exact h
 | ret=> exact h
end
section
variable {P:Program} {im:List Nat} {E:vz} {S:Nat->Spc}
end
end Go.Gv

namespace Go.Gv
def RFz (Hf:aa):Res->Res->Prop
 | .box b cs, .box b' cs'=> b=b'/\cs.length=cs'.length/\ ∀ (m:Nat) (c c':D),cs[m]?=some c->cs'[m]?=some c'->FrzTo Hf c c'
 | .row x el n es, .row x' el' n' es'=> x=x'/\el=el'/\n=n'/\es.length=es'.length/\(∀d∈es',d.kn=true/\d.cells.length=n)/\ ∀ (m:Nat) (c c':D),es[m]?=some c->es'[m]?=some c'-> ∀ (j:Nat) (e e':D),c.cells[j]?=some e->c'.cells[j]?=some e'->FrzTo Hf e e'
 | .tbox el b cs, .tbox el' b' cs'=> el=el'/\b=b'/\cs.length=cs'.length/\ ∀ (m:Nat) (c c':D),cs[m]?=some c->cs'[m]?=some c'->FrzTo Hf c c'
 | .mrow x es, .mrow x' es'=> x=x'/\es.length=es'.length/\ ∀ (m:Nat) (c c':D),es[m]?=some c->es'[m]?=some c'->FrzTo Hf c c'
 | r,r'=> r=r'
theorem RFz.blk {Hf:aa} {r r':Res} (h:RFz Hf r r'):r'.blk=r.blk:=by
 cases r <;> cases r' <;> simp only[RFz] at h
 ·obtain⟨rfl,_⟩:=h;rfl
 all_goals first
  | (obtain⟨rfl,rfl,rfl,_⟩:=h;rfl)
  | (obtain⟨rfl,rfl,_⟩:=h;rfl)
  | (obtain⟨rfl,_⟩:=h;rfl)
  | (cases h;done)
  | (cases h;rfl)
theorem RFz.ok {tp I I':Nat->Prop} {w:World} {Hf:aa} {r r':Res} (h:RFz Hf r r') (hr:ResOk (R tp I w) w r) (hok: ∀i q,Hf i=some q->ResOk (R tp I w) w q) (hI: ∀b,I b->I' b) (hb: ∀i q b,Hf i=some q->q.blk=some b->I' b):ResOk (R tp I' w) w r':=by
 have fz: ∀ {c c':D} {y:Value},FrzTo Hf c c'->R tp I w y c->R tp I' w y c':=fun h hr=> h.R (H:=ed) hok hI hb hr
 have same:ResOk (R tp I' w) w r:=hr.conv (fun x d hr=> hr.mono (fun _ h=> h) (fun b hb=> ⟨hI b hb,rfl⟩) (fun b _=> .refl _ _)) (fun _ _=> rfl)
 cases r with
 | box b cs=>
   cases r' with
   | box b' cs'=>
     obtain⟨rfl,hl,hc⟩:=h
     obtain⟨xs,el,h1,h2,h3⟩:=hr
     refine⟨xs,el,h1,h2.trans hl,fun k y c hy hc'=> ?_⟩
     have hk:k < cs.length:=by rw[hl];exact(List.getElem?_eq_some_iff.1 hc').1
     have h4:=h3 k y cs[k] hy (List.getElem?_eq_getElem hk)
     exact⟨h4.1,fz (hc k _ _ (List.getElem?_eq_getElem hk) hc') h4.2⟩
   | row x el n es=> cases h
   | iter b s p=> cases h
   | tbox b s p=> cases h
   | mrow=> cases h
   | miter=> cases h
 | iter b s p=>
   cases r' with
   | box b' cs'=> cases h
   | row x el n es=> cases h
   | iter b' s' p'=> cases h;exact same
   | tbox b' s' p'=> cases h
   | mrow=> cases h
   | miter=> cases h
 | tbox b s p=>
   cases r' with
   | box b' cs'=> cases h
   | row x el n es=> cases h
   | iter b' s' p'=> cases h
   | mrow=> cases h
   | miter=> cases h
   | tbox b' s' cs'=>
     obtain⟨rfl,rfl,hl,hc⟩:=h
     obtain⟨xs,h1,h2,h3⟩:=hr
     refine⟨xs,h1,h2.trans hl,fun k y c hy hc'=> ?_⟩
     have hk:k < p.length:=by rw[hl];exact(List.getElem?_eq_some_iff.1 hc').1
     have h4:=h3 k y p[k] hy (List.getElem?_eq_getElem hk)
     exact⟨h4.1,fz (hc k _ _ (List.getElem?_eq_getElem hk) hc') h4.2⟩
 | row x el n es=>
   cases r' with
   | box b' cs'=> cases h
   | iter b' s' p'=> cases h
   | tbox b' s' p'=> cases h
   | mrow=> cases h
   | miter=> cases h
   | row x' el' n' es'=>
     obtain⟨rfl,rfl,rfl,hl,hkn,hc⟩:=h
     obtain⟨xs,h1,h2,h3⟩:=hr
     refine⟨xs,hl ▸h1,hkn,fun k y c hy hc'=> ?_⟩
     have hw: ∀d∈es,d.cells.length=n:=fun d hd=> (h2 d hd).2
     have hw': ∀d∈es',d.cells.length=n:=fun d hd=> (hkn d hd).2
     have hfl:=bt hw
     have hfl':=bt hw'
     have hk:k < (bF es).length:=by
      have:=(List.getElem?_eq_some_iff.1 hc').1
      rw[hfl,hl,<-hfl'];exact this
     have hk2:k < es.length*n:=by rw[<-hfl];exact hk
     have hn:0 < n:=by
      rcases Nat.eq_zero_or_pos n with e | e
      ·subst e;simp at hk2
      ·exact e
     have h4:=h3 k y (bF es)[k] hy (List.getElem?_eq_getElem hk)
     refine⟨h4.1,fz ?_ h4.2⟩
     have hdm:k=(k/n) *n+k % n:=by have:=Nat.div_add_mod k n;rw[Nat.mul_comm] at this;omega
     have hmod:k % n < n:=Nat.mod_lt _ hn
     have g1:=dm hw (i:=k/n) (j:=k % n) hmod
     have g2:=dm hw' (i:=k/n) (j:=k % n) hmod
     rw[<-hdm] at g1 g2
     rw[hc'] at g2
     rw[List.getElem?_eq_getElem hk] at g1
     cases e1:es[k/n]? with
     | none=> rw[e1] at g1;cases g1
     | some c1=>
       cases e2:es'[k/n]? with
       | none=> rw[e2] at g2;cases g2
       | some c2=>
         rw[e1] at g1
         rw[e2] at g2
         exact hc _ c1 c2 e1 e2 _ _ _ g1.symm g2.symm
 | mrow x es=>
   cases r' with
   | box=> cases h
   | iter=> cases h
   | tbox=> cases h
   | row=> cases h
   | miter=> cases h
   | mrow x' es'=>
     obtain⟨rfl,hl,hc⟩:=h
     obtain⟨b,ents,clock,rfl,h1,h2,h3⟩:=hr
     refine⟨b,ents,clock,rfl,h1,h2,h3.1.trans hl,fun k e c he hc'=> ?_⟩
     have hk:k < es.length:=by rw[hl];exact(List.getElem?_eq_some_iff.1 hc').1
     exact fz (hc k _ _ (List.getElem?_eq_getElem hk) hc') (h3.2 k e _ he (List.getElem?_eq_getElem hk))
 | miter b c l=>
   cases r' with
   | box=> cases h
   | iter=> cases h
   | tbox=> cases h
   | row=> cases h
   | mrow=> cases h
   | miter=> cases h;exact same
def RFe (Hf:aa) (r r':Res):Prop:=r=r'\/RFz Hf r r'
theorem RFe.blk {Hf:aa} {r r':Res} (h:RFe Hf r r'):r'.blk=r.blk:=by
 rcases h with rfl | h
 ·rfl
 ·exact h.blk
theorem RFe.ok {tp I I':Nat->Prop} {w:World} {Hf:aa} {r r':Res} (h:RFe Hf r r') (hr:ResOk (R tp I w) w r) (hok: ∀i q,Hf i=some q->ResOk (R tp I w) w q) (hI: ∀b,I b->I' b) (hb: ∀i q b,Hf i=some q->q.blk=some b->I' b):ResOk (R tp I' w) w r':=by
 rcases h with rfl | h
 ·exact hr.conv (fun x d hr=> hr.mono (fun _ h=> h) (fun b hb=> ⟨hI b hb,rfl⟩) (fun b _=> .refl _ _)) (fun _ _=> rfl)
 ·exact h.ok hr hok hI hb
theorem isNilRow.blk' {r:Res} (h:isNilRow r):r.blk=none:=by
 cases r with
 | box b c=> exact h.elim
 | iter b s p=> exact h.elim
 | tbox b s p=> exact h.elim
 | mrow=> exact h.elim
 | miter=> exact h.elim
 | row x el n es=> obtain⟨rfl,rfl⟩:=h;rfl
theorem Rk {σ σ':Sg} {H H' Hf:aa} (ρ:Nat->Nat) (h1: ∀t,FrzTo Hf (σ t) (σ' t)) (h2: ∀i r,H' i=some r->(∃r0,H (ρ i)=some r0/\RFe Hf r0 r)\/isNilRow r)
 (h3: ∀i j r s,H' i=some r->H' j=some s->ρ i=ρ j->i=j\/isNilRow r\/isNilRow s) (h4: ∀i r,Hf i=some r->H i=some r/\ ∀j r',H' j=some r'->ρ j=i->isNilRow r'):Wk σ H σ' H':=by
 intro E a w ⟨hd,hN,tp,h,hr⟩
 have hblk: ∀i r c,H' i=some r->r.blk=some c-> ∃r0,H (ρ i)=some r0/\r0.blk=some c/\ ¬isNilRow r:=fun i r c k1 k2=> by
  have hn: ¬isNilRow r:=fun hn=> by rw[hn.blk'] at k2;cases k2
  rcases h2 i r k1 with⟨r0,k3,k4⟩ | k3
  ·exact⟨r0,k3,k4.blk ▸k2,hn⟩
  ·exact absurd k3 hn
 have hown: ∀c,dO H' c->dO H c:=fun c ⟨i,r,k1,k2⟩=> by
  obtain⟨r0,k3,k4,_⟩:=hblk i r c k1 k2
  exact⟨ρ i,r0,k3,k4⟩
 have himm: ∀c,bG E.O tp H w c->bG E.O tp H' w c:=fun c hb=> ⟨hb.1,hb.2.1,hb.2.2.1,fun ho=> hb.2.2.2 (hown c ho)⟩
 have hfok: ∀i q,Hf i=some q->ResOk (R tp (bG E.O tp H w) w) w q:=fun i q hq=> h.sat.ok i q (h4 i q hq).1
 have hfb: ∀i q b,Hf i=some q->q.blk=some b->bG E.O tp H' w b:=fun i q b hq hb=> by
  obtain⟨k1,k2⟩:=h4 i q hq
  have ho:=h.sat.out i q b k1 hb
  refine⟨(h.sat.ok i q k1).lt hb,ho.1,ho.2,fun⟨j,s,k3,k4⟩=> ?_⟩
  obtain⟨s0,k5,k6,k7⟩:=hblk j s b k3 k4
  exact k7 (k2 j s k3 (h.sat.dis (ρ j) i s0 q b k5 k1 k6 hb))
 have move: ∀x d,R tp (bG E.O tp H w) w x d->R tp (bG E.O tp H' w) w x d:=fun x d hr=>
  hr.mono (fun _ h=> h) (fun b hb=> ⟨himm b hb,rfl⟩) (fun b _=> .refl _ _)
 refine⟨hd,hN,tp,⟨h.hO,h.tpx,h.tpn,h.tpl,h.step,fun b hb=> h.loc b (hown b hb),⟨fun i j r s c k1 k2 k3 k4=> ?_,fun i r c k1 k2=> ?_,fun i r k1=> ?_⟩⟩,fun t=> (h1 t).R (H:=ed) hfok himm hfb (hr t)⟩
 ·obtain⟨r0,a1,a2,a3⟩:=hblk i r c k1 k3
  obtain⟨s0,b1,b2,b3⟩:=hblk j s c k2 k4
  rcases h3 i j r s k1 k2 (h.sat.dis _ _ r0 s0 c a1 b1 a2 b2) with e | e | e
  ·exact e
  ·exact absurd e a3
  ·exact absurd e b3
 ·obtain⟨r0,a1,a2,_⟩:=hblk i r c k1 k2
  exact h.sat.out _ r0 c a1 a2
 ·rcases h2 i r k1 with⟨r0,k3,k4⟩ | k3
  ·exact k4.ok (h.sat.ok _ r0 k3) hfok himm hfb
  ·cases r with
   | box b c=> exact k3.elim
   | iter b s p=> exact k3.elim
   | tbox b s p=> exact k3.elim
   | mrow=> exact k3.elim
   | miter=> exact k3.elim
   | row x el n es=>
     obtain⟨rfl,rfl⟩:=k3
     exact⟨[],World.ownsRow_nil _ _ _ _,by simp,fun k y c h=> by simp at h⟩
def vj (Hf:aa):List (Nat×D)->Sg->Prop
 | [],_=> True
 | (t,d)::l,σ=> FrzTo Hf (σ t) d/\vj Hf l σ
@[simp] theorem qbt (Hf:aa) (σ:Sg):vj Hf [] σ=True:=id rfl
@[simp] theorem qbu (Hf:aa) (t:Nat) (d:D) (l:List (Nat×D)) (σ:Sg):vj Hf ((t,d)::l) σ=(FrzTo Hf (σ t) d/\vj Hf l σ):=id rfl
def Nh (rn:List (Nat×Nat)) (i:Nat):Nat:=(rn.lookup i).getD i
def th (Hf:aa) (rn:List (Nat×Nat)):List (Nat×Res)->aa->Prop
 | [],_=> True
 | (i,r)::l,H=> ((∃r0,H (Nh rn i)=some r0/\RFe Hf r0 r)\/isNilRow r)/\th Hf rn l H
@[simp] theorem qbr (Hf:aa) (rn:List (Nat×Nat)) (H:aa):th Hf rn [] H=True:=id rfl
@[simp] theorem qbs (Hf:aa) (rn:List (Nat×Nat)) (i:Nat) (r:Res) (l:List (Nat×Res)) (H:aa):th Hf rn ((i,r)::l) H=(((∃r0,H (Nh rn i)=some r0/\RFe Hf r0 r)\/isNilRow r)/\th Hf rn l H):=id rfl
def HG (gv:List Nat) (H:aa):aa:=fun i=> if i∈gv then H i else none
def qaA (rn:List (Nat×Nat)) (ids gv:List Nat):Prop:=(∀i∈ids,∀j∈ids,Nh rn i=Nh rn j->i=j)/\(∀i∈ids,Nh rn i∉gv)
instance (rn:List (Nat×Nat)) (ids gv:List Nat):Decidable (qaA rn ids gv):=by unfold qaA;infer_instance
theorem dt {l:List (Nat×Res)} {H:aa} {i:Nat} {r:Res} (h:gk l H i=some r): (i,r) ∈l\/(i∉l.map (·.1)/\H i=some r):=by
 induction l with
 | nil=> exact .inr ⟨by simp,h⟩
 | cons p l ih=>
   obtain⟨j,q⟩:=p
   simp only[gk,ah] at h
   split at h
   ·rename_i e;subst e;cases h;exact .inl (by simp)
   ·rename_i e
    rcases ih h with h | ⟨h1,h2⟩
    ·exact .inl (by simp[h])
    ·exact .inr ⟨by simp[e,h1],h2⟩
theorem Nv {Hf:aa} {rn:List (Nat×Nat)} {l:List (Nat×Res)} {H:aa} {i:Nat} {r:Res} (h:th Hf rn l H) (hm: (i,r) ∈l): (∃r0,H (Nh rn i)=some r0/\RFe Hf r0 r)\/isNilRow r:=by
 induction l with
 | nil=> simp at hm
 | cons p l ih=>
   obtain⟨j,q⟩:=p
   rcases List.mem_cons.1 hm with e | hm
   ·cases e;exact h.1
   ·exact ih h.2 hm
theorem An {σ0 σ:Sg} {H0 H:aa} {ks hk gv:List Nat} {rn:List (Nat×Nat)} {sl:List (Nat×D)} {hp:List (Nat×Res)} (hi:qaA rn (hp.map (·.1) ++hk) gv) (hid: ∀i∈hk,i∉hp.map (·.1)->Nh rn i=i)
 (h1:vj (HG gv H) sl σ) (h2:r7 ks σ0 σ) (h3:th (HG gv H) rn hp H) (h4:vk hk H0 H):Wk σ H (qg sl (iM ks σ0)) (gk hp (jo hk H0)):=by
 have hmem: ∀i r,gk hp (jo hk H0) i=some r->i∈hp.map (·.1) ++hk:=fun i r h=> by
  rcases dt h with h | ⟨_,h⟩
  ·exact List.mem_append.2 (.inl (List.mem_map.2 ⟨_,h,rfl⟩))
  ·rw[EV] at h
   split at h
   ·rename_i e;exact List.mem_append.2 (.inr e)
   ·cases h
 refine Rk (Hf:=HG gv H) (Nh rn) (fun t=> ?_) (fun i r h=> ?_) (fun i j r s k1 k2 e=> .inl (hi.1 i (hmem i r k1) j (hmem j s k2) e)) (fun i r h=> ?_)
 ·clear hi hid h3 hmem
  induction sl with
  | nil=>
    rw[N5,EU]
    split
    ·rename_i h;rw[<-h2 t h];exact .same _
    ·exact .any _
  | cons p sl ih=>
    obtain⟨s,d⟩:=p
    simp only[qg,upd]
    split
    ·rename_i e;subst e;exact h1.1
    ·exact ih h1.2
 ·rcases dt h with h | ⟨h5,h⟩
  ·exact Nv h3 h
  ·rw[EV] at h
   split at h
   ·rename_i e
    rw[hid i e h5,h4 i e]
    exact .inl ⟨r,h, .inl rfl⟩
   ·cases h
 ·simp only[HG] at h
  split at h
  ·rename_i e
   exact⟨h,fun j r' k1 k2=> absurd e (k2 ▸hi.2 j (hmem j r' k1))⟩
  ·cases h
@[simp] theorem qke (i:Nat):Nh [] i=i:=id rfl
@[simp] theorem qkf (i j:Nat) (l:List (Nat×Nat)) (k:Nat):Nh ((i,j)::l) k=if k=i then j else Nh l k:=by
 simp only[Nh,List.lookup]
 by_cases e:k=i
 ·subst e;simp
 ·have: (k==i)=false:=by simpa using e
  simp[this,e]
def FzL (Hf:aa):List D->List D->Prop
 | [], []=> True
 | a::l,b::r=> FrzTo Hf a b/\FzL Hf l r
 | _,_=> False
@[simp] theorem qma (Hf:aa):FzL Hf [] []=True:=id rfl
@[simp] theorem qmb (Hf:aa) (a b:D) (l r:List D):FzL Hf (a::l) (b::r)=(FrzTo Hf a b/\FzL Hf l r):=id rfl
theorem FzL.get {Hf:aa} : ∀ {l r:List D},FzL Hf l r->l.length=r.length/\ ∀ (m:Nat) (c c':D),l[m]?=some c->r[m]?=some c'->FrzTo Hf c c'
 | [], [],_=> ⟨rfl,fun m c c' h=> by simp at h⟩
 | a::l,b::r,h=> by
   obtain⟨h1,h2⟩:=h
   have ih:=FzL.get h2
   refine⟨by simp[ih.1],fun m c c' e1 e2=> ?_⟩
   cases m with
   | zero=> simp at e1 e2;subst e1;subst e2;exact h1
   | succ m=> simp at e1 e2;exact ih.2 m c c' e1 e2
@[simp] theorem qds (Hf:aa) (b:Nat) (cs cs':List D):RFe Hf (.box b cs) (.box b cs')=(cs=cs'\/FzL Hf cs cs'):=by
 refine propext ⟨fun h=> ?_,fun h=> ?_⟩
 ·rcases h with h | ⟨_,hl,hc⟩
  ·cases h;exact .inl rfl
  ·right
   induction cs generalizing cs' with
   | nil=> cases cs' with
     | nil=> trivial
     | cons b r=> simp at hl
   | cons a l ih=> cases cs' with
     | nil=> simp at hl
     | cons b r=> exact⟨hc 0 a b rfl rfl,ih r (by simpa using hl) fun m c c' h1 h2=> hc (m+1) c c' (by simpa using h1) (by simpa using h2)⟩
 ·rcases h with rfl | h
  ·exact .inl rfl
  ·exact .inr ⟨rfl,h.get.1,h.get.2⟩
def U2 (σ0:Sg) (H0:aa) (ks hk gv:List Nat) (rn:List (Nat×Nat)) (sl:List (Nat×D)) (hp:List (Nat×Res)) (σ:Sg) (H:aa):Prop:=vj (HG gv H) sl σ/\r7 ks σ0 σ/\th (HG gv H) rn hp H/\vk hk H0 H
@[simp] theorem qcr (σ0:Sg) (H0:aa) (ks hk gv:List Nat) (rn:List (Nat×Nat)) (sl:List (Nat×D)) (hp:List (Nat×Res)) (σ:Sg) (H:aa):U2 σ0 H0 ks hk gv rn sl hp σ H=(vj (HG gv H) sl σ/\r7 ks σ0 σ/\th (HG gv H) rn hp H/\vk hk H0 H):=id rfl
section
variable {S:Nat->Spc} {σ:Sg} {H:aa} {K:Ex->Sg->aa->Prop}
theorem qu {X:Type} (ks hk gv:List Nat) (rn:List (Nat×Nat)) (P:X->Prop) (sl:X->List (Nat×D)) (hp:X->List (Nat×Res)) {k:Nat} {a b:CC} (ids:List Nat) (hids: ∀x,(hp x).map (·.1)=ids) (hi:qaA rn (ids++hk) gv/\ ∀i∈hk,i∉ids->Nh rn i=i)
 (ha:vc S a (Qp (fun σ' H'=> ∃x,P x/\U2 σ H ks hk gv rn (sl x) (hp x) σ' H') K) σ H)
 (hb: ∀x,P x->vc S b K (qg (sl x) (iM ks σ)) (gk (hp x) (jo hk H))):vc S (qQ k a b) K σ H:=by
 refine Vp P _ _ (sa a _ _ (fun e σ' H' h=> ?_) ha) hb
 cases e with
 | norm=>
   obtain⟨x,h1,h2⟩:=h
   exact⟨x,h1,An (by rw[hids x];exact hi.1) (by rw[hids x];exact hi.2) h2.1 h2.2.1 h2.2.2.1 h2.2.2.2⟩
 | ex i=> exact h
 | ret=> exact h
end
end Go.Gv

namespace Go.Gv
section
variable {X Y:Type}
variable {P:Program} {S:Nat->Spc} {f:Nat} {im:List Nat} {cc:CC} {rs:List ar} {N:Nat}
end
end Go.Gv

namespace Go.Gv
section
variable {S:Nat->Spc} {σ:Sg} {H:aa} {K:Ex->Sg->aa->Prop}
theorem G6 {X:Type} (ks hk gv0 gv:List Nat) (rn0 rn:List (Nat×Nat)) (P:X->Prop) (sl:X->List (Nat×D)) (hp:X->List (Nat×Res)) (m:X->Nat) (x0:X) (ids:List Nat) (hids: ∀x,(hp x).map (·.1)=ids)
 (hi0:qaA rn0 (ids++hk) gv0/\ ∀i∈hk,i∉ids->Nh rn0 i=i) (hi:qaA rn (ids++hk) gv/\ ∀i∈hk,i∉ids->Nh rn i=i) {k:Nat} {b:CC} (h0:P x0)
 (hs:vj (HG gv0 H) (sl x0) σ) (hh:th (HG gv0 H) rn0 (hp x0) H)
 (hr: ∀x,P x->vc S b (Rl P (fun y=> U2 σ H ks hk gv rn (sl y) (hp y)) m x K) (qg (sl x) (iM ks σ)) (gk (hp x) (jo hk H))):vc S (.loop k b) K σ H:=by
 rw[JD]
 refine⟨⟨X,P,fun x=> qg (sl x) (iM ks σ),fun x=> gk (hp x) (jo hk H),m⟩,⟨x0,h0,An (by rw[hids x0];exact hi0.1) (by rw[hids x0];exact hi0.2) hs (fun _ _=> rfl) hh (fun _ _=> rfl)⟩,fun x hx=> sa b _ _ (fun e σ' H' h=> ?_) (hr x hx)⟩
 cases e with
 | norm=>
   obtain⟨y,h1,h2,h3⟩:=h
   exact⟨y,h1,An (by rw[hids y];exact hi.1) (by rw[hids y];exact hi.2) h2.1 h2.2.1 h2.2.2.1 h2.2.2.2,h3⟩
 | ex i=> exact h
 | ret=> exact h
end
end Go.Gv

namespace Go.Gv
end Go.Gv
