/- A part of the framework and of the walks: T22 T33 C55 W140 W141 W142. -/
import Derived.Test.YtphdikcommfnhaaGreatDoorGg25
import Derived.Test.YtphdikcommfnhaaGreatDoorGg21
import Derived.Test.YtphdikcommfnhaaGreatDoorGg26
import Derived.Test.YtphdikcommfnhaaGreatDoorGg20
set_option linter.unusedSimpArgs false
set_option linter.unusedVariables false
set_option linter.unusedSectionVars false
set_option maxRecDepth 100000
set_option maxHeartbeats 0

namespace Go.Gv
open Cod (enc dec)
section
variable {X Y:Type}[Cod X][Cod Y]
def qpV(pre:X->List Y->Prop)(post:X->List Y->List Y->Prop)(el n:Nat):PT:=fun d ds H K=>∃id v l a x,ds=[a, .own id v]/\dec a=some x/\H id=some (.row v el n (l.map enc))/\pre x l/\
 ∀v' l',post x l l'->K (.own id v') (ah H id (some (.row v' el n (l'.map enc))))
theorem qc4(pre:X->List Y->Prop)(post:X->List Y->List Y->Prop)(el n:Nat):oL (qpV pre post el n):=fun d ds H K K' hk ⟨id,v,l,a,x,h1,h2,h3,h4,h5⟩=>⟨id,v,l,a,x,h1,h2,h3,h4,fun v' l' hp=>hk _ _ (h5 v' l' hp)⟩
def qhX(pre:X->List Y->Prop)(post:X->List Y->List Y->Prop)(el n:Nat):Spc:= .gen _ (qc4 pre post el n)
def qmI(pre:X->List Y->Prop)(post:X->List Y->List Y->Prop)(el n id:Nat)(v:Value)(o:Option X)(r:Option Res)(H:ab)(K:D->ab->Prop):Prop:=∃l,r=some (.row v el n (l.map enc))/\dx o fun x=>pre x l/\∀v' l',post x l l'->K (.own id v') (ah H id (some (.row v' el n (l'.map enc))))
@[congr] theorem qpU{pre:X->List Y->Prop}{post:X->List Y->List Y->Prop}{el n id:Nat}{v:Value}{o o':Option X}{r r':Option Res}{H:ab}{K:D->ab->Prop}(h1:o=o')(h2:r=r'):qmI pre post el n id v o r H K=qmI pre post el n id v o' r' H K:=by subst h1;subst h2;rfl
@[simp] theorem qpW(pre:X->List Y->Prop)(post:X->List Y->List Y->Prop)(el n:Nat)(d i:Nat)(a:D)(v:Value)(H:ab)(K:D->ab->Prop):(qhX pre post el n).pt d [a, .own i v] H K=qmI pre post el n i v (dec a) (H i) H K:=by
 refine propext ⟨fun h=>?_,fun h=>?_⟩
 ·obtain⟨id,v,l,a,x,h1,h2,h3,h4,h5⟩:=h
  cases h1
  refine⟨l,h3,?_⟩
  rw[h2]
  exact⟨h4,h5⟩
 ·obtain⟨l,h1,h2⟩:=h
  cases hd:dec (X:=X) a with
  | none=>rw[hd]at h2;exact h2.elim
  | some x=>rw[hd]at h2;exact⟨i,v,l,a,x,rfl,hd,h1,h2.1,h2.2⟩
@[simp] theorem qsk(pre:X->List Y->Prop)(post:X->List Y->List Y->Prop)(el n id:Nat)(v:Value)(o:Option X)(l:List Y)(H:ab)(K:D->ab->Prop):qmI pre post el n id v o (some (.row v el n (l.map enc))) H K=dx o fun x=>pre x l/\∀v' l',post x l l'->K (.own id v') (ah H id (some (.row v' el n (l'.map enc)))):=by
 refine propext ⟨fun⟨l',h1,h2⟩=>?_,fun h=>⟨l,rfl,h⟩⟩
 simp at h1
 subst h1
 exact h2
def Sr(cc:CC)(rs:List aj)(S:Nat->Spc)(pre:X->List Y->Prop)(post:X->List Y->List Y->Prop)(el n:Nat):Prop:=
 ∀v l x,pre x l->vc S cc (rG rs fun r H'=>qd0 el n (post x l) r H') (cR [enc x, .own 1 v]) (ah bB 1 (some (.row v el n (l.map enc))))
variable {P:Program}{S:Nat->Spc}{f:Nat}{im:List Nat}{cc:CC}{rs:List aj}{N:Nat}{el n:Nat}
theorem GM{pre:X->List Y->Prop}{post:X->List Y->List Y->Prop}(hS:∀f,Tri P f (S f).pt)(h:am P f im cc rs N)(hN:2<=N)(hw:Sr cc rs S pre post el n):Tri P f (qhX pre post el n).pt:=by
 obtain⟨tS,enter,fn,code,h1,h2,h3,h4,h5⟩:=h
 refine lB hS tS h1 h2 enter h3 h4 h5 ?_
 rintro ds H d K ⟨id,v,l,a,x,rfl,hd,hid,hp,hK⟩
 have hl:=Cod.le _ _ hd
 refine⟨hN, [enc x, .own 1 v],ah bB 1 (some (.row v el n (l.map enc))),fun _=>id, .cons hl (.cons (.own _ _ _) .nil),fun i r h=>?_,fun i j r s h h' _=>?_,_,hw v l x hp,?_⟩
 ·by_cases e:i=1
  ·subst e
   simp only[ah,if_true]at h
   cases h
   exact hid
  ·simp[ah,e]at h
 ·have a:i=1:=by
   by_cases e:i=1
   ·exact e
   ·simp[ah,e]at h
  have b:j=1:=by
   by_cases e:j=1
   ·exact e
   ·simp[ah,e]at h'
  exact a.trans b.symm
 ·rintro r H' ⟨j,v',l',rfl,hj,hpost⟩
  refine⟨.own id v',bB,ah H id (some (.row v' el n (l'.map enc))),fun i=>if i=id then some j else none, .own _ _ _,fun j q h=>by simp at h,hK v' l' hpost,fun i s hi=>?_,fun i j' k s q hi hj' e1 e2=>?_⟩
  ·by_cases e:i=id
   ·subst e
    simp only[ah,if_true]at hi
    cases hi
    simpa using hj
   ·simp only[ah,e,if_false]at hi ⊢
    exact⟨hi,fun k q h he=>e he.symm⟩
  ·have a:i=id:=by
    by_cases e:i=id
    ·exact e
    ·simp[e]at e1
   have b:j'=id:=by
    by_cases e:j'=id
    ·exact e
    ·simp[e]at e2
   exact a.trans b.symm
end
section
variable {X Y Z:Type}
structure I1 (X:Type) where
 ids:List Nat
 ce:X->List D
 hp:X->List (Nat×Res)
 keys:∀x,(hp x).map (·.1)=ids
theorem Qn:∀ {l:List (Nat×Res)} {i:Nat} {s:Res},fE l bB i=some s->(i,s) ∈l
 | [],i,s,h=>by simp[fE,bB]at h
 | (j,r)::l,i,s,h=>by
  simp only[fE,ah]at h
  by_cases e:i=j
  ·subst e
   simp only[if_true]at h
   cases h
   simp
  ·simp only[e,if_false]at h
   exact qvs _ (Qn h)
theorem Qo:∀ {l:List (Nat×Res)} {H:ab} {i:Nat} {s:Res},i∈l.map (·.1)->fE l H i=some s->(i,s) ∈l
 | (j,r)::l,H,i,s,hi,h=>by
  simp only[fE,ah]at h
  by_cases e:i=j
  ·subst e
   simp only[if_true]at h
   cases h
   simp
  ·simp only[e,if_false]at h
   simp[e]at hi
   refine qvs _ (Qo (H:=H) ?_ h)
   simpa using hi
theorem Qm:∀ {l:List (Nat×Res)} {H:ab} {i:Nat},i∉l.map (·.1)->fE l H i=H i
 | [],H,i,_=>rfl
 | (j,r)::l,H,i,hi=>by
  simp only[qt7,qtM,not_or]at hi
  simp only[fE,ah,hi.1,if_false]
  exact Qm hi.2
def qq5(B:I1 X)(A:cM Z)(er:Y->D)(pre:X->Z->Prop)(post:X->Z->X->Y->Prop):PT:=fun d ds H K=>∃id b x z ds',ds= .bptr id b 0::ds'/\A.dec ds'=some z/\H id=some (.box b (B.ce x))/\(∀p∈B.hp x,H p.1=some p.2)/\id∉B.ids/\pre x z/\
 ∀x' y,post x z x' y->K (er y) (ah (fE (B.hp x') H) id (some (.box b (B.ce x'))))
theorem qdH(B:I1 X)(A:cM Z)(er:Y->D)(pre:X->Z->Prop)(post:X->Z->X->Y->Prop):oL (qq5 B A er pre post):=fun d ds H K K' hk ⟨id,b,x,z,ds',h1,h2,h3,h4,h5,h6,h7⟩=>⟨id,b,x,z,ds',h1,h2,h3,h4,h5,h6,fun x' y hp=>hk _ _ (h7 x' y hp)⟩
def qkG(B:I1 X)(A:cM Z)(er:Y->D)(pre:X->Z->Prop)(post:X->Z->X->Y->Prop):Spc:= .gen _ (qdH B A er pre post)
def Lp(B:I1 X)(er:Y->D)(b:Nat)(post:X->Y->Prop)(r:D)(H:ab):Prop:=∃x y,FrzTo (fun i=>if i=0\/i∈B.ids then none else H i) r (er y)/\H 0=some (.box b (B.ce x))/\(∀p∈B.hp x,H p.1=some p.2)/\post x y
def qhc(cc:CC)(rs:List aj)(S:Nat->Spc)(B:I1 X)(A:cM Z)(er:Y->D)(pre:X->Z->Prop)(post:X->Z->X->Y->Prop):Prop:=
 ∀b x z,pre x z->vc S cc (rG rs fun r H'=>Lp B er b (post x z) r H') (cR (.bptr 0 b 0::A.view z)) (ah (fE (B.hp x) bB) 0 (some (.box b (B.ce x))))
variable {P:Program}{S:Nat->Spc}{f:Nat}{im:List Nat}{cc:CC}{rs:List aj}{N:Nat}
theorem vt{B:I1 X}{A:cM Z}{er:Y->D}{pre:X->Z->Prop}{post:X->Z->X->Y->Prop}(h1i:0∉B.ids)(hS:∀f,Tri P f (S f).pt)(h:am P f im cc rs N)(hN:∀z,(A.view z).length+1<=N)(hw:qhc cc rs S B A er pre post):Tri P f (qkG B A er pre post).pt:=by
 obtain⟨tS,enter,fn,code,h1,h2,h3,h4,h5⟩:=h
 refine lB hS tS h1 h2 enter h3 h4 h5 ?_
 rintro ds H d K ⟨id,b,x,z,ds',rfl,hd,hid,hhp,hni,hp,hK⟩
 have hl:=A.le ds' z hd
 have h0:∀i r,ah (fE (B.hp x) bB) 0 (some (.box b (B.ce x))) i=some r->i=0/\r= .box b (B.ce x)\/i≠0/\(i,r) ∈B.hp x:=by
  intro i r h
  by_cases e:i=0
  ·subst e
   simp only[ah,if_true]at h
   cases h
   exact .inl ⟨rfl,rfl⟩
  ·simp only[ah,e,if_false]at h
   exact .inr ⟨e,Qn h⟩
 have hk:∀ {x:X} {i:Nat} {r:Res},(i,r) ∈B.hp x->i∈B.ids:=by
  intro x i r h
  rw[<-B.keys x]
  exact qtU.2 ⟨_,h,rfl⟩
 refine⟨by simp only[quy];rw[hl.1];exact hN z, .bptr 0 b 0::A.view z,ah (fE (B.hp x) bB) 0 (some (.box b (B.ce x))),fun i=>if i=0 then id else i, .cons (.bptr _ _ _ _) hl,fun i r h=>?_,fun i j r s h h' e=>?_,_,hw b x z hp,?_⟩
 ·rcases h0 i r h with⟨rfl,rfl⟩|⟨e,hm⟩
  ·exact hid
  ·simp only[e,if_false]
   exact hhp _ hm
 ·rcases h0 i r h with⟨rfl,rfl⟩|⟨e1,hm⟩
  ·rcases h0 j s h' with⟨rfl,rfl⟩|⟨e2,hm2⟩
   ·rfl
   ·simp only[e2,if_true,if_false]at e
    subst e
    exact absurd (hk hm2) hni
  ·rcases h0 j s h' with⟨rfl,rfl⟩|⟨e2,hm2⟩
   ·simp only[e1,if_true,if_false]at e
    subst e
    exact absurd (hk hm) hni
   ·simpa only[e1,e2,if_false]using e
 ·rintro r H' ⟨x',y,hfr,hj,hhp',hpost⟩
  refine⟨er y,fun i=>if i=0\/i∈B.ids then none else H' i,ah (fE (B.hp x') H) id (some (.box b (B.ce x'))),fun i=>if i=id then some 0 else if i∈B.ids then some i else none,hfr,fun j q h=>?_,hK x' y hpost,fun i s hi=>?_,fun i j' k s q hi hj' e1 e2=>?_⟩
  ·by_cases e:j=0\/j∈B.ids
   ·simp[e]at h
   ·simp only[e,if_false]at h
    refine⟨h,fun i hh=>e ?_⟩
    by_cases e1:i=id
    ·simp only[e1,if_true]at hh
     cases hh
     exact .inl rfl
    ·simp only[e1,if_false]at hh
     by_cases e2:i∈B.ids
     ·simp only[e2,if_true]at hh
      cases hh
      exact .inr e2
     ·simp[e2]at hh
  ·by_cases e:i=id
   ·subst e
    simp only[ah,if_true]at hi
    cases hi
    simpa using hj
   ·simp only[ah,e,if_false]at hi ⊢
    by_cases e2:i∈B.ids
    ·simp only[e2,if_true]
     exact hhp' _ (Qo (by rw[B.keys];exact e2) hi)
    ·simp only[e2,if_false]
     rw[Qm (by rw[B.keys];exact e2)]at hi
     refine⟨hi,fun k q h he=>?_⟩
     rcases h0 k q h with⟨rfl,rfl⟩|⟨e3,hm⟩
     ·simp only[if_true]at he
      exact e he.symm
     ·simp only[e3,if_false]at he
      subst he
      exact e2 (hk hm)
  ·by_cases c1:i=id
   ·by_cases c2:j'=id
    ·exact c1.trans c2.symm
    ·simp only[c1,if_true]at e1
     cases e1
     simp only[c2,if_false]at e2
     by_cases c3:j'∈B.ids
     ·simp only[c3,if_true]at e2
      cases e2
      exact absurd c3 h1i
     ·simp[c3]at e2
   ·simp only[c1,if_false]at e1
    by_cases c3:i∈B.ids
    ·simp only[c3,if_true]at e1
     cases e1
     by_cases c2:j'=id
     ·simp only[c2,if_true]at e2
      cases e2
      exact absurd c3 h1i
     ·simp only[c2,if_false]at e2
      by_cases c4:j'∈B.ids
      ·simp only[c4,if_true]at e2
       cases e2
       rfl
      ·simp[c4]at e2
    ·simp[c3]at e1
def F5{X:Type}(ce:X->List D):I1 X:=⟨[],ce,fun _=>[],fun _=>rfl⟩
end
end Go.Gv

namespace Go.Gv
open Cod (enc dec)
structure qsS where
 v:Value
 v':Value
 t:Tbk
def qL(v v':Value)(t:Tbk):List D:=[.own 990 v, .v (.int .u64 t.fi.val), .v (.int .u64 t.la.val), .own 991 v', .v (.bool t.nul)]
def nw(v:Value)(l:List (List Rng)):Res:= .row v dN 1 (l.map enc)
def ny(v:Value)(l:List U64):Res:= .row v eF 1 (l.map enc)
def tbB:I1 qsS:=⟨[990,991],fun x=>qL x.v x.v' x.t,fun x=>[(990,nw x.v x.t.lvs),(991,ny x.v' x.t.fol)],fun _=>rfl⟩
section
variable {Y Z:Type}
def qbq(A:cM Z)(er:Y->D)(F:Tbk->Z->Option (Tbk×Y)):Spc:=qkG tbB A er (fun s z=>∃r,F s.t z=some r) (fun s z s' y=>F s.t z=some (s'.t,y))
def uO(H:ab)(id b:Nat)(v v':Value)(t:Tbk):ab:=ah (ah (ah H 991 (some (ny v' t.fol))) 990 (some (nw v t.lvs))) id (some (.box b (qL v v' t)))
def NZ(er:Y->D)(F:Tbk->Z->Option (Tbk×Y))(id b:Nat)(r r1 r2:Option Res)(o:Option Z)(H:ab)(K:D->ab->Prop):Prop:=
 ∃v v' t,r=some (.box b (qL v v' t))/\r1=some (nw v t.lvs)/\r2=some (ny v' t.fol)/\id≠990/\id≠991/\dx o fun z=>dx (F t z) fun q=>∀w w',K (er q.2) (uO H id b w w' q.1)
@[congr] theorem qln{er:Y->D}{F:Tbk->Z->Option (Tbk×Y)}{id b:Nat}{r r' r1 r1' r2 r2':Option Res}{o o':Option Z}{H:ab}{K:D->ab->Prop}(h1:r=r')(h2:r1=r1')(h3:r2=r2')(h4:o=o'):NZ er F id b r r1 r2 o H K=NZ er F id b r' r1' r2' o' H K:=by subst h1;subst h2;subst h3;subst h4;rfl
theorem Bm{X:Type}[Cod X]:∀ {l l':List X},l.map enc=l'.map enc->l=l'
 | [], [],_=>rfl
 | [],_::_,h=>by simp at h
 | _::_, [],h=>by simp at h
 | a::l,b::l',h=>by
   rw[qt7,qt7,qt5]at h
   rw[aL h.1,Bm h.2]
theorem Yp{v v':Value}{l l':List (List Rng)}(h:nw v l=nw v' l'):v=v'/\l=l':=by
 unfold nw at h
 injection h with h1 h2 h3 h4
 exact⟨h1,Bm h4⟩
theorem Yq{v v':Value}{l l':List U64}(h:ny v l=ny v' l'):v=v'/\l=l':=by
 unfold ny at h
 injection h with h1 h2 h3 h4
 exact⟨h1,Bm h4⟩
theorem Xu{b b':Nat}{v v' w w':Value}{t t':Tbk}(h:Res.box b (qL v v' t)=Res.box b' (qL w w' t'))(h1:nw v t.lvs=nw w t'.lvs)(h2:ny v' t.fol=ny w' t'.fol):b=b'/\v=w/\v'=w'/\t=t':=by
 obtain⟨e1,e2⟩:=Yp h1
 obtain⟨e3,e4⟩:=Yq h2
 obtain⟨hb,hc⟩:=Res.box.inj h
 simp only[qL,qt5,D.own.injEq,D.v.injEq,qvL,Value.bool.injEq,true_and,and_true]at hc
 obtain⟨_,⟨c1,c2,_,c3⟩⟩:=hc
 refine⟨hb,e1,e3,?_⟩
 obtain⟨a1,⟨a2⟩,⟨a3⟩,a4,a5⟩:=t
 obtain⟨b1,⟨b2⟩,⟨b3⟩,b4,b5⟩:=t'
 simp only at e2 e4 c1 c2 c3
 subst e2;subst e4;subst c1;subst c2;subst c3
 rfl
theorem Xv(x:qsS)(H:ab)(id b:Nat):ah (fE (tbB.hp x) H) id (some (.box b (tbB.ce x)))=uO H id b x.v x.v' x.t:=by
 rfl
theorem Q6(A:cM Z)(er:Y->D)(F:Tbk->Z->Option (Tbk×Y))(d i b:Nat)(ds:List D)(H:ab)(K:D->ab->Prop):(qbq A er F).pt d (.bptr i b 0::ds) H K=NZ er F i b (H i) (H 990) (H 991) (A.dec ds) H K:=by
 refine propext ⟨fun h=>?_,fun h=>?_⟩
 ·obtain⟨id,b',x,z,ds',h1,h2,h3,h4,h5,h6,h7⟩:=h
  cases h1
  simp only[tbB,qtM,quc,or_false,not_or]at h5
  refine⟨x.v,x.v',x.t,h3,h4 (990,nw x.v x.t.lvs) (by simp[tbB]),h4 (991,ny x.v' x.t.fol) (by simp[tbB]),h5.1,h5.2,?_⟩
  rw[h2]
  obtain⟨⟨t',y⟩,hr⟩:=h6
  show dx (F x.t z) _
  rw[hr]
  intro w w'
  have:=h7 ⟨w,w',t'⟩ y hr
  rwa [Xv]at this
 ·obtain⟨v,v',t,h1,h2,h3,h4,h5,h6⟩:=h
  cases hz:A.dec ds with
  | none=>rw[hz]at h6;exact h6.elim
  | some z=>
    rw[hz]at h6
    have h6:dx (F t z) fun q=>∀w w',K (er q.2) (uO H i b w w' q.1):=h6
    cases hF:F t z with
    | none=>rw[hF]at h6;exact h6.elim
    | some q=>
      rw[hF]at h6
      have h6:∀w w',K (er q.2) (uO H i b w w' q.1):=h6
      refine⟨i,b,⟨v,v',t⟩,z,ds,rfl,hz,h1,fun p hp=>?_,by simp[tbB,h4,h5],⟨q,hF⟩,fun x' y hq=>?_⟩
      ·simp only[tbB,qtM,quc,or_false]at hp
       rcases hp with rfl|rfl
       ·exact h2
       ·exact h3
      ·have hq:F t z=some (x'.t,y):=hq
       rw[hF]at hq
       cases hq
       rw[Xv]
       exact h6 x'.v x'.v'
theorem qcW(A:cM Z)(er:Y->D)(F:Tbk->Z->Option (Tbk×Y))(b:Nat)(ds:List D):qdY 0 (qbq A er F).pt (.bptr 0 b 0::ds):=by
 refine⟨fun R=>NZ er F 0 b (R 0) (R 990) (R 991) (A.dec ds) R fun _ _=>True,fun R d u=>∃v v' t z q w w',R 0=some (.box b (qL v v' t))/\R 990=some (nw v t.lvs)/\R 991=some (ny v' t.fol)/\A.dec ds=some z/\F t z=some q/\d=er q.2/\u=[(0, .box b (qL w w' q.1)),(990,nw w q.1.lvs),(991,ny w' q.1.fol)],fun t H K=>?_⟩
 rw[Q6]
 have r0:pF H (some 0) 0=H 0:=by simp only[pF];exact if_pos rfl
 have r1:pF H (some 0) 990=H 990:=by simp only[pF];exact if_pos rfl
 have r2:pF H (some 0) 991=H 991:=by simp only[pF];exact if_pos rfl
 show _↔NZ er F 0 b (pF H (some 0) 0) (pF H (some 0) 990) (pF H (some 0) 991) (A.dec ds) (pF H (some 0)) (fun _ _=>True)/\∀d u,(∃v v' t z q w w',pF H (some 0) 0=some (.box b (qL v v' t))/\pF H (some 0) 990=some (nw v t.lvs)/\pF H (some 0) 991=some (ny v' t.fol)/\A.dec ds=some z/\F t z=some q/\d=er q.2/\u=[(0, .box b (qL w w' q.1)),(990,nw w q.1.lvs),(991,ny w' q.1.fol)])->K d (fD H (some 0) u)
 rw[r0,r1,r2]
 have hp:∀ (w w':Value) (q:Tbk),fD H (some 0) [(0, .box b (qL w w' q)),(990,nw w q.lvs),(991,ny w' q.fol)]=uO H 0 b w w' q:=fun w w' q=>by
  funext i
  simp only[fD,uO,ah]
  by_cases h0:i=0
  ·subst h0;rfl
  ·by_cases h1:i=990
   ·subst h1;rfl
   ·by_cases h2:i=991
    ·subst h2;rfl
    ·have e:([(0, .box b (qL w w' q)),(990,nw w q.lvs),(991,ny w' q.fol)]:List (Nat×Res)).lookup i=none:=by
      have e0:(i==0)=false:=by simp[h0]
      have e1:(i==990)=false:=by simp[h1]
      have e2:(i==991)=false:=by simp[h2]
      simp only[List.lookup,e0,e1,e2]
     rw[e,if_neg h0,if_neg h1,if_neg h2]
     split <;> rfl
 constructor
 ·rintro⟨v,v',t,h1,h2,h3,h4,h5,h6⟩
  cases hz:A.dec ds with
  | none=>rw[hz]at h6;exact h6.elim
  | some z=>
    rw[hz]at h6
    have h6:dx (F t z) fun q=>∀w w',K (er q.2) (uO H 0 b w w' q.1):=h6
    cases hF:F t z with
    | none=>rw[hF]at h6;exact h6.elim
    | some q=>
      rw[hF]at h6
      have h6:∀w w',K (er q.2) (uO H 0 b w w' q.1):=h6
      refine⟨⟨v,v',t,h1,h2,h3,h4,h5,?_⟩,?_⟩
      ·show dx (F t z) _
       rw[hF]
       exact fun _ _=>trivial
      ·rintro d u ⟨v1,v1',t1,z1,q1,w,w',g1,g2,g3,g4,g5,rfl,rfl⟩
       rw[h1]at g1;rw[h2]at g2;rw[h3]at g3
       obtain⟨_,_,_,rfl⟩:=Xu (qtV g1) (qtV g2) (qtV g3)
       cases g4
       rw[hF]at g5
       cases g5
       rw[hp]
       exact h6 w w'
 ·rintro⟨⟨v,v',t,h1,h2,h3,h4,h5,h6⟩,h7⟩
  refine⟨v,v',t,h1,h2,h3,h4,h5,?_⟩
  cases hz:A.dec ds with
  | none=>rw[hz]at h6;exact h6.elim
  | some z=>
    rw[hz]at h6
    have h6:dx (F t z) fun q=>∀w w':Value,True:=h6
    show dx (F t z) _
    cases hF:F t z with
    | none=>rw[hF]at h6;exact h6.elim
    | some q=>
      intro w w'
      have:=h7 (er q.2) _ ⟨v,v',t,z,q,w,w',h1,h2,h3,hz,hF,rfl,rfl⟩
      rwa [hp]at this
theorem YF(A:cM Z)(er:Y->D)(F:Tbk->Z->Option (Tbk×Y))(b:Nat)(dst:Option Nat)(ds:List D)(H:ab)(K:D->ab->Prop):Hs 0 dst (qbq A er F) (.bptr 0 b 0::ds) H K=NZ er F 0 b (H 0) (H 990) (H 991) (A.dec ds) H K:=by
 rw[<-Q6 A er F (dst.getD 0)]
 exact propext ⟨fun h=>h.2,fun h=>⟨qcW A er F b ds,h⟩⟩
theorem qfr(er:Y->D)(F:Tbk->Z->Option (Tbk×Y))(id b:Nat)(v v':Value)(f l:Int)(n:Bool)(lv:List (List Rng))(fo:List U64)(o:Option Z)(H:ab)(K:D->ab->Prop):
 NZ er F id b (some (.box b [.own 990 v, .v (.int .u64 f), .v (.int .u64 l), .own 991 v', .v (.bool n)])) (some (.row v dN 1 (lv.map enc))) (some (.row v' eF 1 (fo.map enc))) o H K=(id≠990/\id≠991/\dx o fun z=>dx (F ⟨lv,⟨f⟩,⟨l⟩,fo,n⟩ z) fun q=>∀w w',K (er q.2) (uO H id b w w' q.1)):=by
 refine propext ⟨fun⟨w,w',t,h1,h2,h3,h4,h5,h6⟩=>⟨h4,h5,?_⟩,fun h=>⟨v,v',⟨lv,⟨f⟩,⟨l⟩,fo,n⟩,rfl,rfl,rfl,h.1,h.2.1,h.2.2⟩⟩
 obtain⟨_,_,_,e⟩:=Xu (t:=⟨lv,⟨f⟩,⟨l⟩,fo,n⟩) (t':=t) (b:=b) (b':=b) (qtV h1) (qtV h2) (qtV h3)
 subst e
 exact h6
def QF(er:Y->D)(b:Nat)(post:Tbk->Y->Prop)(r:D)(H:ab):Prop:=Lp tbB er b (fun s y=>post s.t y) r H
theorem qew{er:Y->D}{b:Nat}{post:Tbk->Y->Prop}{r:D}{H:ab}(v v':Value)(t:Tbk)(y:Y)(hr:FrzTo (fun i=>if i=0\/i=990\/i=991 then none else H i) r (er y))(h0:H 0=some (.box b (qL v v' t)))(h1:H 990=some (nw v t.lvs))(h2:H 991=some (ny v' t.fol))(hq:post t y):QF er b post r H:=
 ⟨⟨v,v',t⟩,y,by simpa [tbB]using hr,h0,fun p hp=>by
  simp only[tbB,qtM,quc,or_false]at hp
  rcases hp with rfl|rfl
  ·exact h1
  ·exact h2,hq⟩
def EP(cc:CC)(rs:List aj)(S:Nat->Spc)(A:cM Z)(er:Y->D)(F:Tbk->Z->Option (Tbk×Y)):Prop:=
 ∀b v v' t z r,F t z=some r->vc S cc (rG rs fun d H'=>QF er b (fun t' y=>r=(t',y)) d H') (cR (.bptr 0 b 0::A.view z)) (uO bB 0 b v v' t)
variable {P:Program}{S:Nat->Spc}{f:Nat}{im:List Nat}{cc:CC}{rs:List aj}{N:Nat}
theorem qZ{A:cM Z}{er:Y->D}{F:Tbk->Z->Option (Tbk×Y)}(hS:∀f,Tri P f (S f).pt)(h:am P f im cc rs N)(hN:∀z,(A.view z).length+1<=N)(hw:EP cc rs S A er F):Tri P f (qbq A er F).pt:=
 vt (by simp[tbB]) hS h hN fun b x z hp=>by
  obtain⟨r,hr⟩:=hp
  rw[Xv]
  have:=hw b x.v x.v' x.t z r hr
  have e:(fun(d:D) (H':ab)=>Lp tbB er b (fun s' y=>F x.t z=some (s'.t,y)) d H')=fun d H'=>QF er b (fun t' y=>r=(t',y)) d H':=by
   funext d H'
   unfold QF
   congr 1
   funext s' y
   rw[hr]
   exact propext ⟨fun h=>qtV h,fun h=>congrArg some h⟩
  rw[e]
  exact this
end
@[simp] theorem qnS(m:U64)(i:Nat):decide (So .u64 (XI .u64 m.val i) 1=1)=WI m i:=id rfl
end Go.Gv

namespace Go.Gv
open Go.Proofs
def wN:CC:=gq Tryz.f317 [1,2024006,2022006,2020006] { cu:=[1,4],kz:=[990,991] } _
def vL:List aj:=[.tmp 2]
theorem Mx:am Tryz.prog yW [1,2024006,2022006,2020006] wN vL 26:=fo
def iY:CC:=gq Tryz.f355 [] { bx:=[0],kz:=[990,991] } _
def iA:List aj:=[]
theorem yu:am Tryz.prog fl [] iY iA 31:=fo
def gh:CC:=gq Tryz.f341 [4,5] { ke:=[0],kz:=[990,991] } _
def fP:List aj:=[.cell 6 true 3]
theorem vU:am Tryz.prog cT [4,5] gh fP 42:=fo
def cb:CC:=gq Tryz.f331 [3,3060000,1031990,2033000,2006006] { bx:=[0],kz:=[990,991] } _
def bY:List aj:=[.cell 4 true 3]
theorem xE:am Tryz.prog cx [3,3060000,1031990,2033000,2006006] cb bY 98:=fo
def gg:CC:=gq Tryz.f342 [3,3095000,2005005] { bx:=[0],kz:=[990,991] } _
def fO:List aj:=[.cell 4 true 3]
theorem vT:am Tryz.prog gT [3,3095000,2005005] gg fO 98:=fo
def ck:CC:=gq Tryz.f356 [4,3035000,3036000,2009009] { bx:=[0],kz:=[990,991] } _
def cg:List aj:=[.cell 6 true 3]
theorem tQ:am Tryz.prog dI [4,3035000,3036000,2009009] ck cg 39:=fo
def eX:CC:=gq Tryz.f318 [] { ke:=[0],kz:=[990,991] } _
def eO:List aj:=[.tmp 6]
theorem yv:am Tryz.prog jM [] eX eO 35:=fo
end Go.Gv

namespace Go.Gv
open Cod (enc dec)
variable {S S0:Nat->Spc}
@[simp] theorem qm0(t:Tbk):Tbk.mk t.lvs t.fi t.la t.fol t.nul=t:=id rfl
abbrev L0:Spc:=qbq (a2 U64 U64) TN C1
theorem Ts(fr to:U64):∀ (l:List U64) (i:Nat),(Tt fr to i l).length=l.length
 | [],_=>rfl
 | f::l,i=>by rw[Tt,quy,quy,Ts fr to l (i+1)]
theorem O4{fr to f:U64} :∀ {l:List U64} {i k:Nat},l[k]? =some f->Tt fr to i (l.take k) ++ (if WI fr (i+k)=true then qcm f to else f)::l.drop (k+1)=Tt fr to i (l.take (k+1)) ++l.drop (k+1)
 | [],i,k,h=>by simp at h
 | g::l,i,0,h=>by
   simp at h
   subst h
   simp[Tt]
 | g::l,i,k+1,h=>by
   simp at h
   have:=O4 (fr:=fr) (to:=to) (i:=i+1) h
   rw[show i+1+k=i+ (k+1) by omega]at this
   simp only[qwc,Tt,quv,qv7]
   rw[this]
theorem qfa:EP iY iA S (a2 U64 U64) TN C1:=by
 rintro b v v' ⟨lv,fi,la,fo,nu⟩ ⟨fr,to⟩ r hF
 unfold C1 at hF
 simp only at hF
 split at hF
 ·rename_i hlen
  cases hF
  have hl:(fo.length:Int)<=9223372036854775807:=by omega
  simp[iY,iA,uO,nw,ny,qL,hl, -Bool.forall_bool, -Bool.exists_bool]
  refine ai (X:=List U64) [0,1,2] [] fo.length (fun k x=>x=Tt fr to 0 (fo.take k) ++fo.drop k) (fun x=>[]) (fun x=>[(0, .box b [.own 990 v, .v (.int .u64 fi.val), .v (.int .u64 la.val), .own 991 v', .v (.bool nu)]),(990, .row v dN 1 (lv.map enc)),(991, .row v' eF 1 (x.map enc))]) fo (by simp) (by simp) (by omega) (by simp) (by simp) (by simp[Tt]) (by simp) (by simp) ?_ ?_
  ·rintro k x hk hx
   obtain⟨f,hf⟩:∃f,fo[k]? =some f:=⟨_,qtH hk⟩
   have hll:(Tt fr to 0 (fo.take k)).length=k:=by rw[Ts,qug];omega
   have hxl:x.length=fo.length:=by rw[hx,qt4,hll,quF];omega
   have hxk:x[k]? =some f:=by
    rw[hx,qtQ (by omega),hll,qvh,quk]
    simpa using hf
   have hdr:x.drop (k+1)=fo.drop (k+1):=by
    rw[hx,List.drop_append,hll,List.drop_drop,quG (by rw[hll];omega)]
    simp
   have htk:x.take k=Tt fr to 0 (fo.take k):=by
    rw[hx,List.take_append,hll,qvh,qvn,quE,qvk (by rw[hll];omega)]
   have hset:∀g,x.set k g=Tt fr to 0 (fo.take k) ++g::fo.drop (k+1):=fun g=>by
    rw[qvG,if_pos (by omega),htk,hdr]
   have hst:=O4 (fr:=fr) (to:=to) (i:=0) hf
   rw[quu,<-hset]at hst
   have hkx:k < x.length:=by omega
   obtain⟨_,hgx⟩:=qtG.1 hxk
   simp[hkx,hxk,hgx,hk,hxl, -Bool.forall_bool, -Bool.exists_bool]
   refine⟨fun hb=>?_,fun hb=>?_⟩
   ·rw[if_pos hb]at hst
    left
    rw[<-List.map_drop,<-qu9,<-hst,qvS]
    rfl
   ·rw[if_neg (by simp[hb])]at hst
    rw[show x.set k f=x from by rw[<-hgx];exact List.set_getElem_self _]at hst
    exact .inl hst
  ·rintro x hx
   rw[quj,quH,quE]at hx
   subst hx
   simp[-Bool.forall_bool, -Bool.exists_bool]
   exact qew (er:=TN) (y:=()) v v' ⟨lv,fi,la,Tt fr to 0 fo,nu⟩ (.same _) rfl rfl rfl rfl
 ·cases hF
attribute [simp] Q6 YF
@[simp] theorem qlm{Y Z:Type}(er:Y->D)(F:Tbk->Z->Option (Tbk×Y))(id b:Nat)(v v':Value)(f l:Int)(n:Bool)(lv:List (List Rng))(fo:List U64)(o:Option Z)(H:ab)(K:D->ab->Prop):
 NZ er F id b (some (.box b [.own 990 v, .v (.int .u64 f), .v (.int .u64 l), .own 991 v', .v (.bool n)])) (some (.row v dN 1 (lv.map enc))) (some (.row v' eF 1 (fo.map enc))) o H K=(id≠990/\id≠991/\dx o fun z=>dx (F ⟨lv,⟨f⟩,⟨l⟩,fo,n⟩ z) fun q=>∀w w',K (er q.2) (ah (ah (ah H 991 (some (.row w' eF 1 (q.1.fol.map enc)))) 990 (some (.row w dN 1 (q.1.lvs.map enc)))) id (some (.box b [.own 990 w, .v (.int .u64 q.1.fi.val), .v (.int .u64 q.1.la.val), .own 991 w', .v (.bool q.1.nul)])))):=qfr er F id b v v' f l n lv fo o H K
abbrev Ga:Spc:=qbq (a2 Prt Prt) (enc (X:=Prt)) xi
theorem uX{b:Nat}{post:Tbk->Prt->Prop}{d:D}{H:ab}(v v':Value)(t:Tbk)(y:Prt)(hd:d=enc y)(h0:H 0=some (.box b (qL v v' t)))(h1:H 990=some (nw v t.lvs))(h2:H 991=some (ny v' t.fol))(hq:post t y):QF enc b post d H:=
 qew (er:=enc) (y:=y) v v' t (by rw[hd];exact .same _) h0 h1 h2 hq
theorem Xg(h1:S fl=L0):EP gh fP S (a2 Prt Prt) (enc (X:=Prt)) xi:=by
 rintro b v v' ⟨lv,fi,la,fo,nu⟩ ⟨⟨af,al,an⟩,⟨bf,bl,bn⟩⟩ r hF
 unfold xi at hF
 simp only at hF
 obtain⟨q,hl,rfl⟩:=qtR.1 hF
 cases an <;> cases bn <;> simp[gh,fP,uO,nw,ny,qL,h1,hl, -Bool.forall_bool, -Bool.exists_bool] <;> intro b1 w w' <;> exact uX w w' q.1 _ rfl rfl rfl rfl ⟨rfl,rfl⟩
theorem YV{set f:U64}{l:List U64}{k:Nat}(h:l[k]? =some f)(m:U64):qeo set k (l.drop k) m=qeo set (k+1) (l.drop (k+1)) (if WI set k=true then qcm m f else m):=by
 obtain⟨h1,h2⟩:=qtG.1 h
 rw[quh h1,h2,qeo]
end Go.Gv

namespace Go.Gv
open Cod (enc dec)
variable {S S0:Nat->Spc}
abbrev G5(n:Nat):Spc:=qbq (a1 Rx) (enc (X:=Prt)) (BJ n).b
abbrev XV(n:Nat):Spc:=qbq (a1 Rx) (enc (X:=Prt)) (BJ n).r
abbrev Re(n:Nat):Spc:=qbq (a2 Rx Int) (enc (X:=Prt)) (BJ n).o
theorem Nk{X:Type}{l:List X}{k:Nat}(h:k < l.length):∃x,l[k]? =some x:=⟨_,qtH h⟩
theorem rV{X:Type}{l:List X}{k:Nat}{x:X}(h:l[k]? =some x):l.drop k=x::l.drop (k+1):=by
 obtain⟨h1,h2⟩:=qtG.1 h
 rw[quh h1,h2]
set_option maxHeartbeats 1000000 in
theorem qbN(n:Nat)(h1:S cx=G5 n)(h2:S gT=XV n)(h3:S cT=Ga):EP cb bY S (a1 Rx) (enc (X:=Prt)) (BJ (n+1)).b:=by
 rintro b v v' t ⟨op,mn,mx,rs,ks⟩ r hF
 replace hF:qg7 (BJ n).b (BJ n).r t ⟨op,mn,mx,rs,ks⟩=some r:=hF
 unfold qg7 at hF
 simp only at hF
 split at hF
 ·cases hF
 rename_i hok
 have hok1:t.lvs.length<=1000/\t.fol.length<=1000:=by
  cases hb:My t with
  | true=>exact of_decide_eq_true hb
  | false=>exact absurd (.inl hb) hok
 have hkl:ks.length<=1000:=by
  have:¬1000 < ks.length:=fun h=>hok (.inr h)
  omega
 obtain⟨hlv,hfo⟩:=hok1
 have hkl':(ks.length:Int)<=9223372036854775807:=by omega
 have hlv':(t.lvs.length:Int)<=9223372036854775807:=by omega
 split at hF
 ·rename_i e
  subst e
  obtain rfl:=qtV hF
  simp[cb,bY,uO,nw,ny,qL,hlv', -Bool.forall_bool, -Bool.exists_bool]
  refine fun b1=>⟨by omega,by omega,fun w=>⟨by omega,by omega,fun w'=>?_⟩⟩
  exact uX w w' ⟨t.lvs++ [rs],t.fi,t.la,t.fol++ [⟨0⟩],t.nul⟩ ⟨⟨Oi .u64 1 t.lvs.length⟩,⟨Oi .u64 1 t.lvs.length⟩,false⟩ rfl rfl (by simp[nw,ah]) (by simp[ny,ah]) ⟨rfl,rfl⟩
 rename_i e1
 split at hF
 ·rename_i e
  subst e
  simp[cb,bY,uO,nw,ny,qL,hkl', -Bool.forall_bool, -Bool.exists_bool]
  intro b4 b6
  refine ai (X:=Tbk×Prt×Value×Value) [0,4,6,50] [4] ks.length (fun k x=>qkn (BJ n).b (ks.drop k) x.1 x.2.1=some r) (fun x=>[]) (fun x=>[(0, .box b [.own 990 x.2.2.1, .v (.int .u64 x.1.fi.val), .v (.int .u64 x.1.la.val), .own 991 x.2.2.2, .v (.bool x.1.nul)]),(990, .row x.2.2.1 dN 1 (x.1.lvs.map enc)),(991, .row x.2.2.2 eF 1 (x.1.fol.map enc)),(6, .box b6 [.v (.int .u64 x.2.1.first.val), .v (.int .u64 x.2.1.last.val), .v (.bool x.2.1.nul)])]) (t,Bg,v,v') (by simp) (by simp) (by omega) (by simp) (by simp) (by simpa using hF) (by simp) (by simp[Bg]) ?_ ?_
  ·rintro k ⟨t,p,w,w'⟩ hk hx
   obtain⟨y,hy⟩:=Nk hk
   obtain⟨_,hgy⟩:=qtG.1 hy
   rw[rV hy,qkn]at hx
   obtain⟨q,hq,hx⟩:=qtE.1 hx
   obtain⟨c,hc,hx⟩:=qtE.1 hx
   simp[hk,hy,hgy,h1,h3,hq,hc, -Bool.forall_bool, -Bool.exists_bool]
   exact fun u u'=>⟨c.1,c.2,hx,u,u', .inl ⟨rfl,rfl,rfl,rfl,rfl⟩, .inl ⟨rfl,rfl⟩, .inl ⟨rfl,rfl⟩, .inl ⟨rfl,rfl,rfl⟩⟩
  ·rintro⟨t,p,w,w'⟩ hx
   rw[quH,qkn]at hx
   obtain rfl:=qtV hx
   simp[-Bool.forall_bool, -Bool.exists_bool]
   exact uX w w' t p rfl rfl rfl rfl ⟨rfl,rfl⟩
 rename_i e2
 split at hF
 ·rename_i e
  subst e
  simp[cb,bY,uO,nw,ny,qL,hkl', -Bool.forall_bool, -Bool.exists_bool]
  intro b4 b9
  refine ai (X:=Tbk×Prt×Value×Value) [0,4,9,67] [4] ks.length (fun k x=>WS (BJ n).b (ks.drop k) x.1 x.2.1=some r) (fun x=>[]) (fun x=>[(0, .box b [.own 990 x.2.2.1, .v (.int .u64 x.1.fi.val), .v (.int .u64 x.1.la.val), .own 991 x.2.2.2, .v (.bool x.1.nul)]),(990, .row x.2.2.1 dN 1 (x.1.lvs.map enc)),(991, .row x.2.2.2 eF 1 (x.1.fol.map enc)),(9, .box b9 [.v (.int .u64 x.2.1.first.val), .v (.int .u64 x.2.1.last.val), .v (.bool x.2.1.nul)])]) (t,qo7,v,v') (by simp) (by simp) (by omega) (by simp) (by simp) (by simpa using hF) (by simp) (by simp[qo7]) ?_ ?_
  ·rintro k ⟨t,p,w,w'⟩ hk hx
   obtain⟨y,hy⟩:=Nk hk
   obtain⟨_,hgy⟩:=qtG.1 hy
   rw[rV hy,WS]at hx
   obtain⟨q,hq,hx⟩:=qtE.1 hx
   simp[hk,hy,hgy,h1,hq, -Bool.forall_bool, -Bool.exists_bool]
   refine fun u u'=>⟨fun hn=>⟨q.1,_,hx,u,u', .inl ⟨rfl,rfl,rfl,rfl,rfl⟩, .inl ⟨rfl,rfl⟩, .inl ⟨rfl,rfl⟩, .inl ⟨rfl,rfl,by simp[hn]⟩⟩,fun hn=>⟨q.1,_,hx,u,u', .inl ⟨rfl,rfl,rfl,rfl,rfl⟩, .inl ⟨rfl,rfl⟩, .inl ⟨rfl,rfl⟩, .inl ⟨rfl,rfl,by simp[hn]⟩⟩⟩
  ·rintro⟨t,p,w,w'⟩ hx
   rw[quH,WS]at hx
   obtain rfl:=qtV hx
   simp[-Bool.forall_bool, -Bool.exists_bool]
   exact uX w w' t p rfl rfl rfl rfl ⟨rfl,rfl⟩
 rename_i e3
 simp[cb,bY,uO,nw,ny,qL,h2,e1,e2,e3,hF, -Bool.forall_bool, -Bool.exists_bool]
 intro b1 w w'
 exact uX w w' r.1 r.2 rfl rfl rfl rfl rfl
end Go.Gv

namespace Go.Gv
open Cod (enc dec)
variable {S S0:Nat->Spc}
theorem uR{t:Tbk}(h:My t≠false):t.lvs.length<=1000/\t.fol.length<=1000:=by
 cases hb:My t with
 | true=>exact of_decide_eq_true hb
 | false=>exact absurd hb h
set_option maxHeartbeats 1000000 in
theorem QL(n:Nat)(h1:S cx=G5 n)(h2:S dI=Re n)(h3:S cT=Ga):EP ck cg S (a2 Rx Int) (enc (X:=Prt)) (BJ (n+1)).o:=by
 rintro b v v' t ⟨y,m⟩ r hF
 replace hF:qfW (BJ n).b (BJ n).o t ⟨y,m⟩=some r:=hF
 unfold qfW at hF
 simp only at hF
 split at hF
 ·cases hF
 rename_i hok
 have hok1:=uR fun h=>hok (.inr (.inr h))
 have hm0:0<=m:=by have:¬m < 0:=fun h=>hok (.inl h);omega
 have hm1:m<=100:=by have:¬100 < m:=fun h=>hok (.inr (.inl h));omega
 obtain⟨hlv,hfo⟩:=hok1
 have hlv':(t.lvs.length:Int)<=9223372036854775807:=by omega
 split at hF
 ·rename_i e
  subst e
  obtain rfl:=qtV hF
  simp[ck,cg,uO,nw,ny,qL, -Bool.forall_bool, -Bool.exists_bool]
  intro b1
  exact uX v v' t Bg rfl rfl rfl rfl ⟨rfl,rfl⟩
 rename_i e0
 obtain⟨q,hq,hF⟩:=qtE.1 hF
 split at hF
 ·cases hF
 rename_i hok2
 have hok3:=uR hok2
 obtain⟨hlq,hfq⟩:=hok3
 have hlq':(q.1.lvs.length:Int)<=9223372036854775807:=by omega
 split at hF
 ·rename_i e
  obtain rfl:=qtV hF
  have e':(q.1.lvs.length:Int)=t.lvs.length:=by omega
  simp[ck,cg,uO,nw,ny,qL,h1,hq,e0,hlv',hlq',e,e', -Bool.forall_bool, -Bool.exists_bool]
  intro b1 w w'
  exact uX w w' q.1 Bg rfl rfl rfl rfl ⟨rfl,rfl⟩
 rename_i e
 obtain⟨c,hc,hF⟩:=qtE.1 hF
 obtain⟨l,hl,hF⟩:=qtR.1 hF
 subst hF
 have e':¬ (q.1.lvs.length:Int)=t.lvs.length:=by omega
 have hin:InR .i64 (m -1):=by simp only[InR];omega
 simp[ck,cg,uO,nw,ny,qL,h1,h2,h3,hq,hc,hl,e0,hlv',hlq',e,e',hin, -Bool.forall_bool, -Bool.exists_bool]
 exact fun b1 w w'=>uX w w' l.1 _ rfl rfl rfl rfl ⟨rfl,rfl⟩
end Go.Gv
