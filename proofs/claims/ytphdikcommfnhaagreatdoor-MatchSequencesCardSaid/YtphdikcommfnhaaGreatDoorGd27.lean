/- A part of the framework and of the walks: T22 T33 C55 W140 W141 W142. -/
import Derived.Test.YtphdikcommfnhaaGreatDoorGd25
import Derived.Test.YtphdikcommfnhaaGreatDoorGd21
import Derived.Test.YtphdikcommfnhaaGreatDoorGd26
import Derived.Test.YtphdikcommfnhaaGreatDoorGd20
set_option linter.unusedSimpArgs false
set_option linter.unusedVariables false
set_option linter.unusedSectionVars false
set_option maxRecDepth 100000
set_option maxHeartbeats 0

namespace Go.Gv
open Cod (enc dec)
section
variable {X Y:Type}[Cod X][Cod Y]
def qp8(pre:X->List Y->Prop)(post:X->List Y->List Y->Prop)(el n:Nat):PT:=fun d ds H K=>∃id v l a x,ds=[a, .own id v]/\dec a=some x/\H id=some (.row v el n (l.map enc))/\pre x l/\
 ∀v' l',post x l l'->K (.own id v') (ah H id (some (.row v' el n (l'.map enc))))
theorem qdu(pre:X->List Y->Prop)(post:X->List Y->List Y->Prop)(el n:Nat):pD (qp8 pre post el n):=fun d ds H K K' hk ⟨id,v,l,a,x,h1,h2,h3,h4,h5⟩=>⟨id,v,l,a,x,h1,h2,h3,h4,fun v' l' hp=>hk _ _ (h5 v' l' hp)⟩
def qid(pre:X->List Y->Prop)(post:X->List Y->List Y->Prop)(el n:Nat):Spc:= .gen _ (qdu pre post el n)
def qmX(pre:X->List Y->Prop)(post:X->List Y->List Y->Prop)(el n id:Nat)(v:Value)(o:Option X)(r:Option Res)(H:ab)(K:D->ab->Prop):Prop:=∃l,r=some (.row v el n (l.map enc))/\dK o fun x=>pre x l/\∀v' l',post x l l'->K (.own id v') (ah H id (some (.row v' el n (l'.map enc))))
@[congr] theorem qp7{pre:X->List Y->Prop}{post:X->List Y->List Y->Prop}{el n id:Nat}{v:Value}{o o':Option X}{r r':Option Res}{H:ab}{K:D->ab->Prop}(h1:o=o')(h2:r=r'):qmX pre post el n id v o r H K=qmX pre post el n id v o' r' H K:=by subst h1;subst h2;rfl
@[simp] theorem qp9(pre:X->List Y->Prop)(post:X->List Y->List Y->Prop)(el n:Nat)(d i:Nat)(a:D)(v:Value)(H:ab)(K:D->ab->Prop):(qid pre post el n).pt d [a, .own i v] H K=qmX pre post el n i v (dec a) (H i) H K:=by
 refine propext ⟨fun h=>?_,fun h=>?_⟩
 ·obtain⟨id,v,l,a,x,h1,h2,h3,h4,h5⟩:=h
  cases h1
  refine⟨l,h3,?_⟩
  rw[h2]
  exact⟨h4,h5⟩
 ·obtain⟨l,h1,h2⟩:=h
  cases hd:dec (X:=X) a with
  | none=>rw[hd]at h2;exact h2.elim
  | some x=>rw[hd]at h2;exact⟨i,v,l,a,x,rfl,hd,h1,h2.1,h2.2⟩
@[simp] theorem qsB(pre:X->List Y->Prop)(post:X->List Y->List Y->Prop)(el n id:Nat)(v:Value)(o:Option X)(l:List Y)(H:ab)(K:D->ab->Prop):qmX pre post el n id v o (some (.row v el n (l.map enc))) H K=dK o fun x=>pre x l/\∀v' l',post x l l'->K (.own id v') (ah H id (some (.row v' el n (l'.map enc)))):=by
 refine propext ⟨fun⟨l',h1,h2⟩=>?_,fun h=>⟨l,rfl,h⟩⟩
 simp at h1
 subst h1
 exact h2
def TQ(cc:CC)(rs:List ak)(S:Nat->Spc)(pre:X->List Y->Prop)(post:X->List Y->List Y->Prop)(el n:Nat):Prop:=
 ∀v l x,pre x l->vc S cc (sR rs fun r H'=>qeq el n (post x l) r H') (dj [enc x, .own 1 v]) (ah bY 1 (some (.row v el n (l.map enc))))
variable {P:Program}{S:Nat->Spc}{f:Nat}{im:List Nat}{cc:CC}{rs:List ak}{N:Nat}{el n:Nat}
theorem HC{pre:X->List Y->Prop}{post:X->List Y->List Y->Prop}(hS:∀f,Tri P f (S f).pt)(h:aq P f im cc rs N)(hN:2<=N)(hw:TQ cc rs S pre post el n):Tri P f (qid pre post el n).pt:=by
 obtain⟨uV,enter,fn,code,h1,h2,h3,h4,h5⟩:=h
 refine mr hS uV h1 h2 enter h3 h4 h5 ?_
 rintro ds H d K ⟨id,v,l,a,x,rfl,hd,hid,hp,hK⟩
 have hl:=Cod.le _ _ hd
 refine⟨hN, [enc x, .own 1 v],ah bY 1 (some (.row v el n (l.map enc))),fun _=>id, .cons hl (.cons (.own _ _ _) .nil),fun i r h=>?_,fun i j r s h h' _=>?_,_,hw v l x hp,?_⟩
 ·by_cases e:i=1
  ·subst e
   simp only[ah,if_true]at h
   cases h
   exact hid
  ·simp[ah,e]at h
 ·have a:i=1:=by
   by_cases e:i=1
   ·exact e
   ·simp[ah,e]at h
  have b:j=1:=by
   by_cases e:j=1
   ·exact e
   ·simp[ah,e]at h'
  exact a.trans b.symm
 ·rintro r H' ⟨j,v',l',rfl,hj,hpost⟩
  refine⟨.own id v',bY,ah H id (some (.row v' el n (l'.map enc))),fun i=>if i=id then some j else none, .own _ _ _,fun j q h=>by simp at h,hK v' l' hpost,fun i s hi=>?_,fun i j' k s q hi hj' e1 e2=>?_⟩
  ·by_cases e:i=id
   ·subst e
    simp only[ah,if_true]at hi
    cases hi
    simpa using hj
   ·simp only[ah,e,if_false]at hi ⊢
    exact⟨hi,fun k q h he=>e he.symm⟩
  ·have a:i=id:=by
    by_cases e:i=id
    ·exact e
    ·simp[e]at e1
   have b:j'=id:=by
    by_cases e:j'=id
    ·exact e
    ·simp[e]at e2
   exact a.trans b.symm
end
section
variable {X Y Z:Type}
structure J6 (X:Type) where
 ids:List Nat
 ce:X->List D
 hp:X->List (Nat×Res)
 keys:∀x,(hp x).map (·.1)=ids
theorem Q8:∀ {l:List (Nat×Res)} {i:Nat} {s:Res},gk l bY i=some s->(i,s) ∈l
 | [],i,s,h=>by simp[gk,bY]at h
 | (j,r)::l,i,s,h=>by
  simp only[gk,ah]at h
  by_cases e:i=j
  ·subst e
   simp only[if_true]at h
   cases h
   simp
  ·simp only[e,if_false]at h
   exact qvJ _ (Q8 h)
theorem Q9:∀ {l:List (Nat×Res)} {H:ab} {i:Nat} {s:Res},i∈l.map (·.1)->gk l H i=some s->(i,s) ∈l
 | (j,r)::l,H,i,s,hi,h=>by
  simp only[gk,ah]at h
  by_cases e:i=j
  ·subst e
   simp only[if_true]at h
   cases h
   simp
  ·simp only[e,if_false]at h
   simp[e]at hi
   refine qvJ _ (Q9 (H:=H) ?_ h)
   simpa using hi
theorem Q7:∀ {l:List (Nat×Res)} {H:ab} {i:Nat},i∉l.map (·.1)->gk l H i=H i
 | [],H,i,_=>rfl
 | (j,r)::l,H,i,hi=>by
  simp only[qun,qt1,not_or]at hi
  simp only[gk,ah,hi.1,if_false]
  exact Q7 hi.2
def qri(B:J6 X)(A:df Z)(er:Y->D)(pre:X->Z->Prop)(post:X->Z->X->Y->Prop):PT:=fun d ds H K=>∃id b x z ds',ds= .bptr id b 0::ds'/\A.dec ds'=some z/\H id=some (.box b (B.ce x))/\(∀p∈B.hp x,H p.1=some p.2)/\id∉B.ids/\pre x z/\
 ∀x' y,post x z x' y->K (er y) (ah (gk (B.hp x') H) id (some (.box b (B.ce x'))))
theorem qd9(B:J6 X)(A:df Z)(er:Y->D)(pre:X->Z->Prop)(post:X->Z->X->Y->Prop):pD (qri B A er pre post):=fun d ds H K K' hk ⟨id,b,x,z,ds',h1,h2,h3,h4,h5,h6,h7⟩=>⟨id,b,x,z,ds',h1,h2,h3,h4,h5,h6,fun x' y hp=>hk _ _ (h7 x' y hp)⟩
def qkS(B:J6 X)(A:df Z)(er:Y->D)(pre:X->Z->Prop)(post:X->Z->X->Y->Prop):Spc:= .gen _ (qd9 B A er pre post)
def L8(B:J6 X)(er:Y->D)(b:Nat)(post:X->Y->Prop)(r:D)(H:ab):Prop:=∃x y,FrzTo (fun i=>if i=0\/i∈B.ids then none else H i) r (er y)/\H 0=some (.box b (B.ce x))/\(∀p∈B.hp x,H p.1=some p.2)/\post x y
def qho(cc:CC)(rs:List ak)(S:Nat->Spc)(B:J6 X)(A:df Z)(er:Y->D)(pre:X->Z->Prop)(post:X->Z->X->Y->Prop):Prop:=
 ∀b x z,pre x z->vc S cc (sR rs fun r H'=>L8 B er b (post x z) r H') (dj (.bptr 0 b 0::A.view z)) (ah (gk (B.hp x) bY) 0 (some (.box b (B.ce x))))
variable {P:Program}{S:Nat->Spc}{f:Nat}{im:List Nat}{cc:CC}{rs:List ak}{N:Nat}
theorem wn{B:J6 X}{A:df Z}{er:Y->D}{pre:X->Z->Prop}{post:X->Z->X->Y->Prop}(h1i:0∉B.ids)(hS:∀f,Tri P f (S f).pt)(h:aq P f im cc rs N)(hN:∀z,(A.view z).length+1<=N)(hw:qho cc rs S B A er pre post):Tri P f (qkS B A er pre post).pt:=by
 obtain⟨uV,enter,fn,code,h1,h2,h3,h4,h5⟩:=h
 refine mr hS uV h1 h2 enter h3 h4 h5 ?_
 rintro ds H d K ⟨id,b,x,z,ds',rfl,hd,hid,hhp,hni,hp,hK⟩
 have hl:=A.le ds' z hd
 have h0:∀i r,ah (gk (B.hp x) bY) 0 (some (.box b (B.ce x))) i=some r->i=0/\r= .box b (B.ce x)\/i≠0/\(i,r) ∈B.hp x:=by
  intro i r h
  by_cases e:i=0
  ·subst e
   simp only[ah,if_true]at h
   cases h
   exact .inl ⟨rfl,rfl⟩
  ·simp only[ah,e,if_false]at h
   exact .inr ⟨e,Q8 h⟩
 have hk:∀ {x:X} {i:Nat} {r:Res},(i,r) ∈B.hp x->i∈B.ids:=by
  intro x i r h
  rw[<-B.keys x]
  exact qt9.2 ⟨_,h,rfl⟩
 refine⟨by simp only[quN];rw[hl.1];exact hN z, .bptr 0 b 0::A.view z,ah (gk (B.hp x) bY) 0 (some (.box b (B.ce x))),fun i=>if i=0 then id else i, .cons (.bptr _ _ _ _) hl,fun i r h=>?_,fun i j r s h h' e=>?_,_,hw b x z hp,?_⟩
 ·rcases h0 i r h with⟨rfl,rfl⟩|⟨e,hm⟩
  ·exact hid
  ·simp only[e,if_false]
   exact hhp _ hm
 ·rcases h0 i r h with⟨rfl,rfl⟩|⟨e1,hm⟩
  ·rcases h0 j s h' with⟨rfl,rfl⟩|⟨e2,hm2⟩
   ·rfl
   ·simp only[e2,if_true,if_false]at e
    subst e
    exact absurd (hk hm2) hni
  ·rcases h0 j s h' with⟨rfl,rfl⟩|⟨e2,hm2⟩
   ·simp only[e1,if_true,if_false]at e
    subst e
    exact absurd (hk hm) hni
   ·simpa only[e1,e2,if_false]using e
 ·rintro r H' ⟨x',y,hfr,hj,hhp',hpost⟩
  refine⟨er y,fun i=>if i=0\/i∈B.ids then none else H' i,ah (gk (B.hp x') H) id (some (.box b (B.ce x'))),fun i=>if i=id then some 0 else if i∈B.ids then some i else none,hfr,fun j q h=>?_,hK x' y hpost,fun i s hi=>?_,fun i j' k s q hi hj' e1 e2=>?_⟩
  ·by_cases e:j=0\/j∈B.ids
   ·simp[e]at h
   ·simp only[e,if_false]at h
    refine⟨h,fun i hh=>e ?_⟩
    by_cases e1:i=id
    ·simp only[e1,if_true]at hh
     cases hh
     exact .inl rfl
    ·simp only[e1,if_false]at hh
     by_cases e2:i∈B.ids
     ·simp only[e2,if_true]at hh
      cases hh
      exact .inr e2
     ·simp[e2]at hh
  ·by_cases e:i=id
   ·subst e
    simp only[ah,if_true]at hi
    cases hi
    simpa using hj
   ·simp only[ah,e,if_false]at hi ⊢
    by_cases e2:i∈B.ids
    ·simp only[e2,if_true]
     exact hhp' _ (Q9 (by rw[B.keys];exact e2) hi)
    ·simp only[e2,if_false]
     rw[Q7 (by rw[B.keys];exact e2)]at hi
     refine⟨hi,fun k q h he=>?_⟩
     rcases h0 k q h with⟨rfl,rfl⟩|⟨e3,hm⟩
     ·simp only[if_true]at he
      exact e he.symm
     ·simp only[e3,if_false]at he
      subst he
      exact e2 (hk hm)
  ·by_cases c1:i=id
   ·by_cases c2:j'=id
    ·exact c1.trans c2.symm
    ·simp only[c1,if_true]at e1
     cases e1
     simp only[c2,if_false]at e2
     by_cases c3:j'∈B.ids
     ·simp only[c3,if_true]at e2
      cases e2
      exact absurd c3 h1i
     ·simp[c3]at e2
   ·simp only[c1,if_false]at e1
    by_cases c3:i∈B.ids
    ·simp only[c3,if_true]at e1
     cases e1
     by_cases c2:j'=id
     ·simp only[c2,if_true]at e2
      cases e2
      exact absurd c3 h1i
     ·simp only[c2,if_false]at e2
      by_cases c4:j'∈B.ids
      ·simp only[c4,if_true]at e2
       cases e2
       rfl
      ·simp[c4]at e2
    ·simp[c3]at e1
def GR{X:Type}(ce:X->List D):J6 X:=⟨[],ce,fun _=>[],fun _=>rfl⟩
end
end Go.Gv

namespace Go.Gv
open Cod (enc dec)
structure qs9 where
 v:Value
 v':Value
 t:Tbk
def rO(v v':Value)(t:Tbk):List D:=[.own 990 v, .v (.int .u64 t.fi.val), .v (.int .u64 t.la.val), .own 991 v', .v (.bool t.nul)]
def om(v:Value)(l:List (List Rng)):Res:= .row v eb 1 (l.map enc)
def oo(v:Value)(l:List U64):Res:= .row v eW 1 (l.map enc)
def tbB:J6 qs9:=⟨[990,991],fun x=>rO x.v x.v' x.t,fun x=>[(990,om x.v x.t.lvs),(991,oo x.v' x.t.fol)],fun _=>rfl⟩
section
variable {Y Z:Type}
def qbX(A:df Z)(er:Y->D)(F:Tbk->Z->Option (Tbk×Y)):Spc:=qkS tbB A er (fun s z=>∃r,F s.t z=some r) (fun s z s' y=>F s.t z=some (s'.t,y))
def vK(H:ab)(id b:Nat)(v v':Value)(t:Tbk):ab:=ah (ah (ah H 991 (some (oo v' t.fol))) 990 (some (om v t.lvs))) id (some (.box b (rO v v' t)))
def OZ(er:Y->D)(F:Tbk->Z->Option (Tbk×Y))(id b:Nat)(r r1 r2:Option Res)(o:Option Z)(H:ab)(K:D->ab->Prop):Prop:=
 ∃v v' t,r=some (.box b (rO v v' t))/\r1=some (om v t.lvs)/\r2=some (oo v' t.fol)/\id≠990/\id≠991/\dK o fun z=>dK (F t z) fun q=>∀w w',K (er q.2) (vK H id b w w' q.1)
@[congr] theorem qlA{er:Y->D}{F:Tbk->Z->Option (Tbk×Y)}{id b:Nat}{r r' r1 r1' r2 r2':Option Res}{o o':Option Z}{H:ab}{K:D->ab->Prop}(h1:r=r')(h2:r1=r1')(h3:r2=r2')(h4:o=o'):OZ er F id b r r1 r2 o H K=OZ er F id b r' r1' r2' o' H K:=by subst h1;subst h2;subst h3;subst h4;rfl
theorem BS{X:Type}[Cod X]:∀ {l l':List X},l.map enc=l'.map enc->l=l'
 | [], [],_=>rfl
 | [],_::_,h=>by simp at h
 | _::_, [],h=>by simp at h
 | a::l,b::l',h=>by
   rw[qun,qun,quk]at h
   rw[aL h.1,BS h.2]
theorem YV{v v':Value}{l l':List (List Rng)}(h:om v l=om v' l'):v=v'/\l=l':=by
 unfold om at h
 injection h with h1 h2 h3 h4
 exact⟨h1,BS h4⟩
theorem YW{v v':Value}{l l':List U64}(h:oo v l=oo v' l'):v=v'/\l=l':=by
 unfold oo at h
 injection h with h1 h2 h3 h4
 exact⟨h1,BS h4⟩
theorem Yq{b b':Nat}{v v' w w':Value}{t t':Tbk}(h:Res.box b (rO v v' t)=Res.box b' (rO w w' t'))(h1:om v t.lvs=om w t'.lvs)(h2:oo v' t.fol=oo w' t'.fol):b=b'/\v=w/\v'=w'/\t=t':=by
 obtain⟨e1,e2⟩:=YV h1
 obtain⟨e3,e4⟩:=YW h2
 obtain⟨hb,hc⟩:=Res.box.inj h
 simp only[rO,quk,D.own.injEq,D.v.injEq,qv1,Value.bool.injEq,true_and,and_true]at hc
 obtain⟨_,⟨c1,c2,_,c3⟩⟩:=hc
 refine⟨hb,e1,e3,?_⟩
 obtain⟨a1,⟨a2⟩,⟨a3⟩,a4,a5⟩:=t
 obtain⟨b1,⟨b2⟩,⟨b3⟩,b4,b5⟩:=t'
 simp only at e2 e4 c1 c2 c3
 subst e2;subst e4;subst c1;subst c2;subst c3
 rfl
theorem Yr(x:qs9)(H:ab)(id b:Nat):ah (gk (tbB.hp x) H) id (some (.box b (tbB.ce x)))=vK H id b x.v x.v' x.t:=by
 rfl
theorem RV(A:df Z)(er:Y->D)(F:Tbk->Z->Option (Tbk×Y))(d i b:Nat)(ds:List D)(H:ab)(K:D->ab->Prop):(qbX A er F).pt d (.bptr i b 0::ds) H K=OZ er F i b (H i) (H 990) (H 991) (A.dec ds) H K:=by
 refine propext ⟨fun h=>?_,fun h=>?_⟩
 ·obtain⟨id,b',x,z,ds',h1,h2,h3,h4,h5,h6,h7⟩:=h
  cases h1
  simp only[tbB,qt1,qus,or_false,not_or]at h5
  refine⟨x.v,x.v',x.t,h3,h4 (990,om x.v x.t.lvs) (by simp[tbB]),h4 (991,oo x.v' x.t.fol) (by simp[tbB]),h5.1,h5.2,?_⟩
  rw[h2]
  obtain⟨⟨t',y⟩,hr⟩:=h6
  show dK (F x.t z) _
  rw[hr]
  intro w w'
  have:=h7 ⟨w,w',t'⟩ y hr
  rwa [Yr]at this
 ·obtain⟨v,v',t,h1,h2,h3,h4,h5,h6⟩:=h
  cases hz:A.dec ds with
  | none=>rw[hz]at h6;exact h6.elim
  | some z=>
    rw[hz]at h6
    have h6:dK (F t z) fun q=>∀w w',K (er q.2) (vK H i b w w' q.1):=h6
    cases hF:F t z with
    | none=>rw[hF]at h6;exact h6.elim
    | some q=>
      rw[hF]at h6
      have h6:∀w w',K (er q.2) (vK H i b w w' q.1):=h6
      refine⟨i,b,⟨v,v',t⟩,z,ds,rfl,hz,h1,fun p hp=>?_,by simp[tbB,h4,h5],⟨q,hF⟩,fun x' y hq=>?_⟩
      ·simp only[tbB,qt1,qus,or_false]at hp
       rcases hp with rfl|rfl
       ·exact h2
       ·exact h3
      ·have hq:F t z=some (x'.t,y):=hq
       rw[hF]at hq
       cases hq
       rw[Yr]
       exact h6 x'.v x'.v'
theorem qdm(A:df Z)(er:Y->D)(F:Tbk->Z->Option (Tbk×Y))(b:Nat)(ds:List D):qeo 0 (qbX A er F).pt (.bptr 0 b 0::ds):=by
 refine⟨fun R=>OZ er F 0 b (R 0) (R 990) (R 991) (A.dec ds) R fun _ _=>True,fun R d u=>∃v v' t z q w w',R 0=some (.box b (rO v v' t))/\R 990=some (om v t.lvs)/\R 991=some (oo v' t.fol)/\A.dec ds=some z/\F t z=some q/\d=er q.2/\u=[(0, .box b (rO w w' q.1)),(990,om w q.1.lvs),(991,oo w' q.1.fol)],fun t H K=>?_⟩
 rw[RV]
 have r0:qw H (some 0) 0=H 0:=by simp only[qw];exact if_pos rfl
 have r1:qw H (some 0) 990=H 990:=by simp only[qw];exact if_pos rfl
 have r2:qw H (some 0) 991=H 991:=by simp only[qw];exact if_pos rfl
 show _↔OZ er F 0 b (qw H (some 0) 0) (qw H (some 0) 990) (qw H (some 0) 991) (A.dec ds) (qw H (some 0)) (fun _ _=>True)/\∀d u,(∃v v' t z q w w',qw H (some 0) 0=some (.box b (rO v v' t))/\qw H (some 0) 990=some (om v t.lvs)/\qw H (some 0) 991=some (oo v' t.fol)/\A.dec ds=some z/\F t z=some q/\d=er q.2/\u=[(0, .box b (rO w w' q.1)),(990,om w q.1.lvs),(991,oo w' q.1.fol)])->K d (gj H (some 0) u)
 rw[r0,r1,r2]
 have hp:∀ (w w':Value) (q:Tbk),gj H (some 0) [(0, .box b (rO w w' q)),(990,om w q.lvs),(991,oo w' q.fol)]=vK H 0 b w w' q:=fun w w' q=>by
  funext i
  simp only[gj,vK,ah]
  by_cases h0:i=0
  ·subst h0;rfl
  ·by_cases h1:i=990
   ·subst h1;rfl
   ·by_cases h2:i=991
    ·subst h2;rfl
    ·have e:([(0, .box b (rO w w' q)),(990,om w q.lvs),(991,oo w' q.fol)]:List (Nat×Res)).lookup i=none:=by
      have e0:(i==0)=false:=by simp[h0]
      have e1:(i==990)=false:=by simp[h1]
      have e2:(i==991)=false:=by simp[h2]
      simp only[List.lookup,e0,e1,e2]
     rw[e,if_neg h0,if_neg h1,if_neg h2]
     split <;> rfl
 constructor
 ·rintro⟨v,v',t,h1,h2,h3,h4,h5,h6⟩
  cases hz:A.dec ds with
  | none=>rw[hz]at h6;exact h6.elim
  | some z=>
    rw[hz]at h6
    have h6:dK (F t z) fun q=>∀w w',K (er q.2) (vK H 0 b w w' q.1):=h6
    cases hF:F t z with
    | none=>rw[hF]at h6;exact h6.elim
    | some q=>
      rw[hF]at h6
      have h6:∀w w',K (er q.2) (vK H 0 b w w' q.1):=h6
      refine⟨⟨v,v',t,h1,h2,h3,h4,h5,?_⟩,?_⟩
      ·show dK (F t z) _
       rw[hF]
       exact fun _ _=>trivial
      ·rintro d u ⟨v1,v1',t1,z1,q1,w,w',g1,g2,g3,g4,g5,rfl,rfl⟩
       rw[h1]at g1;rw[h2]at g2;rw[h3]at g3
       obtain⟨_,_,_,rfl⟩:=Yq (qua g1) (qua g2) (qua g3)
       cases g4
       rw[hF]at g5
       cases g5
       rw[hp]
       exact h6 w w'
 ·rintro⟨⟨v,v',t,h1,h2,h3,h4,h5,h6⟩,h7⟩
  refine⟨v,v',t,h1,h2,h3,h4,h5,?_⟩
  cases hz:A.dec ds with
  | none=>rw[hz]at h6;exact h6.elim
  | some z=>
    rw[hz]at h6
    have h6:dK (F t z) fun q=>∀w w':Value,True:=h6
    show dK (F t z) _
    cases hF:F t z with
    | none=>rw[hF]at h6;exact h6.elim
    | some q=>
      intro w w'
      have:=h7 (er q.2) _ ⟨v,v',t,z,q,w,w',h1,h2,h3,hz,hF,rfl,rfl⟩
      rwa [hp]at this
theorem Zb(A:df Z)(er:Y->D)(F:Tbk->Z->Option (Tbk×Y))(b:Nat)(dst:Option Nat)(ds:List D)(H:ab)(K:D->ab->Prop):Iu 0 dst (qbX A er F) (.bptr 0 b 0::ds) H K=OZ er F 0 b (H 0) (H 990) (H 991) (A.dec ds) H K:=by
 rw[<-RV A er F (dst.getD 0)]
 exact propext ⟨fun h=>h.2,fun h=>⟨qdm A er F b ds,h⟩⟩
theorem qfF(er:Y->D)(F:Tbk->Z->Option (Tbk×Y))(id b:Nat)(v v':Value)(f l:Int)(n:Bool)(lv:List (List Rng))(fo:List U64)(o:Option Z)(H:ab)(K:D->ab->Prop):
 OZ er F id b (some (.box b [.own 990 v, .v (.int .u64 f), .v (.int .u64 l), .own 991 v', .v (.bool n)])) (some (.row v eb 1 (lv.map enc))) (some (.row v' eW 1 (fo.map enc))) o H K=(id≠990/\id≠991/\dK o fun z=>dK (F ⟨lv,⟨f⟩,⟨l⟩,fo,n⟩ z) fun q=>∀w w',K (er q.2) (vK H id b w w' q.1)):=by
 refine propext ⟨fun⟨w,w',t,h1,h2,h3,h4,h5,h6⟩=>⟨h4,h5,?_⟩,fun h=>⟨v,v',⟨lv,⟨f⟩,⟨l⟩,fo,n⟩,rfl,rfl,rfl,h.1,h.2.1,h.2.2⟩⟩
 obtain⟨_,_,_,e⟩:=Yq (t:=⟨lv,⟨f⟩,⟨l⟩,fo,n⟩) (t':=t) (b:=b) (b':=b) (qua h1) (qua h2) (qua h3)
 subst e
 exact h6
def Ro(er:Y->D)(b:Nat)(post:Tbk->Y->Prop)(r:D)(H:ab):Prop:=L8 tbB er b (fun s y=>post s.t y) r H
theorem qeQ{er:Y->D}{b:Nat}{post:Tbk->Y->Prop}{r:D}{H:ab}(v v':Value)(t:Tbk)(y:Y)(hr:FrzTo (fun i=>if i=0\/i=990\/i=991 then none else H i) r (er y))(h0:H 0=some (.box b (rO v v' t)))(h1:H 990=some (om v t.lvs))(h2:H 991=some (oo v' t.fol))(hq:post t y):Ro er b post r H:=
 ⟨⟨v,v',t⟩,y,by simpa [tbB]using hr,h0,fun p hp=>by
  simp only[tbB,qt1,qus,or_false]at hp
  rcases hp with rfl|rfl
  ·exact h1
  ·exact h2,hq⟩
def Fz(cc:CC)(rs:List ak)(S:Nat->Spc)(A:df Z)(er:Y->D)(F:Tbk->Z->Option (Tbk×Y)):Prop:=
 ∀b v v' t z r,F t z=some r->vc S cc (sR rs fun d H'=>Ro er b (fun t' y=>r=(t',y)) d H') (dj (.bptr 0 b 0::A.view z)) (vK bY 0 b v v' t)
variable {P:Program}{S:Nat->Spc}{f:Nat}{im:List Nat}{cc:CC}{rs:List ak}{N:Nat}
theorem sk{A:df Z}{er:Y->D}{F:Tbk->Z->Option (Tbk×Y)}(hS:∀f,Tri P f (S f).pt)(h:aq P f im cc rs N)(hN:∀z,(A.view z).length+1<=N)(hw:Fz cc rs S A er F):Tri P f (qbX A er F).pt:=
 wn (by simp[tbB]) hS h hN fun b x z hp=>by
  obtain⟨r,hr⟩:=hp
  rw[Yr]
  have:=hw b x.v x.v' x.t z r hr
  have e:(fun(d:D) (H':ab)=>L8 tbB er b (fun s' y=>F x.t z=some (s'.t,y)) d H')=fun d H'=>Ro er b (fun t' y=>r=(t',y)) d H':=by
   funext d H'
   unfold Ro
   congr 1
   funext s' y
   rw[hr]
   exact propext ⟨fun h=>qua h,fun h=>congrArg some h⟩
  rw[e]
  exact this
end
@[simp] theorem qn8(m:U64)(i:Nat):decide (TN .u64 (YD .u64 m.val i) 1=1)=XM m i:=id rfl
end Go.Gv

namespace Go.Gv
open Go.Proofs
def xI:CC:=by refine(fun(_:G.ap (G.gn Tryz.prog Tryz.f317 [1,2024006,2022006,2020006] { cu:=[1,4],kz:=[990,991] })=?c)=>?c) ?h;case h=>conv=>lhs; (conv=>arg 1;reduce);dsimp only[G.ap]
def wK:List ak:=[.tmp 2]
theorem Ny:aq Tryz.prog uo [1,2024006,2022006,2020006] xI wK 26:=ai mixed (by kernel_rfl)
def jH:CC:=by refine(fun(_:G.ap (G.gn Tryz.prog Tryz.f355 [] { bx:=[0],kz:=[990,991] })=?c)=>?c) ?h;case h=>conv=>lhs; (conv=>arg 1;reduce);dsimp only[G.ap]
def jr:List ak:=[]
theorem zw:aq Tryz.prog db [] jH jr 31:=ai mixed (by kernel_rfl)
def gS:CC:=by refine(fun(_:G.ap (G.gn Tryz.prog Tryz.f341 [4,5] { ke:=[0],kz:=[990,991] })=?c)=>?c) ?h;case h=>conv=>lhs; (conv=>arg 1;reduce);dsimp only[G.ap]
def gB:List ak:=[.cell 6 true 3]
theorem wT:aq Tryz.prog bE [4,5] gS gB 42:=ai mixed (by kernel_rfl)
def cG:CC:=by refine(fun(_:G.ap (G.gn Tryz.prog Tryz.f331 [3,3060000,1031990,2033000,2006006] { bx:=[0],kz:=[990,991] })=?c)=>?c) ?h;case h=>conv=>lhs; (conv=>arg 1;reduce);dsimp only[G.ap]
def cE:List ak:=[.cell 4 true 3]
theorem yu:aq Tryz.prog aU [3,3060000,1031990,2033000,2006006] cG cE 98:=ai mixed (by kernel_rfl)
def gR:CC:=by refine(fun(_:G.ap (G.gn Tryz.prog Tryz.f342 [3,3095000,2005005] { bx:=[0],kz:=[990,991] })=?c)=>?c) ?h;case h=>conv=>lhs; (conv=>arg 1;reduce);dsimp only[G.ap]
def gA:List ak:=[.cell 4 true 3]
theorem wS:aq Tryz.prog eP [3,3095000,2005005] gR gA 98:=ai mixed (by kernel_rfl)
def cK:CC:=by refine(fun(_:G.ap (G.gn Tryz.prog Tryz.f356 [4,3035000,3036000,2009009] { bx:=[0],kz:=[990,991] })=?c)=>?c) ?h;case h=>conv=>lhs; (conv=>arg 1;reduce);dsimp only[G.ap]
def cH:List ak:=[.cell 6 true 3]
theorem uR:aq Tryz.prog ca [4,3035000,3036000,2009009] cK cH 39:=ai mixed (by kernel_rfl)
def fD:CC:=by refine(fun(_:G.ap (G.gn Tryz.prog Tryz.f318 [] { ke:=[0],kz:=[990,991] })=?c)=>?c) ?h;case h=>conv=>lhs; (conv=>arg 1;reduce);dsimp only[G.ap]
def fh:List ak:=[.tmp 6]
theorem zx:aq Tryz.prog fQ [] fD fh 35:=ai mixed (by kernel_rfl)
end Go.Gv

namespace Go.Gv
open Cod (enc dec)
variable {S S0:Nat->Spc}
@[simp] theorem qnf(t:Tbk):Tbk.mk t.lvs t.fi t.la t.fol t.nul=t:=id rfl
abbrev CT:Spc:=qbX (a2 U64 U64) US Du
theorem Uy(fr to:U64):∀ (l:List U64) (i:Nat),(Uz fr to i l).length=l.length
 | [],_=>rfl
 | f::l,i=>by rw[Uz,quN,quN,Uy fr to l (i+1)]
theorem PV{fr to f:U64} :∀ {l:List U64} {i k:Nat},l[k]? =some f->Uz fr to i (l.take k) ++ (if XM fr (i+k)=true then qcO f to else f)::l.drop (k+1)=Uz fr to i (l.take (k+1)) ++l.drop (k+1)
 | [],i,k,h=>by simp at h
 | g::l,i,0,h=>by
   simp at h
   subst h
   simp[Uz]
 | g::l,i,k+1,h=>by
   simp at h
   have:=PV (fr:=fr) (to:=to) (i:=i+1) h
   rw[show i+1+k=i+ (k+1) by omega]at this
   simp only[qwt,Uz,quI,qwo]
   rw[this]
theorem qfp:Fz jH jr S (a2 U64 U64) US Du:=by
 rintro b v v' ⟨lv,fi,la,fo,nu⟩ ⟨fr,to⟩ r hF
 unfold Du at hF
 simp only at hF
 split at hF
 ·rename_i hlen
  cases hF
  have hl:(fo.length:Int)<=9223372036854775807:=by omega
  simp[jH,jr,vK,om,oo,rO,hl, -Bool.forall_bool, -Bool.exists_bool]
  refine aj (X:=List U64) [0,1,2] [] fo.length (fun k x=>x=Uz fr to 0 (fo.take k) ++fo.drop k) (fun x=>[]) (fun x=>[(0, .box b [.own 990 v, .v (.int .u64 fi.val), .v (.int .u64 la.val), .own 991 v', .v (.bool nu)]),(990, .row v eb 1 (lv.map enc)),(991, .row v' eW 1 (x.map enc))]) fo (by simp) (by simp) (by omega) (by simp) (by simp) (by simp[Uz]) (by simp) (by simp) ?_ ?_
  ·rintro k x hk hx
   obtain⟨f,hf⟩:∃f,fo[k]? =some f:=⟨_,qtW hk⟩
   have hll:(Uz fr to 0 (fo.take k)).length=k:=by rw[Uy,quw];omega
   have hxl:x.length=fo.length:=by rw[hx,quj,hll,quS];omega
   have hxk:x[k]? =some f:=by
    rw[hx,qt5 (by omega),hll,qvw,quB]
    simpa using hf
   have hdr:x.drop (k+1)=fo.drop (k+1):=by
    rw[hx,List.drop_append,hll,List.drop_drop,quT (by rw[hll];omega)]
    simp
   have htk:x.take k=Uz fr to 0 (fo.take k):=by
    rw[hx,List.take_append,hll,qvw,qvD,qu4,qvz (by rw[hll];omega)]
   have hset:∀g,x.set k g=Uz fr to 0 (fo.take k) ++g::fo.drop (k+1):=fun g=>by
    rw[qvW,if_pos (by omega),htk,hdr]
   have hst:=PV (fr:=fr) (to:=to) (i:=0) hf
   rw[quK,<-hset]at hst
   have hkx:k < x.length:=by omega
   obtain⟨_,hgx⟩:=qtV.1 hxk
   simp[hkx,hxk,hgx,hk,hxl, -Bool.forall_bool, -Bool.exists_bool]
   refine⟨fun hb=>?_,fun hb=>?_⟩
   ·rw[if_pos hb]at hst
    left
    rw[<-List.map_drop,<-qvn,<-hst,qwa]
    rfl
   ·rw[if_neg (by simp[hb])]at hst
    rw[show x.set k f=x from by rw[<-hgx];exact List.set_getElem_self _]at hst
    exact .inl hst
  ·rintro x hx
   rw[quy,quU,qu4]at hx
   subst hx
   simp[-Bool.forall_bool, -Bool.exists_bool]
   exact qeQ (er:=US) (y:=()) v v' ⟨lv,fi,la,Uz fr to 0 fo,nu⟩ (.same _) rfl rfl rfl rfl
 ·cases hF
attribute [simp] RV Zb
@[simp] theorem qlz{Y Z:Type}(er:Y->D)(F:Tbk->Z->Option (Tbk×Y))(id b:Nat)(v v':Value)(f l:Int)(n:Bool)(lv:List (List Rng))(fo:List U64)(o:Option Z)(H:ab)(K:D->ab->Prop):
 OZ er F id b (some (.box b [.own 990 v, .v (.int .u64 f), .v (.int .u64 l), .own 991 v', .v (.bool n)])) (some (.row v eb 1 (lv.map enc))) (some (.row v' eW 1 (fo.map enc))) o H K=(id≠990/\id≠991/\dK o fun z=>dK (F ⟨lv,⟨f⟩,⟨l⟩,fo,n⟩ z) fun q=>∀w w',K (er q.2) (ah (ah (ah H 991 (some (.row w' eW 1 (q.1.fol.map enc)))) 990 (some (.row w eb 1 (q.1.lvs.map enc)))) id (some (.box b [.own 990 w, .v (.int .u64 q.1.fi.val), .v (.int .u64 q.1.la.val), .own 991 w', .v (.bool q.1.nul)])))):=qfF er F id b v v' f l n lv fo o H K
abbrev ws:Spc:=qbX (a2 Prt Prt) (enc (X:=Prt)) yc
theorem vW{b:Nat}{post:Tbk->Prt->Prop}{d:D}{H:ab}(v v':Value)(t:Tbk)(y:Prt)(hd:d=enc y)(h0:H 0=some (.box b (rO v v' t)))(h1:H 990=some (om v t.lvs))(h2:H 991=some (oo v' t.fol))(hq:post t y):Ro enc b post d H:=
 qeQ (er:=enc) (y:=y) v v' t (by rw[hd];exact .same _) h0 h1 h2 hq
theorem Yc(h1:S db=CT):Fz gS gB S (a2 Prt Prt) (enc (X:=Prt)) yc:=by
 rintro b v v' ⟨lv,fi,la,fo,nu⟩ ⟨⟨af,al,an⟩,⟨bf,bl,bn⟩⟩ r hF
 unfold yc at hF
 simp only at hF
 obtain⟨q,hl,rfl⟩:=qt6.1 hF
 cases an <;> cases bn <;> simp[gS,gB,vK,om,oo,rO,h1,hl, -Bool.forall_bool, -Bool.exists_bool] <;> intro b1 w w' <;> exact vW w w' q.1 _ rfl rfl rfl rfl ⟨rfl,rfl⟩
theorem Zr{set f:U64}{l:List U64}{k:Nat}(h:l[k]? =some f)(m:U64):qeH set k (l.drop k) m=qeH set (k+1) (l.drop (k+1)) (if XM set k=true then qcO m f else m):=by
 obtain⟨h1,h2⟩:=qtV.1 h
 rw[qux h1,h2,qeH]
end Go.Gv

namespace Go.Gv
open Cod (enc dec)
variable {S S0:Nat->Spc}
abbrev wt(n:Nat):Spc:=qbX (a1 Rx) (enc (X:=Prt)) (Ca n).b
abbrev Sf(n:Nat):Spc:=qbX (a1 Rx) (enc (X:=Prt)) (Ca n).r
abbrev HY(n:Nat):Spc:=qbX (a2 Rx Int) (enc (X:=Prt)) (Ca n).o
theorem Og{X:Type}{l:List X}{k:Nat}(h:k < l.length):∃x,l[k]? =some x:=⟨_,qtW h⟩
theorem sY{X:Type}{l:List X}{k:Nat}{x:X}(h:l[k]? =some x):l.drop k=x::l.drop (k+1):=by
 obtain⟨h1,h2⟩:=qtV.1 h
 rw[qux h1,h2]
set_option maxHeartbeats 1000000 in
theorem qci(n:Nat)(h1:S aU=wt n)(h2:S eP=Sf n)(h3:S bE=ws):Fz cG cE S (a1 Rx) (enc (X:=Prt)) (Ca (n+1)).b:=by
 rintro b v v' t ⟨op,mn,mx,rs,ks⟩ r hF
 replace hF:qhj (Ca n).b (Ca n).r t ⟨op,mn,mx,rs,ks⟩=some r:=hF
 unfold qhj at hF
 simp only at hF
 split at hF
 ·cases hF
 rename_i hok
 have hok1:t.lvs.length<=1000/\t.fol.length<=1000:=by
  cases hb:Nz t with
  | true=>exact of_decide_eq_true hb
  | false=>exact absurd (.inl hb) hok
 have hkl:ks.length<=1000:=by
  have:¬1000 < ks.length:=fun h=>hok (.inr h)
  omega
 obtain⟨hlv,hfo⟩:=hok1
 have hkl':(ks.length:Int)<=9223372036854775807:=by omega
 have hlv':(t.lvs.length:Int)<=9223372036854775807:=by omega
 split at hF
 ·rename_i e
  subst e
  obtain rfl:=qua hF
  simp[cG,cE,vK,om,oo,rO,hlv', -Bool.forall_bool, -Bool.exists_bool]
  refine fun b1=>⟨by omega,by omega,fun w=>⟨by omega,by omega,fun w'=>?_⟩⟩
  exact vW w w' ⟨t.lvs++ [rs],t.fi,t.la,t.fol++ [⟨0⟩],t.nul⟩ ⟨⟨Pj .u64 1 t.lvs.length⟩,⟨Pj .u64 1 t.lvs.length⟩,false⟩ rfl rfl (by simp[om,ah]) (by simp[oo,ah]) ⟨rfl,rfl⟩
 rename_i e1
 split at hF
 ·rename_i e
  subst e
  simp[cG,cE,vK,om,oo,rO,hkl', -Bool.forall_bool, -Bool.exists_bool]
  intro b4 b6
  refine aj (X:=Tbk×Prt×Value×Value) [0,4,6,50] [4] ks.length (fun k x=>qkA (Ca n).b (ks.drop k) x.1 x.2.1=some r) (fun x=>[]) (fun x=>[(0, .box b [.own 990 x.2.2.1, .v (.int .u64 x.1.fi.val), .v (.int .u64 x.1.la.val), .own 991 x.2.2.2, .v (.bool x.1.nul)]),(990, .row x.2.2.1 eb 1 (x.1.lvs.map enc)),(991, .row x.2.2.2 eW 1 (x.1.fol.map enc)),(6, .box b6 [.v (.int .u64 x.2.1.first.val), .v (.int .u64 x.2.1.last.val), .v (.bool x.2.1.nul)])]) (t,BN,v,v') (by simp) (by simp) (by omega) (by simp) (by simp) (by simpa using hF) (by simp) (by simp[BN]) ?_ ?_
  ·rintro k ⟨t,p,w,w'⟩ hk hx
   obtain⟨y,hy⟩:=Og hk
   obtain⟨_,hgy⟩:=qtV.1 hy
   rw[sY hy,qkA]at hx
   obtain⟨q,hq,hx⟩:=qtT.1 hx
   obtain⟨c,hc,hx⟩:=qtT.1 hx
   simp[hk,hy,hgy,h1,h3,hq,hc, -Bool.forall_bool, -Bool.exists_bool]
   exact fun u u'=>⟨c.1,c.2,hx,u,u', .inl ⟨rfl,rfl,rfl,rfl,rfl⟩, .inl ⟨rfl,rfl⟩, .inl ⟨rfl,rfl⟩, .inl ⟨rfl,rfl,rfl⟩⟩
  ·rintro⟨t,p,w,w'⟩ hx
   rw[quU,qkA]at hx
   obtain rfl:=qua hx
   simp[-Bool.forall_bool, -Bool.exists_bool]
   exact vW w w' t p rfl rfl rfl rfl ⟨rfl,rfl⟩
 rename_i e2
 split at hF
 ·rename_i e
  subst e
  simp[cG,cE,vK,om,oo,rO,hkl', -Bool.forall_bool, -Bool.exists_bool]
  intro b4 b9
  refine aj (X:=Tbk×Prt×Value×Value) [0,4,9,67] [4] ks.length (fun k x=>XS (Ca n).b (ks.drop k) x.1 x.2.1=some r) (fun x=>[]) (fun x=>[(0, .box b [.own 990 x.2.2.1, .v (.int .u64 x.1.fi.val), .v (.int .u64 x.1.la.val), .own 991 x.2.2.2, .v (.bool x.1.nul)]),(990, .row x.2.2.1 eb 1 (x.1.lvs.map enc)),(991, .row x.2.2.2 eW 1 (x.1.fol.map enc)),(9, .box b9 [.v (.int .u64 x.2.1.first.val), .v (.int .u64 x.2.1.last.val), .v (.bool x.2.1.nul)])]) (t,qpl,v,v') (by simp) (by simp) (by omega) (by simp) (by simp) (by simpa using hF) (by simp) (by simp[qpl]) ?_ ?_
  ·rintro k ⟨t,p,w,w'⟩ hk hx
   obtain⟨y,hy⟩:=Og hk
   obtain⟨_,hgy⟩:=qtV.1 hy
   rw[sY hy,XS]at hx
   obtain⟨q,hq,hx⟩:=qtT.1 hx
   simp[hk,hy,hgy,h1,hq, -Bool.forall_bool, -Bool.exists_bool]
   refine fun u u'=>⟨fun hn=>⟨q.1,_,hx,u,u', .inl ⟨rfl,rfl,rfl,rfl,rfl⟩, .inl ⟨rfl,rfl⟩, .inl ⟨rfl,rfl⟩, .inl ⟨rfl,rfl,by simp[hn]⟩⟩,fun hn=>⟨q.1,_,hx,u,u', .inl ⟨rfl,rfl,rfl,rfl,rfl⟩, .inl ⟨rfl,rfl⟩, .inl ⟨rfl,rfl⟩, .inl ⟨rfl,rfl,by simp[hn]⟩⟩⟩
  ·rintro⟨t,p,w,w'⟩ hx
   rw[quU,XS]at hx
   obtain rfl:=qua hx
   simp[-Bool.forall_bool, -Bool.exists_bool]
   exact vW w w' t p rfl rfl rfl rfl ⟨rfl,rfl⟩
 rename_i e3
 simp[cG,cE,vK,om,oo,rO,h2,e1,e2,e3,hF, -Bool.forall_bool, -Bool.exists_bool]
 intro b1 w w'
 exact vW w w' r.1 r.2 rfl rfl rfl rfl rfl
end Go.Gv

namespace Go.Gv
open Cod (enc dec)
variable {S S0:Nat->Spc}
theorem vO{t:Tbk}(h:Nz t≠false):t.lvs.length<=1000/\t.fol.length<=1000:=by
 cases hb:Nz t with
 | true=>exact of_decide_eq_true hb
 | false=>exact absurd hb h
set_option maxHeartbeats 1000000 in
theorem Rz(n:Nat)(h1:S aU=wt n)(h2:S ca=HY n)(h3:S bE=ws):Fz cK cH S (a2 Rx Int) (enc (X:=Prt)) (Ca (n+1)).o:=by
 rintro b v v' t ⟨y,m⟩ r hF
 replace hF:qf8 (Ca n).b (Ca n).o t ⟨y,m⟩=some r:=hF
 unfold qf8 at hF
 simp only at hF
 split at hF
 ·cases hF
 rename_i hok
 have hok1:=vO fun h=>hok (.inr (.inr h))
 have hm0:0<=m:=by have:¬m < 0:=fun h=>hok (.inl h);omega
 have hm1:m<=100:=by have:¬100 < m:=fun h=>hok (.inr (.inl h));omega
 obtain⟨hlv,hfo⟩:=hok1
 have hlv':(t.lvs.length:Int)<=9223372036854775807:=by omega
 split at hF
 ·rename_i e
  subst e
  obtain rfl:=qua hF
  simp[cK,cH,vK,om,oo,rO, -Bool.forall_bool, -Bool.exists_bool]
  intro b1
  exact vW v v' t BN rfl rfl rfl rfl ⟨rfl,rfl⟩
 rename_i e0
 obtain⟨q,hq,hF⟩:=qtT.1 hF
 split at hF
 ·cases hF
 rename_i hok2
 have hok3:=vO hok2
 obtain⟨hlq,hfq⟩:=hok3
 have hlq':(q.1.lvs.length:Int)<=9223372036854775807:=by omega
 split at hF
 ·rename_i e
  obtain rfl:=qua hF
  have e':(q.1.lvs.length:Int)=t.lvs.length:=by omega
  simp[cK,cH,vK,om,oo,rO,h1,hq,e0,hlv',hlq',e,e', -Bool.forall_bool, -Bool.exists_bool]
  intro b1 w w'
  exact vW w w' q.1 BN rfl rfl rfl rfl ⟨rfl,rfl⟩
 rename_i e
 obtain⟨c,hc,hF⟩:=qtT.1 hF
 obtain⟨l,hl,hF⟩:=qt6.1 hF
 subst hF
 have e':¬ (q.1.lvs.length:Int)=t.lvs.length:=by omega
 have hin:InR .i64 (m -1):=by simp only[InR];omega
 simp[cK,cH,vK,om,oo,rO,h1,h2,h3,hq,hc,hl,e0,hlv',hlq',e,e',hin, -Bool.forall_bool, -Bool.exists_bool]
 exact fun b1 w w'=>vW w w' l.1 _ rfl rfl rfl rfl ⟨rfl,rfl⟩
end Go.Gv
