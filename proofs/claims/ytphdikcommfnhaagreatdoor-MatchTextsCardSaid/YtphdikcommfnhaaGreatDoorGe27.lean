/- A part of the framework and of the walks: T22 T33 C55 W140 W141 W142. -/
import Derived.Test.YtphdikcommfnhaaGreatDoorGe25
import Derived.Test.YtphdikcommfnhaaGreatDoorGe21
import Derived.Test.YtphdikcommfnhaaGreatDoorGe26
import Derived.Test.YtphdikcommfnhaaGreatDoorGe20
set_option linter.unusedSimpArgs false
set_option linter.unusedVariables false
set_option linter.unusedSectionVars false
set_option maxRecDepth 100000
set_option maxHeartbeats 0

namespace Go.Gv
open Cod (enc dec)
section
variable {X Y:Type}[Cod X][Cod Y]
def qtH(pre:X->List Y->Prop)(post:X->List Y->List Y->Prop)(el n:Nat):PT:=fun d ds H K=>∃id v l a x,ds=[a, .own id v]/\dec a=some x/\H id=some (.row v el n (l.map enc))/\pre x l/\
 ∀v' l',post x l l'->K (.own id v') (ah H id (some (.row v' el n (l'.map enc))))
theorem qgq(pre:X->List Y->Prop)(post:X->List Y->List Y->Prop)(el n:Nat):qq (qtH pre post el n):=fun d ds H K K' hk ⟨id,v,l,a,x,h1,h2,h3,h4,h5⟩=>⟨id,v,l,a,x,h1,h2,h3,h4,fun v' l' hp=>hk _ _ (h5 v' l' hp)⟩
def qhY(pre:X->List Y->Prop)(post:X->List Y->List Y->Prop)(el n:Nat):Spc:= .gen _ (qgq pre post el n)
def qqu(pre:X->List Y->Prop)(post:X->List Y->List Y->Prop)(el n id:Nat)(v:Value)(o:Option X)(r:Option Res)(H:ab)(K:D->ab->Prop):Prop:=∃l,r=some (.row v el n (l.map enc))/\dT o fun x=>pre x l/\∀v' l',post x l l'->K (.own id v') (ah H id (some (.row v' el n (l'.map enc))))
@[congr] theorem qtG{pre:X->List Y->Prop}{post:X->List Y->List Y->Prop}{el n id:Nat}{v:Value}{o o':Option X}{r r':Option Res}{H:ab}{K:D->ab->Prop}(h1:o=o')(h2:r=r'):qqu pre post el n id v o r H K=qqu pre post el n id v o' r' H K:=by subst h1;subst h2;rfl
@[simp] theorem qtI(pre:X->List Y->Prop)(post:X->List Y->List Y->Prop)(el n:Nat)(d i:Nat)(a:D)(v:Value)(H:ab)(K:D->ab->Prop):(qhY pre post el n).pt d [a, .own i v] H K=qqu pre post el n i v (dec a) (H i) H K:=by
 refine propext ⟨fun h=>?_,fun h=>?_⟩
 ·obtain⟨id,v,l,a,x,h1,h2,h3,h4,h5⟩:=h
  cases h1
  refine⟨l,h3,?_⟩
  rw[h2]
  exact⟨h4,h5⟩
 ·obtain⟨l,h1,h2⟩:=h
  cases hd:dec (X:=X) a with
  | none=>rw[hd]at h2;exact h2.elim
  | some x=>rw[hd]at h2;exact⟨i,v,l,a,x,rfl,hd,h1,h2.1,h2.2⟩
@[simp] theorem qwd(pre:X->List Y->Prop)(post:X->List Y->List Y->Prop)(el n id:Nat)(v:Value)(o:Option X)(l:List Y)(H:ab)(K:D->ab->Prop):qqu pre post el n id v o (some (.row v el n (l.map enc))) H K=dT o fun x=>pre x l/\∀v' l',post x l l'->K (.own id v') (ah H id (some (.row v' el n (l'.map enc)))):=by
 refine propext ⟨fun⟨l',h1,h2⟩=>?_,fun h=>⟨l,rfl,h⟩⟩
 simp at h1
 subst h1
 exact h2
def PL(cc:CC)(rs:List aj)(S:Nat->Spc)(pre:X->List Y->Prop)(post:X->List Y->List Y->Prop)(el n:Nat):Prop:=
 ∀v l x,pre x l->vc S cc (tu rs fun r H'=>qhp el n (post x l) r H') (dq [enc x, .own 1 v]) (ah bM 1 (some (.row v el n (l.map enc))))
variable {P:Program}{S:Nat->Spc}{f:Nat}{im:List Nat}{cc:CC}{rs:List aj}{N:Nat}{el n:Nat}
theorem Cj{pre:X->List Y->Prop}{post:X->List Y->List Y->Prop}(hS:∀f,Tri P f (S f).pt)(h:ak P f im cc rs N)(hN:2<=N)(hw:PL cc rs S pre post el n):Tri P f (qhY pre post el n).pt:=by
 obtain⟨vF,enter,fn,code,h1,h2,h3,h4,h5⟩:=h
 refine mH hS vF h1 h2 enter h3 h4 h5 ?_
 rintro ds H d K ⟨id,v,l,a,x,rfl,hd,hid,hp,hK⟩
 have hl:=Cod.le _ _ hd
 refine⟨hN, [enc x, .own 1 v],ah bM 1 (some (.row v el n (l.map enc))),fun _=>id, .cons hl (.cons (.own _ _ _) .nil),fun i r h=>?_,fun i j r s h h' _=>?_,_,hw v l x hp,?_⟩
 ·by_cases e:i=1
  ·subst e
   simp only[ah,if_true]at h
   cases h
   exact hid
  ·simp[ah,e]at h
 ·have a:i=1:=by
   by_cases e:i=1
   ·exact e
   ·simp[ah,e]at h
  have b:j=1:=by
   by_cases e:j=1
   ·exact e
   ·simp[ah,e]at h'
  exact a.trans b.symm
 ·rintro r H' ⟨j,v',l',rfl,hj,hpost⟩
  refine⟨.own id v',bM,ah H id (some (.row v' el n (l'.map enc))),fun i=>if i=id then some j else none, .own _ _ _,fun j q h=>by simp at h,hK v' l' hpost,fun i s hi=>?_,fun i j' k s q hi hj' e1 e2=>?_⟩
  ·by_cases e:i=id
   ·subst e
    simp only[ah,if_true]at hi
    cases hi
    simpa using hj
   ·simp only[ah,e,if_false]at hi ⊢
    exact⟨hi,fun k q h he=>e he.symm⟩
  ·have a:i=id:=by
    by_cases e:i=id
    ·exact e
    ·simp[e]at e1
   have b:j'=id:=by
    by_cases e:j'=id
    ·exact e
    ·simp[e]at e2
   exact a.trans b.symm
end
section
variable {X Y Z:Type}
structure Lo (X:Type) where
 ids:List Nat
 ce:X->List D
 hp:X->List (Nat×Res)
 keys:∀x,(hp x).map (·.1)=ids
theorem Tc:∀ {l:List (Nat×Res)} {i:Nat} {s:Res},gp l bM i=some s->(i,s) ∈l
 | [],i,s,h=>by simp[gp,bM]at h
 | (j,r)::l,i,s,h=>by
  simp only[gp,ah]at h
  by_cases e:i=j
  ·subst e
   simp only[if_true]at h
   cases h
   simp
  ·simp only[e,if_false]at h
   exact qzn _ (Tc h)
theorem Td:∀ {l:List (Nat×Res)} {H:ab} {i:Nat} {s:Res},i∈l.map (·.1)->gp l H i=some s->(i,s) ∈l
 | (j,r)::l,H,i,s,hi,h=>by
  simp only[gp,ah]at h
  by_cases e:i=j
  ·subst e
   simp only[if_true]at h
   cases h
   simp
  ·simp only[e,if_false]at h
   simp[e]at hi
   refine qzn _ (Td (H:=H) ?_ h)
   simpa using hi
theorem Ta:∀ {l:List (Nat×Res)} {H:ab} {i:Nat},i∉l.map (·.1)->gp l H i=H i
 | [],H,i,_=>rfl
 | (j,r)::l,H,i,hi=>by
  simp only[qxZ,qxD,not_or]at hi
  simp only[gp,ah,hi.1,if_false]
  exact Ta hi.2
def quU(B:Lo X)(A:df Z)(er:Y->D)(pre:X->Z->Prop)(post:X->Z->X->Y->Prop):PT:=fun d ds H K=>∃id b x z ds',ds= .bptr id b 0::ds'/\A.dec ds'=some z/\H id=some (.box b (B.ce x))/\(∀p∈B.hp x,H p.1=some p.2)/\id∉B.ids/\pre x z/\
 ∀x' y,post x z x' y->K (er y) (ah (gp (B.hp x') H) id (some (.box b (B.ce x'))))
theorem qg4(B:Lo X)(A:df Z)(er:Y->D)(pre:X->Z->Prop)(post:X->Z->X->Y->Prop):qq (quU B A er pre post):=fun d ds H K K' hk ⟨id,b,x,z,ds',h1,h2,h3,h4,h5,h6,h7⟩=>⟨id,b,x,z,ds',h1,h2,h3,h4,h5,h6,fun x' y hp=>hk _ _ (h7 x' y hp)⟩
def qom(B:Lo X)(A:df Z)(er:Y->D)(pre:X->Z->Prop)(post:X->Z->X->Y->Prop):Spc:= .gen _ (qg4 B A er pre post)
def NG(B:Lo X)(er:Y->D)(b:Nat)(post:X->Y->Prop)(r:D)(H:ab):Prop:=∃x y,FrzTo (fun i=>if i=0\/i∈B.ids then none else H i) r (er y)/\H 0=some (.box b (B.ce x))/\(∀p∈B.hp x,H p.1=some p.2)/\post x y
def qkR(cc:CC)(rs:List aj)(S:Nat->Spc)(B:Lo X)(A:df Z)(er:Y->D)(pre:X->Z->Prop)(post:X->Z->X->Y->Prop):Prop:=
 ∀b x z,pre x z->vc S cc (tu rs fun r H'=>NG B er b (post x z) r H') (dq (.bptr 0 b 0::A.view z)) (ah (gp (B.hp x) bM) 0 (some (.box b (B.ce x))))
variable {P:Program}{S:Nat->Spc}{f:Nat}{im:List Nat}{cc:CC}{rs:List aj}{N:Nat}
theorem xf{B:Lo X}{A:df Z}{er:Y->D}{pre:X->Z->Prop}{post:X->Z->X->Y->Prop}(h1i:0∉B.ids)(hS:∀f,Tri P f (S f).pt)(h:ak P f im cc rs N)(hN:∀z,(A.view z).length+1<=N)(hw:qkR cc rs S B A er pre post):Tri P f (qom B A er pre post).pt:=by
 obtain⟨vF,enter,fn,code,h1,h2,h3,h4,h5⟩:=h
 refine mH hS vF h1 h2 enter h3 h4 h5 ?_
 rintro ds H d K ⟨id,b,x,z,ds',rfl,hd,hid,hhp,hni,hp,hK⟩
 have hl:=A.le ds' z hd
 have h0:∀i r,ah (gp (B.hp x) bM) 0 (some (.box b (B.ce x))) i=some r->i=0/\r= .box b (B.ce x)\/i≠0/\(i,r) ∈B.hp x:=by
  intro i r h
  by_cases e:i=0
  ·subst e
   simp only[ah,if_true]at h
   cases h
   exact .inl ⟨rfl,rfl⟩
  ·simp only[ah,e,if_false]at h
   exact .inr ⟨e,Tc h⟩
 have hk:∀ {x:X} {i:Nat} {r:Res},(i,r) ∈B.hp x->i∈B.ids:=by
  intro x i r h
  rw[<-B.keys x]
  exact qxL.2 ⟨_,h,rfl⟩
 refine⟨by simp only[qyr];rw[hl.1];exact hN z, .bptr 0 b 0::A.view z,ah (gp (B.hp x) bM) 0 (some (.box b (B.ce x))),fun i=>if i=0 then id else i, .cons (.bptr _ _ _ _) hl,fun i r h=>?_,fun i j r s h h' e=>?_,_,hw b x z hp,?_⟩
 ·rcases h0 i r h with⟨rfl,rfl⟩|⟨e,hm⟩
  ·exact hid
  ·simp only[e,if_false]
   exact hhp _ hm
 ·rcases h0 i r h with⟨rfl,rfl⟩|⟨e1,hm⟩
  ·rcases h0 j s h' with⟨rfl,rfl⟩|⟨e2,hm2⟩
   ·rfl
   ·simp only[e2,if_true,if_false]at e
    subst e
    exact absurd (hk hm2) hni
  ·rcases h0 j s h' with⟨rfl,rfl⟩|⟨e2,hm2⟩
   ·simp only[e1,if_true,if_false]at e
    subst e
    exact absurd (hk hm) hni
   ·simpa only[e1,e2,if_false]using e
 ·rintro r H' ⟨x',y,hfr,hj,hhp',hpost⟩
  refine⟨er y,fun i=>if i=0\/i∈B.ids then none else H' i,ah (gp (B.hp x') H) id (some (.box b (B.ce x'))),fun i=>if i=id then some 0 else if i∈B.ids then some i else none,hfr,fun j q h=>?_,hK x' y hpost,fun i s hi=>?_,fun i j' k s q hi hj' e1 e2=>?_⟩
  ·by_cases e:j=0\/j∈B.ids
   ·simp[e]at h
   ·simp only[e,if_false]at h
    refine⟨h,fun i hh=>e ?_⟩
    by_cases e1:i=id
    ·simp only[e1,if_true]at hh
     cases hh
     exact .inl rfl
    ·simp only[e1,if_false]at hh
     by_cases e2:i∈B.ids
     ·simp only[e2,if_true]at hh
      cases hh
      exact .inr e2
     ·simp[e2]at hh
  ·by_cases e:i=id
   ·subst e
    simp only[ah,if_true]at hi
    cases hi
    simpa using hj
   ·simp only[ah,e,if_false]at hi ⊢
    by_cases e2:i∈B.ids
    ·simp only[e2,if_true]
     exact hhp' _ (Td (by rw[B.keys];exact e2) hi)
    ·simp only[e2,if_false]
     rw[Ta (by rw[B.keys];exact e2)]at hi
     refine⟨hi,fun k q h he=>?_⟩
     rcases h0 k q h with⟨rfl,rfl⟩|⟨e3,hm⟩
     ·simp only[if_true]at he
      exact e he.symm
     ·simp only[e3,if_false]at he
      subst he
      exact e2 (hk hm)
  ·by_cases c1:i=id
   ·by_cases c2:j'=id
    ·exact c1.trans c2.symm
    ·simp only[c1,if_true]at e1
     cases e1
     simp only[c2,if_false]at e2
     by_cases c3:j'∈B.ids
     ·simp only[c3,if_true]at e2
      cases e2
      exact absurd c3 h1i
     ·simp[c3]at e2
   ·simp only[c1,if_false]at e1
    by_cases c3:i∈B.ids
    ·simp only[c3,if_true]at e1
     cases e1
     by_cases c2:j'=id
     ·simp only[c2,if_true]at e2
      cases e2
      exact absurd c3 h1i
     ·simp only[c2,if_false]at e2
      by_cases c4:j'∈B.ids
      ·simp only[c4,if_true]at e2
       cases e2
       rfl
      ·simp[c4]at e2
    ·simp[c3]at e1
def Id{X:Type}(ce:X->List D):Lo X:=⟨[],ce,fun _=>[],fun _=>rfl⟩
end
end Go.Gv

namespace Go.Gv
open Cod (enc dec)
structure qwL where
 v:Value
 v':Value
 t:Tbk
def sA(v v':Value)(t:Tbk):List D:=[.own 990 v, .v (.int .u64 t.fi.val), .v (.int .u64 t.la.val), .own 991 v', .v (.bool t.nul)]
def oY(v:Value)(l:List (List Rng)):Res:= .row v ek 1 (l.map enc)
def pa(v:Value)(l:List U64):Res:= .row v eZ 1 (l.map enc)
def tbB:Lo qwL:=⟨[990,991],fun x=>sA x.v x.v' x.t,fun x=>[(990,oY x.v x.t.lvs),(991,pa x.v' x.t.fol)],fun _=>rfl⟩
section
variable {Y Z:Type}
def qeD(A:df Z)(er:Y->D)(F:Tbk->Z->Option (Tbk×Y)):Spc:=qom tbB A er (fun s z=>∃r,F s.t z=some r) (fun s z s' y=>F s.t z=some (s'.t,y))
def wG(H:ab)(id b:Nat)(v v':Value)(t:Tbk):ab:=ah (ah (ah H 991 (some (pa v' t.fol))) 990 (some (oY v t.lvs))) id (some (.box b (sA v v' t)))
def Qu(er:Y->D)(F:Tbk->Z->Option (Tbk×Y))(id b:Nat)(r r1 r2:Option Res)(o:Option Z)(H:ab)(K:D->ab->Prop):Prop:=
 ∃v v' t,r=some (.box b (sA v v' t))/\r1=some (oY v t.lvs)/\r2=some (pa v' t.fol)/\id≠990/\id≠991/\dT o fun z=>dT (F t z) fun q=>∀w w',K (er q.2) (wG H id b w w' q.1)
@[congr] theorem qo9{er:Y->D}{F:Tbk->Z->Option (Tbk×Y)}{id b:Nat}{r r' r1 r1' r2 r2':Option Res}{o o':Option Z}{H:ab}{K:D->ab->Prop}(h1:r=r')(h2:r1=r1')(h3:r2=r2')(h4:o=o'):Qu er F id b r r1 r2 o H K=Qu er F id b r' r1' r2' o' H K:=by subst h1;subst h2;subst h3;subst h4;rfl
theorem CZ{X:Type}[Cod X]:∀ {l l':List X},l.map enc=l'.map enc->l=l'
 | [], [],_=>rfl
 | [],_::_,h=>by simp at h
 | _::_, [],h=>by simp at h
 | a::l,b::l',h=>by
   rw[qxZ,qxZ,qx0]at h
   rw[aK h.1,CZ h.2]
theorem qbr{v v':Value}{l l':List (List Rng)}(h:oY v l=oY v' l'):v=v'/\l=l':=by
 unfold oY at h
 injection h with h1 h2 h3 h4
 exact⟨h1,CZ h4⟩
theorem qbs{v v':Value}{l l':List U64}(h:pa v l=pa v' l'):v=v'/\l=l':=by
 unfold pa at h
 injection h with h1 h2 h3 h4
 exact⟨h1,CZ h4⟩
theorem qat{b b':Nat}{v v' w w':Value}{t t':Tbk}(h:Res.box b (sA v v' t)=Res.box b' (sA w w' t'))(h1:oY v t.lvs=oY w t'.lvs)(h2:pa v' t.fol=pa w' t'.fol):b=b'/\v=w/\v'=w'/\t=t':=by
 obtain⟨e1,e2⟩:=qbr h1
 obtain⟨e3,e4⟩:=qbs h2
 obtain⟨hb,hc⟩:=Res.box.inj h
 simp only[sA,qx0,D.own.injEq,D.v.injEq,qzH,Value.bool.injEq,true_and,and_true]at hc
 obtain⟨_,⟨c1,c2,_,c3⟩⟩:=hc
 refine⟨hb,e1,e3,?_⟩
 obtain⟨a1,⟨a2⟩,⟨a3⟩,a4,a5⟩:=t
 obtain⟨b1,⟨b2⟩,⟨b3⟩,b4,b5⟩:=t'
 simp only at e2 e4 c1 c2 c3
 subst e2;subst e4;subst c1;subst c2;subst c3
 rfl
theorem qau(x:qwL)(H:ab)(id b:Nat):ah (gp (tbB.hp x) H) id (some (.box b (tbB.ce x)))=wG H id b x.v x.v' x.t:=by
 rfl
theorem TU(A:df Z)(er:Y->D)(F:Tbk->Z->Option (Tbk×Y))(d i b:Nat)(ds:List D)(H:ab)(K:D->ab->Prop):(qeD A er F).pt d (.bptr i b 0::ds) H K=Qu er F i b (H i) (H 990) (H 991) (A.dec ds) H K:=by
 refine propext ⟨fun h=>?_,fun h=>?_⟩
 ·obtain⟨id,b',x,z,ds',h1,h2,h3,h4,h5,h6,h7⟩:=h
  cases h1
  simp only[tbB,qxD,qxY,or_false,not_or]at h5
  refine⟨x.v,x.v',x.t,h3,h4 (990,oY x.v x.t.lvs) (by simp[tbB]),h4 (991,pa x.v' x.t.fol) (by simp[tbB]),h5.1,h5.2,?_⟩
  rw[h2]
  obtain⟨⟨t',y⟩,hr⟩:=h6
  show dT (F x.t z) _
  rw[hr]
  intro w w'
  have:=h7 ⟨w,w',t'⟩ y hr
  rwa [qau]at this
 ·obtain⟨v,v',t,h1,h2,h3,h4,h5,h6⟩:=h
  cases hz:A.dec ds with
  | none=>rw[hz]at h6;exact h6.elim
  | some z=>
    rw[hz]at h6
    have h6:dT (F t z) fun q=>∀w w',K (er q.2) (wG H i b w w' q.1):=h6
    cases hF:F t z with
    | none=>rw[hF]at h6;exact h6.elim
    | some q=>
      rw[hF]at h6
      have h6:∀w w',K (er q.2) (wG H i b w w' q.1):=h6
      refine⟨i,b,⟨v,v',t⟩,z,ds,rfl,hz,h1,fun p hp=>?_,by simp[tbB,h4,h5],⟨q,hF⟩,fun x' y hq=>?_⟩
      ·simp only[tbB,qxD,qxY,or_false]at hp
       rcases hp with rfl|rfl
       ·exact h2
       ·exact h3
      ·have hq:F t z=some (x'.t,y):=hq
       rw[hF]at hq
       cases hq
       rw[qau]
       exact h6 x'.v x'.v'
theorem qgi(A:df Z)(er:Y->D)(F:Tbk->Z->Option (Tbk×Y))(b:Nat)(ds:List D):qhn 0 (qeD A er F).pt (.bptr 0 b 0::ds):=by
 refine⟨fun R=>Qu er F 0 b (R 0) (R 990) (R 991) (A.dec ds) R fun _ _=>True,fun R d u=>∃v v' t z q w w',R 0=some (.box b (sA v v' t))/\R 990=some (oY v t.lvs)/\R 991=some (pa v' t.fol)/\A.dec ds=some z/\F t z=some q/\d=er q.2/\u=[(0, .box b (sA w w' q.1)),(990,oY w q.1.lvs),(991,pa w' q.1.fol)],fun t H K=>?_⟩
 rw[TU]
 have r0:rc H (some 0) 0=H 0:=by simp only[rc];exact if_pos rfl
 have r1:rc H (some 0) 990=H 990:=by simp only[rc];exact if_pos rfl
 have r2:rc H (some 0) 991=H 991:=by simp only[rc];exact if_pos rfl
 show _↔Qu er F 0 b (rc H (some 0) 0) (rc H (some 0) 990) (rc H (some 0) 991) (A.dec ds) (rc H (some 0)) (fun _ _=>True)/\∀d u,(∃v v' t z q w w',rc H (some 0) 0=some (.box b (sA v v' t))/\rc H (some 0) 990=some (oY v t.lvs)/\rc H (some 0) 991=some (pa v' t.fol)/\A.dec ds=some z/\F t z=some q/\d=er q.2/\u=[(0, .box b (sA w w' q.1)),(990,oY w q.1.lvs),(991,pa w' q.1.fol)])->K d (gm H (some 0) u)
 rw[r0,r1,r2]
 have hp:∀ (w w':Value) (q:Tbk),gm H (some 0) [(0, .box b (sA w w' q)),(990,oY w q.lvs),(991,pa w' q.fol)]=wG H 0 b w w' q:=fun w w' q=>by
  funext i
  simp only[gm,wG,ah]
  by_cases h0:i=0
  ·subst h0;rfl
  ·by_cases h1:i=990
   ·subst h1;rfl
   ·by_cases h2:i=991
    ·subst h2;rfl
    ·have e:([(0, .box b (sA w w' q)),(990,oY w q.lvs),(991,pa w' q.fol)]:List (Nat×Res)).lookup i=none:=by
      have e0:(i==0)=false:=by simp[h0]
      have e1:(i==990)=false:=by simp[h1]
      have e2:(i==991)=false:=by simp[h2]
      simp only[List.lookup,e0,e1,e2]
     rw[e,if_neg h0,if_neg h1,if_neg h2]
     split <;> rfl
 constructor
 ·rintro⟨v,v',t,h1,h2,h3,h4,h5,h6⟩
  cases hz:A.dec ds with
  | none=>rw[hz]at h6;exact h6.elim
  | some z=>
    rw[hz]at h6
    have h6:dT (F t z) fun q=>∀w w',K (er q.2) (wG H 0 b w w' q.1):=h6
    cases hF:F t z with
    | none=>rw[hF]at h6;exact h6.elim
    | some q=>
      rw[hF]at h6
      have h6:∀w w',K (er q.2) (wG H 0 b w w' q.1):=h6
      refine⟨⟨v,v',t,h1,h2,h3,h4,h5,?_⟩,?_⟩
      ·show dT (F t z) _
       rw[hF]
       exact fun _ _=>trivial
      ·rintro d u ⟨v1,v1',t1,z1,q1,w,w',g1,g2,g3,g4,g5,rfl,rfl⟩
       rw[h1]at g1;rw[h2]at g2;rw[h3]at g3
       obtain⟨_,_,_,rfl⟩:=qat (qxO g1) (qxO g2) (qxO g3)
       cases g4
       rw[hF]at g5
       cases g5
       rw[hp]
       exact h6 w w'
 ·rintro⟨⟨v,v',t,h1,h2,h3,h4,h5,h6⟩,h7⟩
  refine⟨v,v',t,h1,h2,h3,h4,h5,?_⟩
  cases hz:A.dec ds with
  | none=>rw[hz]at h6;exact h6.elim
  | some z=>
    rw[hz]at h6
    have h6:dT (F t z) fun q=>∀w w':Value,True:=h6
    show dT (F t z) _
    cases hF:F t z with
    | none=>rw[hF]at h6;exact h6.elim
    | some q=>
      intro w w'
      have:=h7 (er q.2) _ ⟨v,v',t,z,q,w,w',h1,h2,h3,hz,hF,rfl,rfl⟩
      rwa [hp]at this
theorem qbI(A:df Z)(er:Y->D)(F:Tbk->Z->Option (Tbk×Y))(b:Nat)(dst:Option Nat)(ds:List D)(H:ab)(K:D->ab->Prop):JF 0 dst (qeD A er F) (.bptr 0 b 0::ds) H K=Qu er F 0 b (H 0) (H 990) (H 991) (A.dec ds) H K:=by
 rw[<-TU A er F (dst.getD 0)]
 exact propext ⟨fun h=>h.2,fun h=>⟨qgi A er F b ds,h⟩⟩
theorem qiU(er:Y->D)(F:Tbk->Z->Option (Tbk×Y))(id b:Nat)(v v':Value)(f l:Int)(n:Bool)(lv:List (List Rng))(fo:List U64)(o:Option Z)(H:ab)(K:D->ab->Prop):
 Qu er F id b (some (.box b [.own 990 v, .v (.int .u64 f), .v (.int .u64 l), .own 991 v', .v (.bool n)])) (some (.row v ek 1 (lv.map enc))) (some (.row v' eZ 1 (fo.map enc))) o H K=(id≠990/\id≠991/\dT o fun z=>dT (F ⟨lv,⟨f⟩,⟨l⟩,fo,n⟩ z) fun q=>∀w w',K (er q.2) (wG H id b w w' q.1)):=by
 refine propext ⟨fun⟨w,w',t,h1,h2,h3,h4,h5,h6⟩=>⟨h4,h5,?_⟩,fun h=>⟨v,v',⟨lv,⟨f⟩,⟨l⟩,fo,n⟩,rfl,rfl,rfl,h.1,h.2.1,h.2.2⟩⟩
 obtain⟨_,_,_,e⟩:=qat (t:=⟨lv,⟨f⟩,⟨l⟩,fo,n⟩) (t':=t) (b:=b) (b':=b) (qxO h1) (qxO h2) (qxO h3)
 subst e
 exact h6
def Tp(er:Y->D)(b:Nat)(post:Tbk->Y->Prop)(r:D)(H:ab):Prop:=NG tbB er b (fun s y=>post s.t y) r H
theorem qhZ{er:Y->D}{b:Nat}{post:Tbk->Y->Prop}{r:D}{H:ab}(v v':Value)(t:Tbk)(y:Y)(hr:FrzTo (fun i=>if i=0\/i=990\/i=991 then none else H i) r (er y))(h0:H 0=some (.box b (sA v v' t)))(h1:H 990=some (oY v t.lvs))(h2:H 991=some (pa v' t.fol))(hq:post t y):Tp er b post r H:=
 ⟨⟨v,v',t⟩,y,by simpa [tbB]using hr,h0,fun p hp=>by
  simp only[tbB,qxD,qxY,or_false]at hp
  rcases hp with rfl|rfl
  ·exact h1
  ·exact h2,hq⟩
def GN(cc:CC)(rs:List aj)(S:Nat->Spc)(A:df Z)(er:Y->D)(F:Tbk->Z->Option (Tbk×Y)):Prop:=
 ∀b v v' t z r,F t z=some r->vc S cc (tu rs fun d H'=>Tp er b (fun t' y=>r=(t',y)) d H') (dq (.bptr 0 b 0::A.view z)) (wG bM 0 b v v' t)
variable {P:Program}{S:Nat->Spc}{f:Nat}{im:List Nat}{cc:CC}{rs:List aj}{N:Nat}
theorem sR{A:df Z}{er:Y->D}{F:Tbk->Z->Option (Tbk×Y)}(hS:∀f,Tri P f (S f).pt)(h:ak P f im cc rs N)(hN:∀z,(A.view z).length+1<=N)(hw:GN cc rs S A er F):Tri P f (qeD A er F).pt:=
 xf (by simp[tbB]) hS h hN fun b x z hp=>by
  obtain⟨r,hr⟩:=hp
  rw[qau]
  have:=hw b x.v x.v' x.t z r hr
  have e:(fun(d:D) (H':ab)=>NG tbB er b (fun s' y=>F x.t z=some (s'.t,y)) d H')=fun d H'=>Tp er b (fun t' y=>r=(t',y)) d H':=by
   funext d H'
   unfold Tp
   congr 1
   funext s' y
   rw[hr]
   exact propext ⟨fun h=>qxO h,fun h=>congrArg some h⟩
  rw[e]
  exact this
end
@[simp] theorem qrF(m:U64)(i:Nat):decide (Vh .u64 (qaF .u64 m.val i) 1=1)=ZM m i:=id rfl
end Go.Gv

namespace Go.Gv
open Go.Proofs
def yC:CC:=gq Tryz.f317 [1,2024006,2022006,2020006] { cu:=[1,4],kz:=[990,991] } _
def xD:List aj:=[.tmp 2]
theorem OU:ak Tryz.prog AM [1,2024006,2022006,2020006] yC xD 26:=fo
def jQ:CC:=gq Tryz.f355 [] { bx:=[0],kz:=[990,991] } _
def jq:List aj:=[]
theorem Am:ak Tryz.prog fN [] jQ jq 31:=fo
def gX:CC:=gq Tryz.f341 [4,5] { ke:=[0],kz:=[990,991] } _
def gH:List aj:=[.cell 6 true 3]
theorem xM:ak Tryz.prog dt [4,5] gX gH 42:=fo
def cA:CC:=gq Tryz.f331 [3,3060000,1031990,2033000,2006006] { bx:=[0],kz:=[990,991] } _
def cx:List aj:=[.cell 4 true 3]
theorem zr:ak Tryz.prog cO [3,3060000,1031990,2033000,2006006] cA cx 98:=fo
def gW:CC:=gq Tryz.f342 [3,3095000,2005005] { bx:=[0],kz:=[990,991] } _
def gG:List aj:=[.cell 4 true 3]
theorem xL:ak Tryz.prog iO [3,3095000,2005005] gW gG 98:=fo
def cG:CC:=gq Tryz.f356 [4,3035000,3036000,2009009] { bx:=[0],kz:=[990,991] } _
def cB:List aj:=[.cell 6 true 3]
theorem vD:ak Tryz.prog eh [4,3035000,3036000,2009009] cG cB 39:=fo
def fD:CC:=gq Tryz.f318 [] { ke:=[0],kz:=[990,991] } _
def fm:List aj:=[.tmp 6]
theorem An:ak Tryz.prog kV [] fD fm 35:=fo
end Go.Gv

namespace Go.Gv
open Cod (enc dec)
variable {S S0:Nat->Spc}
@[simp] theorem qqM(t:Tbk):Tbk.mk t.lvs t.fi t.la t.fol t.nul=t:=id rfl
abbrev Ok:Spc:=qeD (a2 U64 U64) WX ED
theorem WA(fr to:U64):∀ (l:List U64) (i:Nat),(WC fr to i l).length=l.length
 | [],_=>rfl
 | f::l,i=>by rw[WC,qyr,qyr,WA fr to l (i+1)]
theorem RH{fr to f:U64} :∀ {l:List U64} {i k:Nat},l[k]? =some f->WC fr to i (l.take k) ++ (if ZM fr (i+k)=true then qfK f to else f)::l.drop (k+1)=WC fr to i (l.take (k+1)) ++l.drop (k+1)
 | [],i,k,h=>by simp at h
 | g::l,i,0,h=>by
   simp at h
   subst h
   simp[WC]
 | g::l,i,k+1,h=>by
   simp at h
   have:=RH (fr:=fr) (to:=to) (i:=i+1) h
   rw[show i+1+k=i+ (k+1) by omega]at this
   simp only[qz6,WC,qyf,qz1]
   rw[this]
theorem qiB:GN jQ jq S (a2 U64 U64) WX ED:=by
 rintro b v v' ⟨lv,fi,la,fo,nu⟩ ⟨fr,to⟩ r hF
 unfold ED at hF
 simp only at hF
 split at hF
 ·rename_i hlen
  cases hF
  have hl:(fo.length:Int)<=9223372036854775807:=by omega
  simp[jQ,jq,wG,oY,pa,sA,hl, -Bool.forall_bool, -Bool.exists_bool]
  refine ai (X:=List U64) [0,1,2] [] fo.length (fun k x=>x=WC fr to 0 (fo.take k) ++fo.drop k) (fun x=>[]) (fun x=>[(0, .box b [.own 990 v, .v (.int .u64 fi.val), .v (.int .u64 la.val), .own 991 v', .v (.bool nu)]),(990, .row v ek 1 (lv.map enc)),(991, .row v' eZ 1 (x.map enc))]) fo (by simp) (by simp) (by omega) (by simp) (by simp) (by simp[WC]) (by simp) (by simp) ?_ ?_
  ·rintro k x hk hx
   obtain⟨f,hf⟩:∃f,fo[k]? =some f:=⟨_,qxA hk⟩
   have hll:(WC fr to 0 (fo.take k)).length=k:=by rw[WA,qx4];omega
   have hxl:x.length=fo.length:=by rw[hx,qxX,hll,qyx];omega
   have hxk:x[k]? =some f:=by
    rw[hx,qxJ (by omega),hll,qzb,qyg]
    simpa using hf
   have hdr:x.drop (k+1)=fo.drop (k+1):=by
    rw[hx,List.drop_append,hll,List.drop_drop,qyy (by rw[hll];omega)]
    simp
   have htk:x.take k=WC fr to 0 (fo.take k):=by
    rw[hx,List.take_append,hll,qzb,qzh,qyI,qze (by rw[hll];omega)]
   have hset:∀g,x.set k g=WC fr to 0 (fo.take k) ++g::fo.drop (k+1):=fun g=>by
    rw[qzB,if_pos (by omega),htk,hdr]
   have hst:=RH (fr:=fr) (to:=to) (i:=0) hf
   rw[qyo,<-hset]at hst
   have hkx:k < x.length:=by omega
   obtain⟨_,hgx⟩:=qxz.1 hxk
   simp[hkx,hxk,hgx,hk,hxl, -Bool.forall_bool, -Bool.exists_bool]
   refine⟨fun hb=>?_,fun hb=>?_⟩
   ·rw[if_pos hb]at hst
    left
    rw[<-List.map_drop,<-qy2,<-hst,qzO]
    rfl
   ·rw[if_neg (by simp[hb])]at hst
    rw[show x.set k f=x from by rw[<-hgx];exact List.set_getElem_self _]at hst
    exact .inl hst
  ·rintro x hx
   rw[qx1,qyz,qyI]at hx
   subst hx
   simp[-Bool.forall_bool, -Bool.exists_bool]
   exact qhZ (er:=WX) (y:=()) v v' ⟨lv,fi,la,WC fr to 0 fo,nu⟩ (.same _) rfl rfl rfl rfl
 ·cases hF
attribute [simp] TU qbI
@[simp] theorem qo8{Y Z:Type}(er:Y->D)(F:Tbk->Z->Option (Tbk×Y))(id b:Nat)(v v':Value)(f l:Int)(n:Bool)(lv:List (List Rng))(fo:List U64)(o:Option Z)(H:ab)(K:D->ab->Prop):
 Qu er F id b (some (.box b [.own 990 v, .v (.int .u64 f), .v (.int .u64 l), .own 991 v', .v (.bool n)])) (some (.row v ek 1 (lv.map enc))) (some (.row v' eZ 1 (fo.map enc))) o H K=(id≠990/\id≠991/\dT o fun z=>dT (F ⟨lv,⟨f⟩,⟨l⟩,fo,n⟩ z) fun q=>∀w w',K (er q.2) (ah (ah (ah H 991 (some (.row w' eZ 1 (q.1.fol.map enc)))) 990 (some (.row w ek 1 (q.1.lvs.map enc)))) id (some (.box b [.own 990 w, .v (.int .u64 q.1.fi.val), .v (.int .u64 q.1.la.val), .own 991 w', .v (.bool q.1.nul)])))):=qiU er F id b v v' f l n lv fo o H K
abbrev Ij:Spc:=qeD (a2 Prt Prt) (enc (X:=Prt)) yW
theorem wQ{b:Nat}{post:Tbk->Prt->Prop}{d:D}{H:ab}(v v':Value)(t:Tbk)(y:Prt)(hd:d=enc y)(h0:H 0=some (.box b (sA v v' t)))(h1:H 990=some (oY v t.lvs))(h2:H 991=some (pa v' t.fol))(hq:post t y):Tp enc b post d H:=
 qhZ (er:=enc) (y:=y) v v' t (by rw[hd];exact .same _) h0 h1 h2 hq
theorem qad(h1:S fN=Ok):GN gX gH S (a2 Prt Prt) (enc (X:=Prt)) yW:=by
 rintro b v v' ⟨lv,fi,la,fo,nu⟩ ⟨⟨af,al,an⟩,⟨bf,bl,bn⟩⟩ r hF
 unfold yW at hF
 simp only at hF
 obtain⟨q,hl,rfl⟩:=qxK.1 hF
 cases an <;> cases bn <;> simp[gX,gH,wG,oY,pa,sA,h1,hl, -Bool.forall_bool, -Bool.exists_bool] <;> intro b1 w w' <;> exact wQ w w' q.1 _ rfl rfl rfl rfl ⟨rfl,rfl⟩
theorem qbY{set f:U64}{l:List U64}{k:Nat}(h:l[k]? =some f)(m:U64):qhP set k (l.drop k) m=qhP set (k+1) (l.drop (k+1)) (if ZM set k=true then qfK m f else m):=by
 obtain⟨h1,h2⟩:=qxz.1 h
 rw[qyb h1,h2,qhP]
end Go.Gv

namespace Go.Gv
open Cod (enc dec)
variable {S S0:Nat->Spc}
abbrev Jk(n:Nat):Spc:=qeD (a1 Rx) (enc (X:=Prt)) (Dm n).b
abbrev qaS(n:Nat):Spc:=qeD (a1 Rx) (enc (X:=Prt)) (Dm n).r
abbrev Uc(n:Nat):Spc:=qeD (a2 Rx Int) (enc (X:=Prt)) (Dm n).o
theorem PH{X:Type}{l:List X}{k:Nat}(h:k < l.length):∃x,l[k]? =some x:=⟨_,qxA h⟩
theorem tO{X:Type}{l:List X}{k:Nat}{x:X}(h:l[k]? =some x):l.drop k=x::l.drop (k+1):=by
 obtain⟨h1,h2⟩:=qxz.1 h
 rw[qyb h1,h2]
set_option maxHeartbeats 1000000 in
theorem qe4(n:Nat)(h1:S cO=Jk n)(h2:S iO=qaS n)(h3:S dt=Ij):GN cA cx S (a1 Rx) (enc (X:=Prt)) (Dm (n+1)).b:=by
 rintro b v v' t ⟨op,mn,mx,rs,ks⟩ r hF
 replace hF:qkL (Dm n).b (Dm n).r t ⟨op,mn,mx,rs,ks⟩=some r:=hF
 unfold qkL at hF
 simp only at hF
 split at hF
 ·cases hF
 rename_i hok
 have hok1:t.lvs.length<=1000/\t.fol.length<=1000:=by
  cases hb:OV t with
  | true=>exact of_decide_eq_true hb
  | false=>exact absurd (.inl hb) hok
 have hkl:ks.length<=1000:=by
  have:¬1000 < ks.length:=fun h=>hok (.inr h)
  omega
 obtain⟨hlv,hfo⟩:=hok1
 have hkl':(ks.length:Int)<=9223372036854775807:=by omega
 have hlv':(t.lvs.length:Int)<=9223372036854775807:=by omega
 split at hF
 ·rename_i e
  subst e
  obtain rfl:=qxO hF
  simp[cA,cx,wG,oY,pa,sA,hlv', -Bool.forall_bool, -Bool.exists_bool]
  refine fun b1=>⟨by omega,by omega,fun w=>⟨by omega,by omega,fun w'=>?_⟩⟩
  exact wQ w w' ⟨t.lvs++ [rs],t.fi,t.la,t.fol++ [⟨0⟩],t.nul⟩ ⟨⟨QM .u64 1 t.lvs.length⟩,⟨QM .u64 1 t.lvs.length⟩,false⟩ rfl rfl (by simp[oY,ah]) (by simp[pa,ah]) ⟨rfl,rfl⟩
 rename_i e1
 split at hF
 ·rename_i e
  subst e
  simp[cA,cx,wG,oY,pa,sA,hkl', -Bool.forall_bool, -Bool.exists_bool]
  intro b4 b6
  refine ai (X:=Tbk×Prt×Value×Value) [0,4,6,50] [4] ks.length (fun k x=>qn4 (Dm n).b (ks.drop k) x.1 x.2.1=some r) (fun x=>[]) (fun x=>[(0, .box b [.own 990 x.2.2.1, .v (.int .u64 x.1.fi.val), .v (.int .u64 x.1.la.val), .own 991 x.2.2.2, .v (.bool x.1.nul)]),(990, .row x.2.2.1 ek 1 (x.1.lvs.map enc)),(991, .row x.2.2.2 eZ 1 (x.1.fol.map enc)),(6, .box b6 [.v (.int .u64 x.2.1.first.val), .v (.int .u64 x.2.1.last.val), .v (.bool x.2.1.nul)])]) (t,CU,v,v') (by simp) (by simp) (by omega) (by simp) (by simp) (by simpa using hF) (by simp) (by simp[CU]) ?_ ?_
  ·rintro k ⟨t,p,w,w'⟩ hk hx
   obtain⟨y,hy⟩:=PH hk
   obtain⟨_,hgy⟩:=qxz.1 hy
   rw[tO hy,qn4]at hx
   obtain⟨q,hq,hx⟩:=qxx.1 hx
   obtain⟨c,hc,hx⟩:=qxx.1 hx
   simp[hk,hy,hgy,h1,h3,hq,hc, -Bool.forall_bool, -Bool.exists_bool]
   exact fun u u'=>⟨c.1,c.2,hx,u,u', .inl ⟨rfl,rfl,rfl,rfl,rfl⟩, .inl ⟨rfl,rfl⟩, .inl ⟨rfl,rfl⟩, .inl ⟨rfl,rfl,rfl⟩⟩
  ·rintro⟨t,p,w,w'⟩ hx
   rw[qyz,qn4]at hx
   obtain rfl:=qxO hx
   simp[-Bool.forall_bool, -Bool.exists_bool]
   exact wQ w w' t p rfl rfl rfl rfl ⟨rfl,rfl⟩
 rename_i e2
 split at hF
 ·rename_i e
  subst e
  simp[cA,cx,wG,oY,pa,sA,hkl', -Bool.forall_bool, -Bool.exists_bool]
  intro b4 b9
  refine ai (X:=Tbk×Prt×Value×Value) [0,4,9,67] [4] ks.length (fun k x=>ZU (Dm n).b (ks.drop k) x.1 x.2.1=some r) (fun x=>[]) (fun x=>[(0, .box b [.own 990 x.2.2.1, .v (.int .u64 x.1.fi.val), .v (.int .u64 x.1.la.val), .own 991 x.2.2.2, .v (.bool x.1.nul)]),(990, .row x.2.2.1 ek 1 (x.1.lvs.map enc)),(991, .row x.2.2.2 eZ 1 (x.1.fol.map enc)),(9, .box b9 [.v (.int .u64 x.2.1.first.val), .v (.int .u64 x.2.1.last.val), .v (.bool x.2.1.nul)])]) (t,qsT,v,v') (by simp) (by simp) (by omega) (by simp) (by simp) (by simpa using hF) (by simp) (by simp[qsT]) ?_ ?_
  ·rintro k ⟨t,p,w,w'⟩ hk hx
   obtain⟨y,hy⟩:=PH hk
   obtain⟨_,hgy⟩:=qxz.1 hy
   rw[tO hy,ZU]at hx
   obtain⟨q,hq,hx⟩:=qxx.1 hx
   simp[hk,hy,hgy,h1,hq, -Bool.forall_bool, -Bool.exists_bool]
   refine fun u u'=>⟨fun hn=>⟨q.1,_,hx,u,u', .inl ⟨rfl,rfl,rfl,rfl,rfl⟩, .inl ⟨rfl,rfl⟩, .inl ⟨rfl,rfl⟩, .inl ⟨rfl,rfl,by simp[hn]⟩⟩,fun hn=>⟨q.1,_,hx,u,u', .inl ⟨rfl,rfl,rfl,rfl,rfl⟩, .inl ⟨rfl,rfl⟩, .inl ⟨rfl,rfl⟩, .inl ⟨rfl,rfl,by simp[hn]⟩⟩⟩
  ·rintro⟨t,p,w,w'⟩ hx
   rw[qyz,ZU]at hx
   obtain rfl:=qxO hx
   simp[-Bool.forall_bool, -Bool.exists_bool]
   exact wQ w w' t p rfl rfl rfl rfl ⟨rfl,rfl⟩
 rename_i e3
 simp[cA,cx,wG,oY,pa,sA,h2,e1,e2,e3,hF, -Bool.forall_bool, -Bool.exists_bool]
 intro b1 w w'
 exact wQ w w' r.1 r.2 rfl rfl rfl rfl rfl
end Go.Gv

namespace Go.Gv
open Cod (enc dec)
variable {S S0:Nat->Spc}
theorem wL{t:Tbk}(h:OV t≠false):t.lvs.length<=1000/\t.fol.length<=1000:=by
 cases hb:OV t with
 | true=>exact of_decide_eq_true hb
 | false=>exact absurd hb h
set_option maxHeartbeats 1000000 in
theorem Ty(n:Nat)(h1:S cO=Jk n)(h2:S eh=Uc n)(h3:S dt=Ij):GN cG cB S (a2 Rx Int) (enc (X:=Prt)) (Dm (n+1)).o:=by
 rintro b v v' t ⟨y,m⟩ r hF
 replace hF:qjx (Dm n).b (Dm n).o t ⟨y,m⟩=some r:=hF
 unfold qjx at hF
 simp only at hF
 split at hF
 ·cases hF
 rename_i hok
 have hok1:=wL fun h=>hok (.inr (.inr h))
 have hm0:0<=m:=by have:¬m < 0:=fun h=>hok (.inl h);omega
 have hm1:m<=100:=by have:¬100 < m:=fun h=>hok (.inr (.inl h));omega
 obtain⟨hlv,hfo⟩:=hok1
 have hlv':(t.lvs.length:Int)<=9223372036854775807:=by omega
 split at hF
 ·rename_i e
  subst e
  obtain rfl:=qxO hF
  simp[cG,cB,wG,oY,pa,sA, -Bool.forall_bool, -Bool.exists_bool]
  intro b1
  exact wQ v v' t CU rfl rfl rfl rfl ⟨rfl,rfl⟩
 rename_i e0
 obtain⟨q,hq,hF⟩:=qxx.1 hF
 split at hF
 ·cases hF
 rename_i hok2
 have hok3:=wL hok2
 obtain⟨hlq,hfq⟩:=hok3
 have hlq':(q.1.lvs.length:Int)<=9223372036854775807:=by omega
 split at hF
 ·rename_i e
  obtain rfl:=qxO hF
  have e':(q.1.lvs.length:Int)=t.lvs.length:=by omega
  simp[cG,cB,wG,oY,pa,sA,h1,hq,e0,hlv',hlq',e,e', -Bool.forall_bool, -Bool.exists_bool]
  intro b1 w w'
  exact wQ w w' q.1 CU rfl rfl rfl rfl ⟨rfl,rfl⟩
 rename_i e
 obtain⟨c,hc,hF⟩:=qxx.1 hF
 obtain⟨l,hl,hF⟩:=qxK.1 hF
 subst hF
 have e':¬ (q.1.lvs.length:Int)=t.lvs.length:=by omega
 have hin:InR .i64 (m -1):=by simp only[InR];omega
 simp[cG,cB,wG,oY,pa,sA,h1,h2,h3,hq,hc,hl,e0,hlv',hlq',e,e',hin, -Bool.forall_bool, -Bool.exists_bool]
 exact fun b1 w w'=>wQ w w' l.1 _ rfl rfl rfl rfl ⟨rfl,rfl⟩
end Go.Gv
