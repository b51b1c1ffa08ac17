/- A part of the framework and of the walks: T23 T43 T41 T40 T42. -/
import Derived.Shelf.SlMaps.Clone
import Derived.Test.YtphdikcommfnhaaGreatDoorGb37
import Derived.Test.YtphdikcommfnhaaGreatDoorGb27
import Derived.Test.YtphdikcommfnhaaGreatDoorGb38
import Derived.Test.YtphdikcommfnhaaGreatDoorGb39
set_option linter.unusedSimpArgs false
set_option linter.unusedVariables false
set_option linter.unusedSectionVars false

namespace Go.Gv
open Cod (enc dec)
section
variable {Y Z:Type}
def qe5:JA Pst:=Gp kR
def qoe(A:dc Z)(er:Y->D)(pre:Pst->Z->Prop)(post:Pst->Z->Pst->Y->Prop):Spc:=qjT qe5 A er pre post
def qrf(er:Y->D)(pre:Pst->Z->Prop)(post:Pst->Z->Pst->Y->Prop)(id b:Nat)(r:Option Res)(o:Option Z)(H:ab)(K:D->ab->Prop):Prop:=
 ∃x,r=some (.box b (kR x))/\dI o fun z=>pre x z/\∀x' y,post x z x' y->K (er y) (ah H id (some (.box b (kR x'))))
theorem WI{x y:Pst}(h:kR x=kR y):x=y:=by
 obtain⟨l,a,d,e,f⟩:=x
 obtain⟨l',a',d',e',f'⟩:=y
 simp only[kR,qti]at h
 obtain⟨h1,h2,h3,h4,h5,_⟩:=h
 have h1:=aL h1
 have h2:=aL h2
 have h3:=aL h3
 have h4:=aL h4
 have h5:=aL h5
 subst h1;subst h2;subst h3;subst h4;subst h5
 rfl
@[simp] theorem qe4(A:dc Z)(er:Y->D)(pre:Pst->Z->Prop)(post:Pst->Z->Pst->Y->Prop)(d i b:Nat)(ds:List D)(H:ab)(K:D->ab->Prop):(qoe A er pre post).pt d (.bptr i b 0::ds) H K=qrf er pre post i b (H i) (A.dec ds) H K:=by
 refine propext ⟨fun h=>?_,fun h=>?_⟩
 ·obtain⟨id,b',x,z,ds',h1,h2,h3,h4,h5,h6,h7⟩:=h
  cases h1
  refine⟨x,h3,?_⟩
  rw[h2]
  exact⟨h6,h7⟩
 ·obtain⟨x,h1,h2⟩:=h
  cases hz:A.dec ds with
  | none=>rw[hz]at h2;exact h2.elim
  | some z=>rw[hz]at h2;exact⟨i,b,x,z,ds,rfl,hz,h1,fun p hp=>by simp[qe5,Gp]at hp,by simp[qe5,Gp],h2.1,h2.2⟩
def Jw(er:Y->D)(b:Nat)(post:Pst->Y->Prop)(r:D)(H:ab):Prop:=Lz qe5 er b post r H
theorem Do{er:Y->D}{b:Nat}{post:Pst->Y->Prop}{r:D}{H:ab}(x:Pst)(y:Y)(hr:FrzTo (fun i=>if i=0 then none else H i) r (er y))(h0:H 0=some (.box b (kR x)))(hq:post x y):Jw er b post r H:=
 ⟨x,y,by simpa [qe5,Gp]using hr,h0,fun p hp=>by simp[qe5,Gp]at hp,hq⟩
def nT(cc:CC)(rs:List aj)(S:Nat->Spc)(A:dc Z)(er:Y->D)(pre:Pst->Z->Prop)(post:Pst->Z->Pst->Y->Prop):Prop:=
 ∀b x z,pre x z->vc S cc (sy rs fun r H'=>Jw er b (post x z) r H') (dh (.bptr 0 b 0::A.view z)) (ah bU 0 (some (.box b (kR x))))
variable {P:Program}{S:Nat->Spc}{f:Nat}{im:List Nat}{cc:CC}{rs:List aj}{N:Nat}
theorem Q5{A:dc Z}{er:Y->D}{pre:Pst->Z->Prop}{post:Pst->Z->Pst->Y->Prop}(hS:∀f,Tri P f (S f).pt)(h:aq P f im cc rs N)(hN:∀z,(A.view z).length+1<=N)(hw:nT cc rs S A er pre post):Tri P f (qoe A er pre post).pt:=
 vM (by simp[qe5,Gp]) hS h hN fun b x z hp=>hw b x z hp
end
section
variable {Y Z:Type}
def R9(A:dc Z)(er:Y->D)(F:Pst->Z->Option (Pst×Y)):Spc:=qoe A er (fun s z=>∃r,F s z=some r) (fun s z s' y=>F s z=some (s',y))
def Ye(er:Y->D)(F:Pst->Z->Option (Pst×Y))(id b:Nat)(r:Option Res)(o:Option Z)(H:ab)(K:D->ab->Prop):Prop:=
 ∃x,r=some (.box b (kR x))/\dI o fun z=>dI (F x z) fun q=>K (er q.2) (ah H id (some (.box b (kR q.1))))
@[congr] theorem qla{er:Y->D}{F:Pst->Z->Option (Pst×Y)}{id b:Nat}{r r':Option Res}{o o':Option Z}{H:ab}{K:D->ab->Prop}(h1:r=r')(h2:o=o'):Ye er F id b r o H K=Ye er F id b r' o' H K:=by subst h1;subst h2;rfl
theorem qiu{F:Option (Pst×Y)}{k:Pst->Y->Prop} :((∃r,F=some r)/\∀x' y,F=some (x',y)->k x' y)=dI F fun q=>k q.1 q.2:=by
 cases F with
 | none=>
   refine propext (Iff.intro (fun h=>?_) (fun h=>?_))
   ·obtain⟨⟨r,h⟩,_⟩:=h
    cases h
   ·exact False.elim h
 | some r=>
   refine propext (Iff.intro (fun h=>h.2 _ _ rfl) (fun h=>⟨⟨_,rfl⟩,fun x' y e=>?_⟩))
   cases e
   exact h
@[simp] theorem qoc(A:dc Z)(er:Y->D)(F:Pst->Z->Option (Pst×Y))(d i b:Nat)(ds:List D)(H:ab)(K:D->ab->Prop):(R9 A er F).pt d (.bptr i b 0::ds) H K=Ye er F i b (H i) (A.dec ds) H K:=by
 unfold R9 Ye
 rw[qe4]
 unfold qrf
 refine propext (exists_congr fun x=>and_congr_right fun _=>?_)
 cases A.dec ds with
 | none=>exact qtT
 | some z=>exact iff_of_eq qiu
@[simp] theorem qod(er:Y->D)(F:Pst->Z->Option (Pst×Y))(id b:Nat)(l:List FH)(p dp e f:Int)(o:Option Z)(H:ab)(K:D->ab->Prop):
 Ye er F id b (some (.box b [.list 3 (l.map enc), .v (.int .i64 p), .v (.int .i64 dp), .v (.int .i64 e), .v (.int .i64 f)])) o H K=dI o fun z=>dI (F ⟨l,p,dp,e,f⟩ z) fun q=>K (er q.2) (ah H id (some (.box b (kR q.1)))):=by
 refine propext ⟨fun⟨x,h1,h2⟩=>?_,fun h=>⟨⟨l,p,dp,e,f⟩,rfl,h⟩⟩
 have e1:kR ⟨l,p,dp,e,f⟩=kR x:=by
  have:=qs8 h1
  exact(Res.box.inj this).2
 have:=WI e1
 subst this
 exact h2
variable {P:Program}{S:Nat->Spc}{f:Nat}{im:List Nat}{cc:CC}{rs:List aj}{N:Nat}
theorem cZ{A:dc Z}{er:Y->D}{F:Pst->Z->Option (Pst×Y)}(hS:∀f,Tri P f (S f).pt)(h:aq P f im cc rs N)(hN:∀z,(A.view z).length+1<=N)
 (hw:nT cc rs S A er (fun s z=>∃r,F s z=some r) (fun s z s' y=>F s z=some (s',y))):Tri P f (R9 A er F).pt:=Q5 hS h hN hw
end
end Go.Gv

namespace Go.Gv
open Cod (enc dec)
open Go.Proofs Go.Shelf Go.RowKit
section
variable {X:Type}
def qot(A:dc X)(pre:X->List D->Prop)(post:X->List D->List D->Prop):PT:=fun d ds H K=>∃id v l ds' x,ds= .own id v::ds'/\A.dec ds'=some x/\H id=some (.mrow v l)/\pre x l/\∀l',post x l l'->K (.tup []) (ah H id (some (.mrow v l')))
theorem qb7(A:dc X)(pre:X->List D->Prop)(post:X->List D->List D->Prop):ph (qot A pre post):=fun d ds H K K' hk ⟨id,v,l,ds',x,h1,h2,h3,h4,h5⟩=>⟨id,v,l,ds',x,h1,h2,h3,h4,fun l' hp=>hk _ _ (h5 l' hp)⟩
def qov(A:dc X)(pre:X->List D->Prop)(post:X->List D->List D->Prop):Spc:= .gen _ (qb7 A pre post)
def qiD(A:dc X)(pre:X->List D->Prop)(post:X->List D->List D->Prop)(id:Nat)(v:Value)(ds:List D)(r:Option Res)(H:ab)(K:D->ab->Prop):Prop:=match r with
 | some (.mrow v' l)=>v'=v/\dI (A.dec ds) fun x=>pre x l/\∀l',post x l l'->K (.tup []) (ah H id (some (.mrow v l')))
 | _=>False
@[congr] theorem qos{A:dc X}{pre:X->List D->Prop}{post:X->List D->List D->Prop}{id:Nat}{v:Value}{ds ds':List D}{r r':Option Res}{H:ab}{K:D->ab->Prop}(h1:ds=ds')(h2:r=r'):qiD A pre post id v ds r H K=qiD A pre post id v ds' r' H K:=by subst h1;subst h2;rfl
@[simp] theorem qiC(A:dc X)(pre:X->List D->Prop)(post:X->List D->List D->Prop)(id:Nat)(v v':Value)(ds l:List D)(H:ab)(K:D->ab->Prop):qiD A pre post id v ds (some (.mrow v' l)) H K=(v'=v/\dI (A.dec ds) fun x=>pre x l/\∀l',post x l l'->K (.tup []) (ah H id (some (.mrow v l')))):=_root_.id rfl
@[simp] theorem qou(A:dc X)(pre:X->List D->Prop)(post:X->List D->List D->Prop)(d i:Nat)(v:Value)(ds:List D)(H:ab)(K:D->ab->Prop):(qov A pre post).pt d (.own i v::ds) H K=qiD A pre post i v ds (H i) H K:=by
 refine propext ⟨fun h=>?_,fun h=>?_⟩
 ·obtain⟨id,v,l,ds',x,h1,h2,h3,h4,h5⟩:=h
  cases h1
  rw[h3,qiC,h2]
  exact⟨rfl,h4,h5⟩
 ·unfold qiD at h
  split at h
  ·rename_i v' l hr
   obtain⟨rfl,h⟩:=h
   cases hd:A.dec ds with
   | none=>rw[hd]at h;exact h.elim
   | some x=>rw[hd]at h;exact⟨i,v',l,ds,x,rfl,hd,hr,h.1,h.2⟩
  ·exact h.elim
def qki(v:Value)(q:List D->Prop)(r:D)(H':ab):Prop:=∃l,r= .tup []/\H' 0=some (.mrow v l)/\q l
def qav(cc:CC)(rs:List aj)(S:Nat->Spc)(A:dc X)(pre:X->List D->Prop)(post:X->List D->List D->Prop):Prop:=
 ∀v l x,pre x l->vc S cc (sy rs fun r H'=>qki v (post x l) r H') (dh (.own 0 v::A.view x)) (ah bU 0 (some (.mrow v l)))
variable {P:Program}{S:Nat->Spc}{f:Nat}{im:List Nat}{cc:CC}{rs:List aj}{N:Nat}{A:dc X}
theorem Q6{pre:X->List D->Prop}{post:X->List D->List D->Prop}(hS:∀f,Tri P f (S f).pt)(h:aq P f im cc rs N)(hN:∀x,(A.view x).length+1<=N)(hw:qav cc rs S A pre post):Tri P f (qov A pre post).pt:=by
 obtain⟨uz,enter,fn,code,h1,h2,h3,h4,h5⟩:=h
 refine lX hS uz h1 h2 enter h3 h4 h5 ?_
 rintro ds H d K ⟨id,v,l,ds',x,rfl,hd,hid,hp,hK⟩
 have hl:=A.le ds' x hd
 refine⟨by simp only[qtK];rw[hl.1];exact hN x, .own 0 v::A.view x,ah bU 0 (some (.mrow v l)),fun _=>id, .cons (.own _ _ _) hl,fun i r h=>?_,fun i j r s h h' _=>?_,_,hw v l x hp,?_⟩
 ·by_cases e:i=0
  ·subst e
   simp only[ah,if_true]at h
   cases h
   exact hid
  ·simp[ah,e]at h
 ·have a:i=0:=by
   by_cases e:i=0
   ·exact e
   ·simp[ah,e]at h
  have b:j=0:=by
   by_cases e:j=0
   ·exact e
   ·simp[ah,e]at h'
  exact a.trans b.symm
 ·rintro r H' ⟨l',rfl,hj,hpost⟩
  refine⟨.tup [],bU,ah H id (some (.mrow v l')),fun i=>if i=id then some 0 else none, .same _,fun j q h=>by simp at h,hK l' hpost,fun i s hi=>?_,fun i j' k s q hi hj' e1 e2=>?_⟩
  ·by_cases e:i=id
   ·subst e
    simp only[ah,if_true]at hi
    cases hi
    simpa using hj
   ·simp only[ah,e,if_false]at hi ⊢
    exact⟨hi,fun k q h he=>e he.symm⟩
  ·have a:i=id:=by
    by_cases e:i=id
    ·exact e
    ·simp[e]at e1
   have b:j'=id:=by
    by_cases e:j'=id
    ·exact e
    ·simp[e]at e2
   exact a.trans b.symm
end
def qpO:PT:=fun d ds H K=>∃es,ds=[.mp es]/\(es=[]->K (.mp []) H)/\(es≠ []->∀v,K (.own d v) (ah H d (some (.mrow v es))))
theorem qc0:ph qpO:=fun d ds H K K' hk ⟨es,h1,h2,h3⟩=>⟨es,h1,fun h=>hk _ _ (h2 h),fun h v=>hk _ _ (h3 h v)⟩
def clC:Spc:= .gen _ qc0
@[simp] theorem qpP(d:Nat)(es:List D)(H:ab)(K:D->ab->Prop):clC.pt d [.mp es] H K=((es=[]->K (.mp []) H)/\(es≠ []->∀v,K (.own d v) (ah H d (some (.mrow v es))))):=
 propext ⟨fun⟨es',h1,h2,h3⟩=>by cases h1;exact⟨h2,h3⟩,fun⟨h2,h3⟩=>⟨es,rfl,h2,h3⟩⟩
theorem Vb{P:Program}{ρ:Ren}{fc:Nat}(L:SlLaysW.n5 P ρ)(hf:ρ.f 5=fc)(ef:eA P fc):Tri P fc clC.pt:=by
 subst hf
 intro O tp w vs ds H d K hO htl hsat hlen hargs hA
 obtain⟨es,rfl,h0,h1⟩:=hA
 match vs,hlen,hargs with
 | [v0],_,hargs=>
 refine⟨ef,?_⟩
 have hv:=hargs 0 v0 _ rfl rfl
 have hW:StW ⟨O,tp,w,bT H,0, []⟩ tp H w:=⟨hO,fun _ h=>h,fun _ h=> .inl h,⟨htl.1,htl.2⟩, .refl _ _ _,fun _ h=> .inl h,hsat⟩
 have fin:∀ {H':ab} {w':World} {x:Value} {r:D},StW ⟨O,tp,w,bT H,0, []⟩ tp H' w'->K r H'->R tp (aP O tp H' w') w' x r->QH O tp H w K (.returned x) w':=fun {H' w' x r} h hk hr=>
  ⟨x,r,H',tp,rfl,hk,fun _ h=>h,fun _ h=> .inl h,h.tpl.1,h.step,h.loc,h.sat,hr⟩
 cases hv with
 | nomp=>
   refine(AnyW.maps_Clone_nil L w).mono ?_
   rintro e w' ⟨rfl,rfl⟩
   exact fin hW (h0 rfl) .nomp
 | mp b ents clock _ hI hh hl hb h=>
   refine(AnyW.maps_Clone L b ents clock w hh).mono ?_
   rintro e w' ⟨rfl,rfl⟩
   have hnew:(w.alloc (.map ents clock)).heap[w.heap.size]? =some (.map ents clock):=(MapKept.heap_alloc w _).1
   by_cases he:es=[]
   ·subst he
    obtain⟨hW',move⟩:=hW.grow (GrB.alloc w (.map ents clock) none)
    refine fin hW' (h0 rfl) (.mp _ ents clock [] ⟨?_,fun h=>?_,fun h=>?_,fun h=>?_⟩ hnew hl hb fun k e c _ hc=>by simp at hc)
    ·exact(qs0.1 hnew).1
    ·exact absurd (hO _ h) (qvi _)
    ·exact absurd (htl.1 _ h) (qvi _)
    ·obtain⟨i,r,h1,h2⟩:=h
     exact absurd ((hsat.ok i r h1).lt h2) (qvi _)
   ·obtain⟨hW',move⟩:=hW.own d (some (.mrow (.map (some w.heap.size)) es)) (GrB.alloc w (.map ents clock) none) (fun b h=>by cases h)
     (fun r b h1 h2=>by cases h1;cases h2;exact .inl (qs2 _))
     (fun mv r hr=>by
       cases hr
       exact⟨_,ents,clock,rfl,hnew,hb,hl,fun k e c he hc=>mv _ _ (h k e c he hc)⟩)
    exact fin hW' (h1 he _) (.own _ _ rfl)
end Go.Gv

namespace Go.Gv
open Cod (enc dec)
def CR(tp I:Nat->Prop)(w:World)(f:Nat->Value)(cs:List D):Prop:=∀ (k:Nat) (c:D),cs[k]? =some c->R tp I w (f k) c
def qaV{X:Type}[Cod X](x:X):Prop:=∀ (tp I:Nat->Prop) (w:World) (f:Nat->Value) (y:X),CR tp I w f (enc x).cells->CR tp I w f (enc y).cells->x=y
theorem GG{tp I:Nat->Prop}{w:World}{v:Value}{a b:Int}(h1:R tp I w v (enc a))(h2:R tp I w v (enc b)):a=b:=by
 have e1:v= .int .i64 a:=R.inv_v h1
 have e2:v= .int .i64 b:=R.inv_v h2
 rw[e1]at e2
 cases e2;rfl
theorem ZK{tp I:Nat->Prop}{w:World}{v:Value}{a b:Bool}(h1:R tp I w v (enc a))(h2:R tp I w v (enc b)):a=b:=by
 have e1:v= .bool a:=R.inv_v h1
 have e2:v= .bool b:=R.inv_v h2
 rw[e1]at e2
 cases e2;rfl
theorem zY{tp I:Nat->Prop}{w:World}{v:Value}{a b:B}(h1:R tp I w v (enc a))(h2:R tp I w v (enc b)):a=b:=by
 have e1:v= .string a:=R.inv_v h1
 have e2:v= .string b:=R.inv_v h2
 rw[e1]at e2
 cases e2;rfl
theorem R.inv_list{tp I:Nat->Prop}{w:World}{v:Value}{n:Nat}{es:List D}(h:R tp I w v (.list n es)):(es=[]/\∃a cap,v= .slice a 0 cap)\/
 (∃ (b off cap:Nat) (f:Nat->Value),v= .slice (some ⟨b,off,none⟩) es.length cap/\(∀d∈es,d.cells.length=n)/\(∀ (k:Nat) (c:D),(bq es)[k]? =some c->w.cell? ⟨b,off+k,none⟩=some (f k))/\∀ (k:Nat) (c:D),(bq es)[k]? =some c->R tp I w (f k) c):=by
 generalize hd:D.list n es=d at h
 cases h <;> first|cases hd;done|skip
 ·cases hd
  exact .inl ⟨rfl,_,_,rfl⟩
 ·rename_i b off cap n' es' f hI hc hm hz hn hcell h1 h
  cases hd
  exact .inr ⟨b,off,cap,f,rfl,fun d hd=>(hn d hd).2,hcell,h⟩
theorem PQ{X:Type}[Cod X]{tp I:Nat->Prop}{w:World}{v:Value}{l l':List X}(hw:0 < Cod.wd X)(hl:∀x∈l,qaV x)(h1:R tp I w v (enc l))(h2:R tp I w v (enc l')):l=l':=by
 have h1:R tp I w v (.list (Cod.wd X) (l.map enc)):=h1
 have h2:R tp I w v (.list (Cod.wd X) (l'.map enc)):=h2
 have nil:∀ {k:List X},k.map (enc (X:=X))=[]->k=[]:=fun {k} h=>by cases k with|nil=>rfl|cons a k=>simp at h
 rcases h1.inv_list with⟨e1,a,cap,rfl⟩|⟨b,off,cap,f,rfl,hn,hcell,hR⟩
 ·rcases h2.inv_list with⟨e2,_⟩|⟨b',off',cap',f',e,_⟩
  ·rw[nil e1,nil e2]
  ·injection e with _ e _
   rw[nil e1]
   have:l'.length=0:=by simpa using e.symm
   exact(qtw.1 this).symm
 ·rcases h2.inv_list with⟨e2,a,cap',e⟩|⟨b',off',cap',f',e,hn',hcell',hR'⟩
  ·injection e with _ e _
   rw[nil e2]
   have:l.length=0:=by simpa using e
   exact qtw.1 this
  ·injection e with e3 e4 _
   injection e3 with e3
   injection e3 with e5 e6 _
   subst e5;subst e6
   have hlen:l.length=l'.length:=by simpa using e4
   refine quV hlen fun i hi hi'=>?_
   refine hl l[i] (qud _) tp I w (fun j=>f (i*Cod.wd X+j)) l'[i] (fun j c hj=>?_) (fun j c hj=>?_)
   ·have hjw:j < Cod.wd X:=by rw[<-Cod.wid l[i]];exact(qsT.1 hj).1
    refine hR _ c ?_
    rw[di hn hjw,qta,qsU hi]
    exact hj
   ·have hjw:j < Cod.wd X:=by rw[<-Cod.wid l'[i]];exact(qsT.1 hj).1
    have g2:(bq (l'.map (enc (X:=X))))[i*Cod.wd X+j]? =some c:=by
     rw[di hn' hjw,qta,qsU hi']
     exact hj
    have hj1:j < (enc l[i]).cells.length:=by rw[Cod.wid];exact hjw
    have g1:(bq (l.map (enc (X:=X))))[i*Cod.wd X+j]? =some (enc l[i]).cells[j]:=by
     rw[di hn hjw,qta,qsU hi]
     exact qsU hj1
    have c1:=hcell _ _ g1
    have c2:=hcell' _ _ g2
    rw[c1]at c2
    have c3:=qs8 c2
    show R tp I w (f (i*Cod.wd X+j)) c
    rw[c3]
    exact hR' _ c g2
mutual
theorem PR:∀c:Cond,qaV c
 | .mk op n a v l fo ks=>by
   have ih:=Ll ks
   rintro tp I w f ⟨op',n',a',v',l',fo',ks'⟩ h1 h2
   rw[IZ]at h1 h2
   have e0:=GG (h1 0 _ rfl) (h2 0 _ rfl)
   have e1:=zY (h1 1 _ rfl) (h2 1 _ rfl)
   have e2:=zY (h1 2 _ rfl) (h2 2 _ rfl)
   have e3:=zY (h1 3 _ rfl) (h2 3 _ rfl)
   have e4:=zY (h1 4 _ rfl) (h2 4 _ rfl)
   have e5:=ZK (h1 5 _ rfl) (h2 5 _ rfl)
   have e6:=PQ (l:=ks) (l':=ks') (by decide) ih (h1 6 _ rfl) (h2 6 _ rfl)
   rw[e0,e1,e2,e3,e4,e5,e6]
theorem Ll:∀ks:List Cond,∀c∈ks,qaV c
 | [],c,h=>by cases h
 | k::ks,c,h=>by
   have i1:=PR k
   have i2:=Ll ks
   rcases qsY.1 h with rfl|h
   ·exact i1
   ·exact i2 c h
end
theorem Zy(op:Int)(c:Cond)(l r:B)(mn mx:Int)(ks:List Pat):(enc (Pat.mk op c l r mn mx ks)).cells=enc op::((enc c).cells++ [enc l,enc r,enc mn,enc mx,enc ks]):=by
 obtain⟨cop,n,a,v,cl,fo,cks⟩:=c
 simp
theorem Ul{tp I:Nat->Prop}{w:World}{f:Nat->Value}{a b c:List D}(h:CR tp I w f (a++ (b++c))):CR tp I w (fun k=>f (a.length+k)) b:=fun k d hk=>by
 refine h (a.length+k) d ?_
 rw[qs3 (by omega),quR,qtd (qsT.1 hk).1]
 exact hk
mutual
theorem Ud:∀p:Pat,qaV p
 | .mk op c l r mn mx ks=>by
   have ih:=PP ks
   rintro tp I w f ⟨op',c',l',r',mn',mx',ks'⟩ h1 h2
   rw[Zy]at h1 h2
   have hc:c=c':=by
    refine PR c tp I w (fun k=>f (1+k)) c' ?_ ?_
    ·exact Ul (a:=[enc op]) h1
    ·exact Ul (a:=[enc op']) h2
   subst hc
   have wc:(enc c).cells.length=7:=Cod.wid c
   have at1:∀ (j:Nat) (d:D), [enc l,enc r,enc mn,enc mx,enc ks][j]? =some d->R tp I w (f (8+j)) d:=fun j d hj=>by
    refine h1 (8+j) d ?_
    rw[show 8+j=(7+j) +1 by omega,qtW,qs3 (by omega),wc,quR]
    exact hj
   have qd1:∀ (j:Nat) (d:D), [enc l',enc r',enc mn',enc mx',enc ks'][j]? =some d->R tp I w (f (8+j)) d:=fun j d hj=>by
    refine h2 (8+j) d ?_
    rw[show 8+j=(7+j) +1 by omega,qtW,qs3 (by omega),wc,quR]
    exact hj
   have e0:=GG (h1 0 _ rfl) (h2 0 _ rfl)
   have e1:=zY (at1 0 _ rfl) (qd1 0 _ rfl)
   have e2:=zY (at1 1 _ rfl) (qd1 1 _ rfl)
   have e3:=GG (at1 2 _ rfl) (qd1 2 _ rfl)
   have e4:=GG (at1 3 _ rfl) (qd1 3 _ rfl)
   have e5:=PQ (l:=ks) (l':=ks') (by decide) ih (at1 4 _ rfl) (qd1 4 _ rfl)
   rw[e0,e1,e2,e3,e4,e5]
theorem PP:∀ks:List Pat,∀c∈ks,qaV c
 | [],c,h=>by cases h
 | k::ks,c,h=>by
   have i1:=Ud k
   have i2:=PP ks
   rcases qsY.1 h with rfl|h
   ·exact i1
   ·exact i2 c h
end
def rz(d:D)(p:Pat):Prop:=∃cs off,d= .cptr cs off/\off+13<=cs.length/\(cs.drop off).take 13=(enc p).cells
theorem wn{cs:List D}{off:Nat}{p:Pat}(h1:off+13<=cs.length)(h2:(cs.drop off).take 13=(enc p).cells){j:Nat}(hj:j < 13):cs[off+j]? =(enc p).cells[j]?:=by
 rw[<-h2,qtc,if_pos hj,qty]
theorem R.inv_cptr{tp I:Nat->Prop}{w:World}{v:Value}{cs:List D}{off:Nat}(h:R tp I w v (.cptr cs off)):∃ (b base:Nat) (f:Nat->Value),v= .pointer (some ⟨b,base+off,none⟩)/\
 (∀ (k:Nat) (c:D),cs[k]? =some c->w.cell? ⟨b,base+k,none⟩=some (f k))/\∀ (k:Nat) (c:D),cs[k]? =some c->R tp I w (f k) c:=by
 generalize hd:D.cptr cs off=d at h
 cases h <;> first|cases hd;done|skip
 rename_i b base cs' off' f hI hz hcell h1 h
 cases hd
 exact⟨b,base,f,rfl,hcell,h⟩
theorem Vo{d d':D}{p p':Pat}(h1:rz d p)(h2:rz d' p'){tp I:Nat->Prop}{w:World}{v:Value}(r1:R tp I w v d)(r2:R tp I w v d'):p=p':=by
 obtain⟨cs,off,rfl,hl,hc⟩:=h1
 obtain⟨cs',off',rfl,hl',hc'⟩:=h2
 obtain⟨b,base,f,rfl,g1,g2⟩:=r1.inv_cptr
 obtain⟨b',base',f',e,g1',g2'⟩:=r2.inv_cptr
 injection e with e
 injection e with e
 injection e with e1 e2 _
 subst e1
 have wp:(enc p).cells.length=13:=Cod.wid p
 have wp':(enc p').cells.length=13:=Cod.wid p'
 refine Ud p tp I w (fun k=>f (off+k)) p' (fun k c hk=>?_) (fun k c hk=>?_)
 ·have hk13:k < 13:=by rw[<-wp];exact(qsT.1 hk).1
  exact g2 _ c (by rw[wn hl hc hk13];exact hk)
 ·have hk13:k < 13:=by rw[<-wp'];exact(qsT.1 hk).1
  have q2:cs'[off'+k]? =some c:=by rw[wn hl' hc' hk13];exact hk
  have hk1:off+k < cs.length:=by omega
  have q1:cs[off+k]? =some cs[off+k]:=qsU hk1
  have c1:=g1 _ _ q1
  have c2:=g1' _ _ q2
  rw[<-qub]at c1 c2
  rw[e2,c2]at c1
  have c3:=qs8 c1
  show R tp I w (f (off+k)) c
  rw[<-c3]
  exact g2' _ c q2
end Go.Gv

namespace Go.Gv
open Cod (enc dec)
section
variable {X Z:Type}
def qqi(A:dc X)(pre:D×X->Prop)(er:Z->D)(post:D×X->Z->Prop):PT:=fun d ds H K=>∃id b cells ds' x,ds= .bptr id b 0::ds'/\A.dec ds'=some x/\H id=some (.box b cells)/\pre (.cptr cells 0,x)/\∀z,post (.cptr cells 0,x) z->K (er z) H
theorem qda(A:dc X)(pre:D×X->Prop)(er:Z->D)(post:D×X->Z->Prop):ph (qqi A pre er post):=fun d ds H K K' hk ⟨id,b,cells,ds',x,h1,h2,h3,h4,h5⟩=>⟨id,b,cells,ds',x,h1,h2,h3,h4,fun z hz=>hk _ _ (h5 z hz)⟩
def qd0(A:dc X)(pre:D×X->Prop)(er:Z->D)(post:D×X->Z->Prop):Spc:= .gen _ (qda A pre er post)
def qdZ(A:dc X)(pre:D×X->Prop)(er:Z->D)(post:D×X->Z->Prop)(b:Nat)(ds:List D)(r:Option Res)(H:ab)(K:D->ab->Prop):Prop:=match r with
 | some (.box b' cells)=>b'=b/\dI (A.dec ds) fun x=>pre (.cptr cells 0,x)/\∀z,post (.cptr cells 0,x) z->K (er z) H
 | _=>False
@[congr] theorem qqh{A:dc X}{pre:D×X->Prop}{er:Z->D}{post:D×X->Z->Prop}{b:Nat}{ds ds':List D}{r r':Option Res}{H:ab}{K:D->ab->Prop}(h1:ds=ds')(h2:r=r'):qdZ A pre er post b ds r H K=qdZ A pre er post b ds' r' H K:=by subst h1;subst h2;rfl
@[simp] theorem qad(A:dc X)(pre:D×X->Prop)(er:Z->D)(post:D×X->Z->Prop)(b b':Nat)(ds:List D)(cells:List D)(H:ab)(K:D->ab->Prop):qdZ A pre er post b ds (some (.box b' cells)) H K=(b'=b/\dI (A.dec ds) fun x=>pre (.cptr cells 0,x)/\∀z,post (.cptr cells 0,x) z->K (er z) H):=id rfl
@[simp] theorem qae(A:dc X)(pre:D×X->Prop)(er:Z->D)(post:D×X->Z->Prop)(d i b:Nat)(ds:List D)(H:ab)(K:D->ab->Prop):(qd0 A pre er post).pt d (.bptr i b 0::ds) H K=qdZ A pre er post b ds (H i) H K:=by
 refine propext ⟨fun h=>?_,fun h=>?_⟩
 ·obtain⟨id,b',cells,ds',x,h1,h2,h3,h4,h5⟩:=h
  cases h1
  rw[h3,qad,h2]
  exact⟨rfl,h4,h5⟩
 ·unfold qdZ at h
  split at h
  ·rename_i b' cells hr
   obtain⟨rfl,h⟩:=h
   cases hd:A.dec ds with
   | none=>rw[hd]at h;exact h.elim
   | some x=>rw[hd]at h;exact⟨i,b',cells,ds,x,rfl,hd,hr,h.1,h.2⟩
  ·exact h.elim
theorem Fj{P:Program}{f:Nat}{A:dc X}{pre:D×X->Prop}{er:Z->D}{post:D×X->Z->Prop}(hf:Tri P f (bp (aD A) pre er post).pt)(hflat:∀z,QK (er z)):Tri P f (qd0 A pre er post).pt:=by
 intro O tp w vs ds H d K hO htl hsat hlen hargs hA
 obtain⟨id,bk,cells,ds',x,rfl,hd,hid,hp,hK⟩:=hA
 cases vs with
 | nil=>simp at hlen
 | cons v0 vs=>
   have hv0:v0= .pointer (some ⟨bk,0,none⟩):=by
    have:=hargs 0 v0 (.bptr id bk 0) rfl rfl
    cases this;rfl
   subst hv0
   let O':Nat->Prop:=fun b=>O b\/ ∃i r,i≠id/\H i=some r/\r.blk=some b
   have himm:∀b,aP O tp H w b->aP O' tp bU w b:=fun b hb=>⟨hb.1,fun h=>h.elim hb.2.1 fun⟨i,r,_,h1,h2⟩=>hb.2.2.2 ⟨i,r,h1,h2⟩,hb.2.2.1,fun⟨i,r,h1,_⟩=>by simp at h1⟩
   have hmv:∀y e,R tp (aP O tp H w) w y e->R tp (aP O' tp bU w) w y e:=fun y e hr=>hr.mono (fun _ h=>h) (fun b hb=>⟨himm b hb,rfl⟩) (fun b _=> .refl _ _)
   have hl:R tp (aP O' tp bU w) w (.pointer (some ⟨bk,0,none⟩)) (.cptr cells 0):=by
    have hbk:(Res.box bk cells).blk=some bk:=rfl
    have h1:=hsat.out id _ bk hid hbk
    have hI:aP O' tp bU w bk:=⟨(hsat.ok id _ hid).lt hbk,fun h=>h.elim h1.1 fun⟨i,r,hne,h2,h3⟩=>hne (hsat.dis _ _ _ _ bk h2 hid h3 hbk),h1.2,fun⟨i,r,h2,_⟩=>by simp at h2⟩
    obtain⟨xs,el,g1,g2,g3⟩:=(hsat.ok id _ hid).conv hmv (fun _ _=>rfl)
    obtain⟨f,k1,k2,k3⟩:=pf g1 g2 g3
    have:=R.cptr (tp:=tp) bk 0 cells 0 f hI (fun _=>⟨_,_,g1⟩) k1 k2 k3
    simpa using this
   have hdec:(aD A).dec (.cptr cells 0::ds')=some (.cptr cells 0,x):=by simp[hd]
   obtain⟨hce,hc⟩:=hf O' tp w (.pointer (some ⟨bk,0,none⟩)::vs) (.cptr cells 0::ds') bU d (fun r H'=>∃z,r=er z/\post (.cptr cells 0,x) z/\H'=bU)
    (fun b hb=>hb.elim (hO b) fun⟨i,r,_,h1,h2⟩=>(hsat.ok i r h1).lt h2) (htl.mono fun b ⟨i,r,h,_⟩=>by simp at h) ⟨fun i j r s b h=>by simp at h,fun i r b h=>by simp at h,fun i r h=>by simp at h⟩ (by simpa using hlen)
    (fun k y e h1 h2=>by
      cases k with
      | zero=>simp at h1 h2;subst h1;subst h2;exact hl
      | succ k=>simp at h1 h2;exact hmv _ _ (hargs (k+1) y e (by simpa using h1) (by simpa using h2)))
    (by rw[rP,hdec];exact⟨hp,fun z hz=>⟨z,rfl,hz,rfl⟩⟩)
   refine⟨hce,hc.mono ?_⟩
   rintro e w' ⟨q,r,H',tp',rfl,⟨z,rfl,hz,rfl⟩,t1,t2,t3,hs,ho,hsat',hR⟩
   have hsame:∀b,b < w.heap.size->¬tp b->w'.heap[b]? =w.heap[b]?:=fun b hb ht=>hs.same b hb (fun⟨i,r,h,_⟩=>by simp at h) ht
   have hmove:∀y e,R tp (aP O tp H w) w y e->R tp' (aP O tp' H w') w' y e:=fun y e hr=>hr.mono t1 (fun b hb=>⟨⟨qte hb.1 hs.size,hb.2.1,fun h=>by
    rcases t2 b h with h|h
    ·exact hb.2.2.1 h
    ·have:=hb.1;omega,hb.2.2.2⟩,hsame b hb.1 hb.2.2.1⟩) hs.tapes
   refine⟨q,er z,H,tp',rfl,hK z hz,t1,t2,t3,⟨hs.os,hs.tape,hs.output,hs.size,fun b hb _ ht=>hsame b hb ht,hs.tapes,hs.drawn⟩,fun b h=> .inl h,⟨hsat.dis,fun i r b h1 h2=>?_,fun i r h1=>?_⟩,hflat z _ _ _ _ _ _ _ hR⟩
   ·have:=hsat.out i r b h1 h2
    refine⟨this.1,fun h=>?_⟩
    rcases t2 b h with h|h
    ·exact this.2 h
    ·have:=(hsat.ok i r h1).lt h2;omega
   ·exact(hsat.ok i r h1).conv hmove fun b hb=>hsame b ((hsat.ok i r h1).lt hb) (hsat.out i r b h1 hb).2
end
end Go.Gv

namespace Go.Gv
open Go.Proofs
open Cod (enc dec)
def kW(r:Rn)(k:D):List D:=[.list 2 (r.c.attrs.map enc), .list 1 (r.c.toks.map enc), .list 4 (r.c.texts.map enc), .list 4 (r.c.regs.map enc), .list 4 (r.c.nodes.map enc), .list 1 (r.c.heads.map enc), .list 1 (r.c.rels.map enc), .list 1 (r.lb.map enc), .v (.int .i64 r.bg), .v (.int .i64 r.en),k]
theorem HT{r r':Rn}{k k':D}(h:kW r k=kW r' k'):r=r'/\k=k':=by
 simp only[kW,qti,D.list.injEq,D.v.injEq,quX,true_and,and_true]at h
 obtain⟨h1,h2,h3,h4,h5,h6,h7,h8,h9,h10,h11⟩:=h
 obtain⟨⟨a1,a2,a3,a4,a5,a6,a7⟩,lb,bg,en⟩:=r
 obtain⟨⟨b1,b2,b3,b4,b5,b6,b7⟩,lb',bg',en'⟩:=r'
 have inj:∀ {X:Type} [Cod X] {l l':List X},l.map enc=l'.map enc->l=l':=fun {X} _ {l l'} h=>aL (X:=List X) (by show D.list _ _=D.list _ _;rw[h])
 simp only at h1 h2 h3 h4 h5 h6 h7 h8 h9 h10
 rw[inj h1,inj h2,inj h3,inj h4,inj h5,inj h6,inj h7,inj h8,h9,h10]
 exact⟨rfl,h11⟩
theorem CA{r r':Rn}{k k':D}(h:D.cptr (kW r k) 0= .cptr (kW r' k') 0):r=r':=by
 injection h with h _
 exact(HT h).1
@[simp] theorem qkU(r:Rn)(k:D):(kW r k).length=11:=id rfl
@[simp] theorem qq5(r:Rn)(k:D)(h:3 < (kW r k).length):(kW r k)[3]= .list 4 (r.c.regs.map enc):=id rfl
@[simp] theorem qq4(r:Rn)(k:D)(h:8 < (kW r k).length):(kW r k)[8]= .v (.int .i64 r.bg):=id rfl
@[simp] theorem qq3(r:Rn)(k:D)(h:9 < (kW r k).length):(kW r k)[9]= .v (.int .i64 r.en):=id rfl
@[simp] theorem qn2(r:Rn)(k:D)(h:10 < (kW r k).length):(kW r k)[10]=k:=id rfl
structure qr8 where
 r:Rn
 v:Value
 es:List D
def rnB:JA qr8:=⟨[990],fun x=>kW x.r (.own 990 x.v),fun x=>[(990, .mrow x.v x.es)],fun _=>rfl⟩
section
variable {Y Z:Type}
def qih(A:dc Z)(er:Y->D)(pre:Rn->List D->Z->Prop)(post:Rn->Z->List D->Y->Prop):Spc:=qjT rnB A er (fun x z=>pre x.r x.es z) (fun x z x' y=>x'.r=x.r/\post x.r z x'.es y)
def CE(H:ab)(id b:Nat)(r:Rn)(v:Value)(es:List D):ab:=ah (ah H 990 (some (.mrow v es))) id (some (.box b (kW r (.own 990 v))))
def qkT(er:Y->D)(pre:Rn->List D->Z->Prop)(post:Rn->Z->List D->Y->Prop)(id b:Nat)(q q1:Option Res)(o:Option Z)(H:ab)(K:D->ab->Prop):Prop:=
 ∃r v es,q=some (.box b (kW r (.own 990 v)))/\q1=some (.mrow v es)/\id≠990/\dI o fun z=>pre r es z/\∀v' es' y,post r z es' y->K (er y) (CE H id b r v' es')
@[congr] theorem qn3{er:Y->D}{pre:Rn->List D->Z->Prop}{post:Rn->Z->List D->Y->Prop}{id b:Nat}{q q' q1 q1':Option Res}{o o':Option Z}{H:ab}{K:D->ab->Prop}(h1:q=q')(h2:q1=q1')(h3:o=o'):qkT er pre post id b q q1 o H K=qkT er pre post id b q' q1' o' H K:=by subst h1;subst h2;subst h3;rfl
theorem qdC(x:qr8)(H:ab)(id b:Nat):ah (gd (rnB.hp x) H) id (some (.box b (rnB.ce x)))=CE H id b x.r x.v x.es:=rfl
theorem AZ(A:dc Z)(er:Y->D)(pre:Rn->List D->Z->Prop)(post:Rn->Z->List D->Y->Prop)(d i b:Nat)(ds:List D)(H:ab)(K:D->ab->Prop):(qih A er pre post).pt d (.bptr i b 0::ds) H K=qkT er pre post i b (H i) (H 990) (A.dec ds) H K:=by
 refine propext ⟨fun h=>?_,fun h=>?_⟩
 ·obtain⟨id,b',x,z,ds',h1,h2,h3,h4,h5,h6,h7⟩:=h
  cases h1
  simp only[rnB,qsY,qtp,or_false]at h5
  refine⟨x.r,x.v,x.es,h3,h4 (990, .mrow x.v x.es) (by simp[rnB]),h5,?_⟩
  rw[h2]
  refine⟨h6,fun v' es' y hq=>?_⟩
  have:=h7 ⟨x.r,v',es'⟩ y ⟨rfl,hq⟩
  rwa [qdC]at this
 ·obtain⟨r,v,es,h1,h2,h3,h4⟩:=h
  cases hz:A.dec ds with
  | none=>rw[hz]at h4;exact h4.elim
  | some z=>
    rw[hz]at h4
    refine⟨i,b,⟨r,v,es⟩,z,ds,rfl,hz,h1,fun p hp=>?_,by simp[rnB,h3],h4.1,fun x' y hq=>?_⟩
    ·simp only[rnB,qsY,qtp,or_false]at hp
     subst hp
     exact h2
    ·obtain⟨r',v',es'⟩:=x'
     obtain⟨e,hq⟩:=hq
     have e:r'=r:=e
     subst e
     rw[qdC]
     exact h4.2 v' es' y hq
@[simp] theorem qq6(er:Y->D)(pre:Rn->List D->Z->Prop)(post:Rn->Z->List D->Y->Prop)(id b b':Nat)(r:Rn)(v v':Value)(es:List D)(o:Option Z)(H:ab)(K:D->ab->Prop):
 qkT er pre post id b (some (.box b' (kW r (.own 990 v)))) (some (.mrow v' es)) o H K=(b'=b/\v'=v/\id≠990/\dI o fun z=>pre r es z/\∀v' es' y,post r z es' y->K (er y) (CE H id b r v' es')):=by
 refine propext ⟨fun⟨r1,v1,es1,h1,h2,h3,h4⟩=>?_,fun⟨h1,h2,h3,h4⟩=>⟨r,v,es,by rw[h1],by rw[h2],h3,h4⟩⟩
 injection h1 with h1
 injection h1 with h1 h5
 injection h2 with h2
 injection h2 with h2 h6
 obtain⟨e1,e2⟩:=HT h5
 injection e2 with _ e2
 subst e1;subst e2;subst h6
 exact⟨h1,h2,h3,h4⟩
def qed(er:Y->D)(b:Nat)(r:Rn)(post:List D->Y->Prop)(d:D)(H:ab):Prop:=Lz rnB er b (fun s y=>s.r=r/\post s.es y) d H
theorem Lg{er:Y->D}{b:Nat}{r:Rn}{post:List D->Y->Prop}{d:D}{H:ab}(v:Value)(es:List D)(y:Y)(hr:FrzTo (fun i=>if i=0\/i=990 then none else H i) d (er y))(h0:H 0=some (.box b (kW r (.own 990 v))))(h1:H 990=some (.mrow v es))(hq:post es y):qed er b r post d H:=
 ⟨⟨r,v,es⟩,y,by simpa [rnB]using hr,h0,fun p hp=>by
  simp only[rnB,qsY,qtp,or_false]at hp
  subst hp
  exact h1,rfl,hq⟩
def NJ(cc:CC)(rs:List aj)(S:Nat->Spc)(A:dc Z)(er:Y->D)(pre:Rn->List D->Z->Prop)(post:Rn->Z->List D->Y->Prop):Prop:=
 ∀b r v es z,pre r es z->vc S cc (sy rs fun d H'=>qed er b r (post r z) d H') (dh (.bptr 0 b 0::A.view z)) (CE bU 0 b r v es)
variable {P:Program}{S:Nat->Spc}{f:Nat}{im:List Nat}{cc:CC}{rs:List aj}{N:Nat}
theorem AR{A:dc Z}{er:Y->D}{pre:Rn->List D->Z->Prop}{post:Rn->Z->List D->Y->Prop}(hS:∀f,Tri P f (S f).pt)(h:aq P f im cc rs N)(hN:∀z,(A.view z).length+1<=N)(hw:NJ cc rs S A er pre post):Tri P f (qih A er pre post).pt:=
 vM (by simp[rnB]) hS h hN fun b x z hp=>hw b x.r x.v x.es z hp
end
section
variable {X Y Z:Type}
theorem qn7(H:ab)(r:Nat):qb H (some r) r=H r:=by simp only[qb];exact if_pos rfl
theorem Qs(H:ab)(w:Option Nat):gc H w []=H:=by
 funext i
 simp only[gc,List.lookup]
 split <;> rfl
theorem qcp(A:dc X)(pre:D×X->Prop)(er:Z->D)(post:D×X->Z->Prop)(r b:Nat)(ds:List D):qdo r (qd0 A pre er post).pt (.bptr r b 0::ds):=by
 refine⟨fun R=>qdZ A pre er post b ds (R r) R fun _ _=>True,fun R d u=>∃cells x z,R r=some (.box b cells)/\A.dec ds=some x/\post (.cptr cells 0,x) z/\d=er z/\u=[],fun t H K=>?_⟩
 rw[qae]
 show _↔qdZ A pre er post b ds (qb H (some r) r) (qb H (some r)) (fun _ _=>True)/\∀d u,(∃cells x z,qb H (some r) r=some (.box b cells)/\A.dec ds=some x/\post (.cptr cells 0,x) z/\d=er z/\u=[])->K d (gc H (some r) u)
 rw[qn7]
 cases hH:H r with
 | none=>exact⟨fun h=>h.elim,fun h=>h.1.elim⟩
 | some q=>
   cases q with
   | box b' cells=>
     rw[qad,qad]
     cases hd:A.dec ds with
     | none=>exact⟨fun h=>h.2.elim,fun h=>h.1.2.elim⟩
     | some x=>
       constructor
       ·rintro⟨rfl,h1,h2⟩
        refine⟨⟨rfl,h1,fun _ _=>trivial⟩,?_⟩
        rintro d u ⟨cells',x',z,e1,e2,h3,rfl,rfl⟩
        cases e1;cases e2
        rw[Qs]
        exact h2 z h3
       ·rintro⟨⟨rfl,h1,_⟩,h2⟩
        refine⟨rfl,h1,fun z hz=>?_⟩
        have:=h2 (er z) [] ⟨cells,x,z,rfl,rfl,hz,rfl,rfl⟩
        rwa [Qs]at this
   | _=>exact⟨fun h=>h.elim,fun h=>h.1.elim⟩
theorem OO(A:dc X)(pre:D×X->Prop)(er:Z->D)(post:D×X->Z->Prop)(r b:Nat)(dst:Option Nat)(ds:List D)(H:ab)(K:D->ab->Prop):HX r dst (qd0 A pre er post) (.bptr r b 0::ds) H K=qdZ A pre er post b ds (H r) H K:=by
 rw[<-qae A pre er post (dst.getD 0)]
 exact propext ⟨fun h=>h.2,fun h=>⟨qcp A pre er post r b ds,h⟩⟩
end
end Go.Gv
