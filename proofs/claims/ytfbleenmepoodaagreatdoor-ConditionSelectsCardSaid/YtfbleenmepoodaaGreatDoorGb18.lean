/- A part of the framework and of the walks: T11 T12. -/
import Derived.Test.YtfbleenmepoodaaGreatDoorGb17
set_option linter.unusedSimpArgs false
set_option linter.unusedVariables false
set_option linter.unusedSectionVars false
set_option linter.defProp false
namespace Go.Gv
open Cod (enc dec)
variable {dq:Prop}
@[simp] theorem qdC(H:ab)(x y:Value):FrzTo H (.v x) (.v y)=(x=y):=by
 refine propext ⟨λh=>?_,λh=>h ▸ .same _⟩;cases h;rfl
@[simp] theorem qge(H:ab)(d:D):FrzTo H d d=True:=propext ⟨λ_=>trivial,λ_=> .same d⟩
@[simp] theorem qiN(H:ab)(n:Nat)(es:List D):FrzTo H (.v (.slice none 0 0)) (.list n es)=(es=[]):=by
 refine propext ⟨λh=>?_,λh=>h ▸ .nil n⟩;cases h;rfl
def Xz{H:ab}{a b a' b':D}(h1:FrzTo H a a')(h2:FrzTo H b b'):FrzTo H (.tup [a,b]) (.tup [a',b']):=
 .tup rfl λk c c' hc hc'=>by
  match k with
  | 0=>simp at hc hc';subst hc;subst hc';exact h1
  | 1=>simp at hc hc';subst hc;subst hc';exact h2
  | k+2=>simp at hc
def Xy{H:ab}{a b c a' b' c':D}(h1:FrzTo H a a')(h2:FrzTo H b b')(h3:FrzTo H c c'):FrzTo H (.tup [a,b,c]) (.tup [a',b',c']):=
 .tup rfl λk d d' hc hc'=>by
  match k with
  | 0=>simp at hc hc';subst hc;subst hc';exact h1
  | 1=>simp at hc hc';subst hc;subst hc';exact h2
  | 2=>simp at hc hc';subst hc;subst hc';exact h3
  | k+3=>simp at hc
section
variable {P:Program}{S:Nat->Spc}{f:Nat}{im:List Nat}{cc:CC}{rs:List aj}{N:Nat}
end
structure eZ (X:Type) where
 dec:List D->Option X
 view:X->List D
 le:∀ds x,dec ds=some x->LeL ds (view x)
def aY{X Y:Type}(A:eZ X)(pre:X->Prop)(er:Y->D)(post:X->Y->Prop):Spc:=Tg A.dec pre λx r=>∃y,r=er y/\post x y
def fq{X:Type}(o:Option X)(k:X->Prop):Prop:=match o with|some x=>k x|none=>False
@[congr] theorem qfA{X:Type}{o o':Option X}{k:X->Prop}(h:o=o'):fq o k=fq o' k:=by subst h;rfl
@[simp] theorem qh6{X:Type}(x:X)(k:X->Prop):fq (some x) k=k x:=id rfl
@[simp] theorem lu{X Y:Type}(A:eZ X)(pre:X->Prop)(er:Y->D)(post:X->Y->Prop)(d:Nat)(ds:List D)(H:ab)(K:D->ab->Prop):
 (aY A pre er post).pt d ds H K=fq (A.dec ds) λx=>pre x/\∀y,post x y->K (er y) H:=by
 refine propext ⟨λh=>?_,λh=>?_⟩
 ·obtain⟨⟨x,h1,h2⟩,h3⟩:=h;rw[h1];refine⟨h2,λy hy=>h3 _ λx' hx' _=>?_⟩;rw[h1]at hx';cases hx';exact⟨y,rfl,hy⟩
 ·cases hd:A.dec ds with
  | none=>rw[hd]at h;exact h.elim
  | some x=>
    rw[hd]at h;refine R5 x hd h.1 ?_;rintro r ⟨y,rfl,hy⟩;exact h.2 y hy
@[simp] theorem qe9{X Y:Type}(A:eZ X)(pre:X->Prop)(er:Y->D)(post:X->Y->Prop)(dst:Option Nat)(ds:List D)(H:ab)(K:D->ab->Prop):
 NM dst (aY A pre er post) ds H K=fq (A.dec ds) λx=>pre x/\∀y,post x y->K (er y) H:=lu A pre er post 0 ds H K
def Fin{Y:Type}(er:Y->D)(q:Y->Prop)(r:D)(H':ab):Prop:=∃y,FrzTo H' r (er y)/\q y
def cp{Y:Type}{er:Y->D}{q:Y->Prop}{r:D}{H':ab}(y:Y)(h:FrzTo H' r (er y))(hq:q y):Fin er q r H':=⟨y,h,hq⟩
@[simp] theorem qgg(q:Int->Prop)(n:Int)(H':ab):Fin enc q (.v (.int .i64 n)) H'=q n:=by
 simp[Fin,XV]
@[simp] theorem qdH(q:Bool->Prop)(n:Bool)(H':ab):Fin enc q (.v (.bool n)) H'=q n:=by
 refine propext ⟨λ⟨y,h1,h2⟩=>?_,λh=>⟨n, .same _,h⟩⟩;rw[UF,qdC]at h1;cases h1;exact h2
@[simp] theorem qgf(q:ByteArray->Prop)(n:ByteArray)(H':ab):Fin enc q (.v (.string n)) H'=q n:=by
 refine propext ⟨λ⟨y,h1,h2⟩=>?_,λh=>⟨n, .same _,h⟩⟩;rw[XU,qdC]at h1;cases h1;exact h2
def av{X Y:Type}(cc:CC)(rs:List aj)(S:Nat->Spc)(A:eZ X)(pre:X->Prop)(er:Y->D)(post:X->Y->Prop):Prop:=
 ∀x,pre x->vc S cc (nQ rs λr H'=>Fin er (post x) r H') (cE (A.view x)) cw
theorem ac{P:Program}{S:Nat->Spc}{f:Nat}{im:List Nat}{cc:CC}{rs:List aj}{N:Nat}{X Y:Type}{A:eZ X}{pre:X->Prop}{er:Y->D}{post:X->Y->Prop}
 (hS:∀f,Tri dq P f (S f).pt) (h:aq P f im cc rs N) (hN:∀x,(A.view x).length<=N) (hw:av cc rs S A pre er post):Tri dq P f (aY A pre er post).pt:=
 R7 hS h A.le hN λx hp=>by
  refine rQ cc _ _ (λe σ H h=>?_) (hw x hp);cases e with
  | ex i=>exact h
  | _=>
    simp only[nQ]at h ⊢;have key:∀ (rs:List aj) (F G:List D->Prop),(∀ds,F ds->G ds)->sw rs σ H F->sw rs σ H G:=by
     intro rs
     induction rs with
     | nil=>exactλF G hFG h=>hFG _ h
     | cons r rs ih=>
       intro F G hFG h;cases r with
       | tmp t=>exact ih _ _ (λds h=>hFG _ h) h
       | cell t agg sz=>exact Ca (λd h=>ih _ _ (λds h=>hFG _ h) h) h
    exact key rs _ _ (λds ⟨y,h1,h2⟩=>⟨_,h1,y,rfl,h2⟩) h
def lQ {P : Program} {f : Nat} {fn : Func} {c : Code} (h : P.funcs[f]? = some fn) (hn : (fn.name == "runtime.NumGoroutine") = false) (hb : fn.body = some c) : fO P f := by
 intro args w
 have hn' : ¬ fn.name = "runtime.NumGoroutine" := by simpa using hn
 unfold callFunc;simp[h,hn',hb]
def Y1{P:Program}{f:Nat}{im:List Nat}{cc:CC}{rs:List aj}{N:Nat}(pR:P.follows .mixedOrders=true)
 (h : ((P.funcs[f]?).bind fun g => if g.name == "runtime.NumGoroutine" then none else g.body.bind fun c => (ay P im g.ntmps c).bind fun cc => (g.results.toList.mapM (am P)).bind fun rs => some (g.ntmps, cc, rs)) = some (N, bh cc, rs)) : aq P f im cc rs N := by
 cases hf:P.funcs[f]? with
 | none=>rw[hf]at h;cases h
 | some fn=>
   rw[hf]at h;simp only[qmx]at h;split at h
   ·cases h
   ·rename_i hn;simp only[ql9,qmp,Prod.mk.injEq]at h;obtain⟨c,hb,q,hq,r,hr,rfl,rfl,rfl⟩:=h;exact⟨pR,lQ hf (by simpa using hn) hb,fn,c,hf,hb,rfl,hq,hr⟩
def a0:eZ Unit:=⟨qaA,λ_=>[],qlC⟩
def a1(X:Type)[Cod X]:eZ X:=⟨qaz,λx=>[enc x],qlB⟩
def a2(X Y:Type)[Cod X][Cod Y]:eZ (X×Y):=⟨qay,λx=>[enc x.1,enc x.2],qlA⟩
def a3(X Y Z:Type)[Cod X][Cod Y][Cod Z]:eZ (X×Y×Z):=⟨qax,λx=>[enc x.1,enc x.2.1,enc x.2.2],qlz⟩
def a4(X Y Z W:Type)[Cod X][Cod Y][Cod Z][Cod W]:eZ (X×Y×Z×W):=⟨qaw,λx=>[enc x.1,enc x.2.1,enc x.2.2.1,enc x.2.2.2],qly⟩
def aT{X:Type}(A:eZ X):eZ (List Int×X):=⟨λds=>match ds with| .tape L::r=>(A.dec r).map λx=>(L,x)|_=>none,λx=> .tape x.1::A.view x.2,λds x h=>by
 split at h
 ·simp only[qmi]at h;obtain⟨y,hy,rfl⟩:=h;exact .cons (.same _) (A.le _ _ hy)
 ·cases h⟩
@[simp] theorem qj5:a0.dec []=some ():=id rfl
@[simp] theorem qaR{X:Type}[Cod X](a:D):(a1 X).dec [a]=dec a:=id rfl
@[simp] theorem qj4{X Y:Type}[Cod X][Cod Y](a b:D):(a2 X Y).dec [a,b]=(dec a).bind λx=>(dec b).bind λy=>some (x,y):=id rfl
@[simp] theorem qj3{X Y Z:Type}[Cod X][Cod Y][Cod Z](a b c:D):(a3 X Y Z).dec [a,b,c]=(dec a).bind λx=>(dec b).bind λy=>(dec c).bind λz=>some (x,y,z):=id rfl
@[simp] theorem qj1{X Y Z W:Type}[Cod X][Cod Y][Cod Z][Cod W](a b c d:D):(a4 X Y Z W).dec [a,b,c,d]=(dec a).bind λx=>(dec b).bind λy=>(dec c).bind λz=>(dec d).bind λw=>some (x,y,z,w):=id rfl
@[simp] theorem qjW{X:Type}(A:eZ X)(L:List Int)(r:List D):(aT A).dec (.tape L::r)=(A.dec r).map λx=>(L,x):=id rfl
@[simp] theorem qhi(x:Unit):a0.view x=[]:=id rfl
@[simp] theorem qhh{X:Type}[Cod X](x:X):(a1 X).view x=[enc x]:=id rfl
@[simp] theorem qhg{X Y:Type}[Cod X][Cod Y](x:X)(y:Y):(a2 X Y).view (x,y)=[enc x,enc y]:=id rfl
@[simp] theorem qhf{X Y Z:Type}[Cod X][Cod Y][Cod Z](x:X)(y:Y)(z:Z):(a3 X Y Z).view (x,y,z)=[enc x,enc y,enc z]:=id rfl
@[simp] theorem qhe{X Y Z W:Type}[Cod X][Cod Y][Cod Z][Cod W](x:X)(y:Y)(z:Z)(w:W):(a4 X Y Z W).view (x,y,z,w)=[enc x,enc y,enc z,enc w]:=id rfl
@[simp] theorem qg9{X:Type}(A:eZ X)(L:List Int)(x:X):(aT A).view (L,x)= .tape L::A.view x:=id rfl
attribute [simp] Cod.dec_enc
@[simp] theorem qje(n:Int):dec (X:=Int) (.v (.int .i64 n))=some n:=id rfl
@[simp] theorem qgG(n:Bool):dec (X:=Bool) (.v (.bool n))=some n:=id rfl
@[simp] theorem qjc(n:ByteArray):dec (X:=ByteArray) (.v (.string n))=some n:=id rfl
@[simp] theorem qjd{X:Type}[Cod X]:dec (X:=List X) (.v (.slice none 0 0))=some []:=id rfl
@[simp] theorem qgF{X:Type}[Cod X](n:Nat)(es:List D):dec (X:=List X) (.list n es)=if n=Cod.wd X then es.mapM (dec (X:=X))else none:=id rfl
attribute [simp] Ah
@[simp] theorem qbr{X:Type}[Cod X](l:List X):l.mapM (dec (X:=X) ∘enc)=some l:=by
 have:=Ah l;rwa [List.mapM_map]at this
def rN{Y Z:Type}[Cod Y][Cod Z](p:Y×Z):D:= .tup [enc p.1,enc p.2]
def qbA{Y Z W:Type}[Cod Y][Cod Z][Cod W](p:Y×Z×W):D:= .tup [enc p.1,enc p.2.1,enc p.2.2]
def PD(_:Unit):D:= .tup []
@[simp] theorem qkN{Y Z:Type}[Cod Y][Cod Z](y:Y)(z:Z):rN (y,z)= .tup [enc y,enc z]:=id rfl
@[simp] theorem qkM{Y Z W:Type}[Cod Y][Cod Z][Cod W](y:Y)(z:Z)(w:W):qbA (y,z,w)= .tup [enc y,enc z,enc w]:=id rfl
@[simp] theorem qgi{Y Z:Type}[Cod Y][Cod Z](q:Y×Z->Prop)(a b:D)(H':ab):Fin rN q (.tup [a,b]) H'=∃y z,FrzTo H' a (enc y)/\FrzTo H' b (enc z)/\q (y,z):=by
 refine propext ⟨λ⟨⟨y,z⟩,h1,h2⟩=>?_,λ⟨y,z,h1,h2,h3⟩=>⟨(y,z),Xz h1 h2,h3⟩⟩;cases h1 with
 | same=>exact⟨y,z, .same _, .same _,h2⟩
 | tup hl h=>exact⟨y,z,h 0 _ _ rfl rfl,h 1 _ _ rfl rfl,h2⟩
@[simp] theorem qgh{Y Z W:Type}[Cod Y][Cod Z][Cod W](q:Y×Z×W->Prop)(a b c:D)(H':ab):Fin qbA q (.tup [a,b,c]) H'=∃y z w,FrzTo H' a (enc y)/\FrzTo H' b (enc z)/\FrzTo H' c (enc w)/\q (y,z,w):=by
 refine propext ⟨λ⟨⟨y,z,w⟩,h1,h2⟩=>?_,λ⟨y,z,w,h1,h2,h3,h4⟩=>⟨(y,z,w),Xy h1 h2 h3,h4⟩⟩;cases h1 with
 | same=>exact⟨y,z,w, .same _, .same _, .same _,h2⟩
 | tup hl h=>exact⟨y,z,w,h 0 _ _ rfl rfl,h 1 _ _ rfl rfl,h 2 _ _ rfl rfl,h2⟩
@[simp] theorem qkO(u:Unit):PD u= .tup []:=id rfl
def pH:List (Nat×D)->Sg->Sg
 | [],σ=>σ
 | (t,d)::l,σ=>upd (pH l σ) t d
def eB:List (Nat×Res)->ab->ab
 | [],H=>H
 | (i,r)::l,H=>ai (eB l H) i (some r)
def OD(σ:Sg):pH [] σ=σ:=id rfl
@[simp] theorem qaO(H:ab):eB [] H=H:=id rfl
@[simp] theorem qjU(i:Nat)(r:Res)(l:List (Nat×Res))(H:ab):eB ((i,r)::l) H=ai (eB l H) i (some r):=id rfl
def rL(ks:List Nat)(σ σ':Sg):Prop:=∀t∈ks,σ' t=σ t
def vP(hk:List Nat)(H H':ab):Prop:=∀i∈hk,H' i=H i
@[simp] theorem qiu(σ σ':Sg):rL [] σ σ'=True:=by simp[rL]
@[simp] theorem qiv(t:Nat)(ks:List Nat)(σ σ':Sg):rL (t::ks) σ σ'=(σ' t=σ t/\rL ks σ σ'):=by simp[rL]
@[simp] theorem qfY(σ σ':ab):vP [] σ σ'=True:=by simp[vP]
@[simp] theorem qfZ(t:Nat)(ks:List Nat)(σ σ':ab):vP (t::ks) σ σ'=(σ' t=σ t/\vP ks σ σ'):=by simp[vP]
def EU(ks:List Nat)(σ:Sg)(t:Nat):gV ks σ t=if t∈ks then σ t else .any:=by
 induction ks with
 | nil=>simp[qcV]
 | cons s ks ih=>
   rw[Z1];simp only[upd,qmw];by_cases h:t=s
   ·simp[h]
   ·simp[h,ih]
def EV(ks:List Nat)(σ:ab)(t:Nat):iD ks σ t=if t∈ks then σ t else none:=by
 induction ks with
 | nil=>simp
 | cons s ks ih=>
   rw[Xl];simp only[ai,qmw];by_cases h:t=s
   ·simp[h]
   ·simp[h,ih]
def YA{σ σ':Sg}{H H':ab}(h1:∀t,OF (σ t) (σ' t))(h2:∀i r,H' i=some r->H i=some r\/isNilRow r):Wk σ H σ' H':=by
 intro E a w hst;obtain⟨hd,hN,tp,hw,hr⟩:=hst;have hm:=hw.sub h2;exact⟨hd,hN,tp,hm.1,λt=>Y7 (h1 t) (hm.2 _ _ (hr t))⟩
def zD(d:D):OF d d:=by simp
theorem yV{σ0 σ:Sg}{H0 H:ab}{ks hk:List Nat}{sl:List (Nat×D)}{hp:List (Nat×Res)}(h1:pK sl σ)(h2:rL ks σ0 σ)(h3:tG hp H)(h4:vP hk H0 H):
 Wk σ H (pH sl (gV ks σ0)) (eB hp (iD hk H0)):=by
 refine YA (λt=>?_) (λi r=>?_)
 ·induction sl with
  | nil=>
    rw[OD,EU];split
    ·rename_i h;rw[<-h2 t h];exact zD _
    ·exact trivial
  | cons p sl ih=>
    obtain⟨s,d⟩:=p;simp only[pH,upd];split
    ·rename_i e;subst e;exact h1.1
    ·exact ih h1.2
 ·induction hp with
  | nil=>
    rw[qaO,EV];split
    ·rename_i h;rw[<-h4 i h];exact .inl
    ·intro h;cases h
  | cons p hp ih=>
    obtain⟨s,d⟩:=p;simp only[eB,ai];split
    ·rename_i e;subst e;intro h;cases h;exact h3.1
    ·exact ih h3.2
def OO(σ0:Sg)(H0:ab)(ks hk:List Nat)(sl:List (Nat×D))(hp:List (Nat×Res))(σ:Sg)(H:ab):Prop:=pK sl σ/\rL ks σ0 σ/\tG hp H/\vP hk H0 H
@[simp] theorem qg3(σ0:Sg)(H0:ab)(ks hk:List Nat)(sl:List (Nat×D))(hp:List (Nat×Res))(σ:Sg)(H:ab):OO σ0 H0 ks hk sl hp σ H=(pK sl σ/\rL ks σ0 σ/\tG hp H/\vP hk H0 H):=id rfl
def RR{X:Type}(P:X->Prop)(B:X->Sg->ab->Prop)(m:X->Nat)(x:X)(K:Ex->Sg->ab->Prop):Ex->Sg->ab->Prop:=λe σ' H'=>match e with
 | .norm=>∃y,P y/\B y σ' H'/\m y < m x
 | e=>K e σ' H'
@[simp ↓] theorem qhp{X:Type}(P:X->Prop)(B:X->Sg->ab->Prop)(m:X->Nat)(x:X)(K:Ex->Sg->ab->Prop)(σ':Sg)(H':ab):RR P B m x K .norm σ' H'=∃y,P y/\B y σ' H'/\m y < m x:=id rfl
@[simp ↓] theorem qhn{X:Type}(P:X->Prop)(B:X->Sg->ab->Prop)(m:X->Nat)(x:X)(K:Ex->Sg->ab->Prop)(i:Nat)(σ':Sg)(H':ab):RR P B m x K (.ex i) σ' H'=K (.ex i) σ' H':=id rfl
@[simp ↓] theorem qho{X:Type}(P:X->Prop)(B:X->Sg->ab->Prop)(m:X->Nat)(x:X)(K:Ex->Sg->ab->Prop)(σ':Sg)(H':ab):RR P B m x K .ret σ' H'=K .ret σ' H':=id rfl
section
variable {S:Nat->Spc}{K:Ex->Sg->ab->Prop}{σ:Sg}{H:ab}
def aP{X:Type}(ks hk:List Nat)(P:X->Prop)(sl:X->List (Nat×D))(hp:X->List (Nat×Res))(m:X->Nat)(x0:X){k:Nat}{b:CC}(h0:P x0)(hs:pK (sl x0) σ)(hh:tG (hp x0) H)
 (hr:∀x,P x->vc S b (RR P (λy=>OO σ H ks hk (sl y) (hp y)) m x K) (pH (sl x) (gV ks σ)) (eB (hp x) (iD hk H))):vc S (.loop k b) K σ H:=by
 rw[JQ];refine⟨⟨X,P,λx=>pH (sl x) (gV ks σ),λx=>eB (hp x) (iD hk H),m⟩,⟨x0,h0,yV hs (λ_ _=>rfl) hh (λ_ _=>rfl)⟩,λx hx=>rQ b _ _ (λe σ' H' h=>?_) (hr x hx)⟩;cases e with
 | norm=>
   obtain⟨y,h1,h2,h3⟩:=h;exact⟨y,h1,yV h2.1 h2.2.1 h2.2.2.1 h2.2.2.2,h3⟩
 | ex i=>exact h
 | ret=>exact h
def TJ(Q:Sg->ab->Prop)(K:Ex->Sg->ab->Prop):Ex->Sg->ab->Prop:=λe σ' H'=>match e with
 | .norm=>Q σ' H'
 | e=>K e σ' H'
@[simp ↓] theorem qik(Q:Sg->ab->Prop)(σ':Sg)(H':ab):TJ Q K .norm σ' H'=Q σ' H':=id rfl
@[simp ↓] theorem qij(Q:Sg->ab->Prop)(σ':Sg)(H':ab):TJ Q K .ret σ' H'=K .ret σ' H':=id rfl
def NB(k:Nat)(a b:CC):CC:= .seq a (.cut k b)
def cm{X:Type}(ks hk:List Nat)(P:X->Prop)(sl:X->List (Nat×D))(hp:X->List (Nat×Res)){k:Nat}{a b:CC}
 (ha:vc S a (TJ (λσ' H'=>∃x,P x/\OO σ H ks hk (sl x) (hp x) σ' H') K) σ H)
 (hb:∀x,P x->vc S b K (pH (sl x) (gV ks σ)) (eB (hp x) (iD hk H))):vc S (NB k a b) K σ H:=by
 unfold NB;rw[Mt];refine rQ a _ _ (λe σ' H' h=>?_) ha;cases e with
 | norm=>
   obtain⟨x,h1,h2⟩:=h;rw[Fc,UK];exact⟨_,_,yV h2.1 h2.2.1 h2.2.2.1 h2.2.2.2,hb x h1⟩
 | ex i=>exact h
 | ret=>exact h
def ki(id i n c id2:Nat)(body:CC)(i2:Nat):CC:=
 .block id (.loop 0 (.seq (.reg [.op (some c) none (.cmp .lss (.tmp i) (.tmp n))]) (.seq (.ite (.tmp c) .skip (.exit id)) (.seq (.block id2 (.cut 0 body)) (.reg [.op (some i2) none (.arith .add (.tmp i) (.const (.int .i64 1))), .op (some i) none (.mv (.tmp i2))])))))
def WH{X:Type}(id id2 i n:Nat)(len:Nat)(B:X->Sg->ab->Prop)(P:X->Prop)(k:Nat)(K:Ex->Sg->ab->Prop):Ex->Sg->ab->Prop:=λe σ' H'=>match e with
 | .norm=>σ' i= .v (.int .i64 k)/\σ' n= .v (.int .i64 len)/\∃y,P y/\B y σ' H'
 | .ex j=>if j=id2 then σ' i= .v (.int .i64 k)/\σ' n= .v (.int .i64 len)/\∃y,P y/\B y σ' H' else if j=id then K .norm σ' H' else K (.ex j) σ' H'
 | .ret=>K .ret σ' H'
@[simp ↓] theorem qhT{X:Type}(id id2 i n:Nat)(len:Nat)(B:X->Sg->ab->Prop)(P:X->Prop)(k:Nat)(σ':Sg)(H':ab):WH id id2 i n len B P k K .norm σ' H'=(σ' i= .v (.int .i64 k)/\σ' n= .v (.int .i64 len)/\∃y,P y/\B y σ' H'):=_root_.id rfl
@[simp ↓] theorem qhR{X:Type}(id id2 i n:Nat)(len:Nat)(B:X->Sg->ab->Prop)(P:X->Prop)(k j:Nat)(σ':Sg)(H':ab):WH id id2 i n len B P k K (.ex j) σ' H'=(if j=id2 then σ' i= .v (.int .i64 k)/\σ' n= .v (.int .i64 len)/\∃y,P y/\B y σ' H' else if j=id then K .norm σ' H' else K (.ex j) σ' H'):=_root_.id rfl
@[simp ↓] theorem qhS{X:Type}(id id2 i n:Nat)(len:Nat)(B:X->Sg->ab->Prop)(P:X->Prop)(k:Nat)(σ':Sg)(H':ab):WH id id2 i n len B P k K .ret σ' H'=K .ret σ' H':=_root_.id rfl
def yi{t:Nat}{d:D} :∀ {sl:List (Nat×D)} {σ:Sg},(∀p∈sl,p.1≠t)->pK sl σ->pK sl (upd σ t d)
 | [],_,_,_=>trivial
 | (s,e)::sl,σ,h,hm=>by
  refine⟨?_,yi (λp hp=>h p (by simp[hp])) hm.2⟩;have:s≠t:=h (s,e) (by simp);simp only[upd,this,if_false];exact hm.1
def Hb{t:Nat}{d:D}{ks:List Nat}{σ0 σ:Sg}(h:t∉ks)(hk:rL ks σ0 σ):rL ks σ0 (upd σ t d):=λs hs=>by
 have:s≠t:=λe=>h (e ▸hs)
 simp only[upd,this,if_false];exact hk s hs
theorem ak{X:Type}(ks hk:List Nat)(len:Nat)(P:Nat->X->Prop)(sl:X->List (Nat×D))(hp:X->List (Nat×Res))(x0:X){id i n c id2 i2:Nat}{body:CC}
 (hi:σ i= .v (.int .i64 0)) (hn:σ n= .v (.int .i64 len)) (hlen:(len:Int)<=9223372036854775807) (hd:([i,n,c,i2] ++ks).Nodup) (hd2:∀x,∀p∈sl x,p.1∉ [i,n,c,i2])
 (h0:P 0 x0) (hs:pK (sl x0) σ) (hh:tG (hp x0) H)
 (hr:∀k x,k < len->P k x->vc S body (WH id id2 i n len (λy=>OO σ H ks hk (sl y) (hp y)) (P (k+1)) k K) (pH ((i, .v (.int .i64 k))::(n, .v (.int .i64 len))::sl x) (gV ks σ)) (eB (hp x) (iD hk H)))
 (he:∀x,P len x->K .norm (upd (pH ((i, .v (.int .i64 len))::(n, .v (.int .i64 len))::sl x) (gV ks σ)) c (.v (.bool false))) (eB (hp x) (iD hk H))):vc S (ki id i n c id2 body i2) K σ H:=by
 have ne:i≠n/\i≠c/\i≠i2/\n≠c/\n≠i2/\c≠i2/\i∉ks/\n∉ks/\c∉ks/\i2∉ks:=by
  simp only[qm5,qm9,List.nodup_cons,qmw,not_or]at hd;obtain⟨⟨h1,h2,h3,h4⟩,⟨h5,h6,h7⟩,⟨h8,h9⟩,h10,_⟩:=hd;exact⟨h1,h2,h3,h5,h6,h8,h4,h7,h9,h10⟩
 obtain⟨n1,n2,n3,n4,n5,n6,m1,m2,m3,m4⟩:=ne;have sn:∀x t,t∈ [i,n,c,i2]->∀p∈sl x,p.1≠t:=λx t ht p hp e=>hd2 x p hp (e ▸ht)
 let st:Nat×X->Sg:=λx=>pH ((i, .v (.int .i64 x.1))::(n, .v (.int .i64 len))::sl x.2) (gV ks σ)
 let sh:Nat×X->ab:=λx=>eB (hp x.2) (iD hk H)
 have back:∀ (k:Nat) (y:X) (σ':Sg) (H':ab),σ' i= .v (.int .i64 k)->σ' n= .v (.int .i64 len)->OO σ H ks hk (sl y) (hp y) σ' H'->Wk σ' H' (st (k,y)) (sh (k,y)):=by
  intro k y σ' H' e1 e2 ⟨b1,b2,b3,b4⟩;exact yV (sl:=(i, .v (.int .i64 k))::(n, .v (.int .i64 len))::sl y) ⟨by rw[e1];exact zD _,by rw[e2];exact zD _,b1⟩ b2 b3 b4
 unfold ki;rw[JR,JQ];refine⟨⟨Nat×X,λx=>x.1<=len/\P x.1 x.2,st,sh,λx=>len -x.1⟩,⟨(0,x0),⟨qmG _,h0⟩,back 0 x0 σ H hi hn ⟨hs,λ_ _=>rfl,hh,λ_ _=>rfl⟩⟩,?_⟩;rintro⟨k,x⟩ ⟨hkl,hP⟩;have si:st (k,x) i= .v (.int .i64 k):=by simp[st,pH,upd]
 have sN:st (k,x) n= .v (.int .i64 len):=by
  have:¬n=i:=λe=>n1 e.symm
  simp[st,pH,upd,this]
 let inv:qa1:=⟨Nat×X,λx=>x.1<=len/\P x.1 x.2,st,sh,λx=>len -x.1⟩
 change vc S _ (Q0 inv (k,x) (RD id K)) (st (k,x)) (sh (k,x));rw[Mt,Y3,Z0,qek];simp only[R3,si,sN,qaB,true_and,UY,qaC];rw[YY,Fc,Mt,qdV];have sc:ev (dH (st (k,x)) (some c) (.v (.bool (decide ((k:Int) < len))))) (.tmp c)= .v (.bool (decide ((k:Int) < len))):=by simp[upd]
 rw[sc,qap];refine⟨λhlt=>?_,λhge=>?_⟩
 ·have hlt':k < len:=by simpa using hlt
  rw[qal,Fc,Mt,JR,UK];refine⟨st (k,x),sh (k,x),YA (λt=>?_) (λ_ _ h=> .inl h),?_⟩
  ·rw[Nk,qb6];split
   ·rename_i e;subst e;have e1:st (k,x) t= .any:=by
     have hsl:∀ (l:List (Nat×D)),(∀p∈l,p.1≠t)->pH l (gV ks σ) t= .any:=by
      intro l
      induction l with
      | nil=>intro _;rw[OD,EU,if_neg m3]
      | cons p l ih=>
        obtain⟨s,d⟩:=p;intro h;have:¬t=s:=λe=>h (s,d) (by simp) e.symm
        simp only[pH,upd,this,if_false];exact ih λp hp=>h p (by simp[hp])
     have h1:¬t=i:=λe=>n2 e.symm
     have h2:¬t=n:=λe=>n4 e.symm
     simp only[st,pH,upd,h1,h2,if_false];exact hsl _ (sn x t (by simp))
    rw[e1];exact trivial
   ·exact zD _
  ·refine rQ body _ _ (λe σ' H' h=>?_) (hr k x hlt' hP);have sK:∀σ' H',(σ' i= .v (.int .i64 k)/\σ' n= .v (.int .i64 len)/\∃y,P (k+1) y/\OO σ H ks hk (sl y) (hp y) σ' H')->
    NC S (.reg [.op (some i2) none (.arith .add (.tmp i) (.const (.int .i64 1))), .op (some i) none (.mv (.tmp i2))]) (Q0 inv (k,x) (RD id K)) .norm σ' H':=by
    intro σ' H' ⟨e1,e2,y,hy,hb⟩;rw[Fc,Y3,Z0,Ye];simp only[R3,Wo,qb3,e1,Vg,Xn,true_and,RH,InR];refine⟨by omega,?_⟩;rw[Z0,qjp];dsimp only;rw[YY];simp only[R3,Nk];rw[qao];refine⟨(k+1,y),⟨by show k+1<=len;omega,hy⟩,back (k+1) y _ _ ?_ ?_ ?_,by show len - (k+1) < len -k;omega⟩
    ·simp[upd]
    ·have h1:¬n=i:=λe=>n1 e.symm
     simp[upd,h1,n5,e2]
    ·exact⟨yi (sn y i (by simp)) (yi (sn y i2 (by simp)) hb.1),Hb m1 (Hb m4 hb.2.1),hb.2.2.1,hb.2.2.2⟩
   cases e with
   | norm=>rw[qar];exact sK σ' H' h
   | ret=>
     rw[UL,qam,qan,UL];exact h
   | ex j=>
     rw[Oo];have h:if j=id2 then σ' i= .v (.int .i64 k)/\σ' n= .v (.int .i64 len)/\∃y,P (k+1) y/\OO σ H ks hk (sl y) (hp y) σ' H' else if j=id then K .norm σ' H' else K (.ex j) σ' H':=h
     split
     ·rename_i e;rw[if_pos e]at h;exact sK σ' H' h
     ·rename_i e;rw[if_neg e]at h;rw[UI,UJ,Oo];exact h
 ·have hge':k=len:=by
   have:¬ ((k:Int) < len):=by simpa using hge
   have:k<=len:=hkl;omega
  subst hge';rw[qaq,UI,UJ,Oo,if_pos rfl];have:decide ((k:Int) < k)=false:=by simp
  rw[this];exact he x hP
end
end Go.Gv
