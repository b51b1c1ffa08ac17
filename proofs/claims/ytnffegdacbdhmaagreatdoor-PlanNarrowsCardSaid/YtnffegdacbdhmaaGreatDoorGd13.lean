/- T12 -/
import Derived.Test.YtnffegdacbdhmaaGreatDoorGd12
set_option linter.all false
namespace Go.Gv
open Cod (enc dec)
variable {dq:Prop}
structure fT (X:Type) where
 dec:List D->Option X
 view:X->List D
 le:∀ds x,dec ds=some x->LeL ds (view x)
def aL{X Y:Type}(A:fT X)(pre:X->Prop)(er:Y->D)(post:X->Y->Prop):Spc:=qe1 A.dec pre λx r=>∃y,r=er y/\post x y
def gY{X:Type}(o:Option X)(k:X->Prop):Prop:=match o with|some x=>k x|none=>False
@[congr] theorem qsm{X:Type}{o o':Option X}{k:X->Prop}(h:o=o'):gY o k=gY o' k:=by subst h;rfl
@[simp] theorem qvq{X:Type}(x:X)(k:X->Prop):gY (some x) k=k x:=i' rfl
@[simp] theorem nQ{X Y:Type}(A:fT X)(pre:X->Prop)(er:Y->D)(post:X->Y->Prop)(d:Nat)(ds:List D)(H:ab)(K:D->ab->Prop):
 (aL A pre er post).pt d ds H K=gY (A.dec ds) λx=>pre x/\∀y,post x y->K (er y) H:=by
 refine propext ⟨λh=>?_,λh=>?_⟩
 ·obtain⟨⟨x,h1,h2⟩,h3⟩:=h;rw[h1];refine⟨h2,λy hy=>h3 _ λx' hx' _=>?_⟩;rw[h1]at hx';cases hx';exact⟨y,rfl,hy⟩
 ·cases hd:A.dec ds with
  |none=>rw[hd]at h;exact h.elim
  | some x=>
    rw[hd]at h;refine qdH x hd h.1 ?_;rintro r ⟨y,rfl,hy⟩;exact h.2 y hy
@[simp] theorem qrU{X Y:Type}(A:fT X)(pre:X->Prop)(er:Y->D)(post:X->Y->Prop)(dst:Option Nat)(ds:List D)(H:ab)(K:D->ab->Prop):
 YN dst (aL A pre er post) ds H K=gY (A.dec ds) λx=>pre x/\∀y,post x y->K (er y) H:=nQ A pre er post 0 ds H K
def Fin{Y:Type}(er:Y->D)(q:Y->Prop)(r:D)(H':ab):Prop:=∃y,FrzTo H' r (er y)/\q y
def ba{Y:Type}{er:Y->D}{q:Y->Prop}{r:D}{H':ab}(y:Y)(h:FrzTo H' r (er y))(hq:q y):Fin er q r H':=⟨y,h,hq⟩
@[simp] theorem qth(q:Int->Prop)(n:Int)(H':ab):Fin enc q (.v (.int .i64 n)) H'=q n:=by
 simp[Fin,qjW]
@[simp] theorem qqe(q:Bool->Prop)(n:Bool)(H':ab):Fin enc q (.v (.bool n)) H'=q n:=by
 refine propext ⟨λ⟨y,h1,h2⟩=>?_,λh=>⟨n, .same _,h⟩⟩;rw[qgx,qp9]at h1;cases h1;exact h2
@[simp] theorem qtg(q:ByteArray->Prop)(n:ByteArray)(H':ab):Fin enc q (.v (.string n)) H'=q n:=by
 refine propext ⟨λ⟨y,h1,h2⟩=>?_,λh=>⟨n, .same _,h⟩⟩;rw[qjV,qp9]at h1;cases h1;exact h2
def am{X Y:Type}(cc:CC)(rs:List ak)(S:Nat->Spc)(A:fT X)(pre:X->Prop)(er:Y->D)(post:X->Y->Prop):Prop:=
 ∀x,pre x->vc S cc (vN rs λr H'=>Fin er (post x) r H') (dC (A.view x)) cY
theorem bY{P:Program}{S:Nat->Spc}{f:Nat}{im:List Nat}{cc:CC}{rs:List ak}{N:Nat}{X Y:Type}{A:fT X}{pre:X->Prop}{er:Y->D}{post:X->Y->Prop}
 (hS:∀f,Tri dq P f (S f).pt) (h:Ak P f im cc rs N) (hN:∀x,(A.view x).length<=N) (hw:am cc rs S A pre er post):Tri dq P f (aL A pre er post).pt:=
 qdM hS h A.le hN λx hp=>by
  refine yx cc _ _ (λe σ H h=>?_) (hw x hp);cases e with
  |ex i=>exact h
  | _=>
    simp only[vN]at h ⊢;have key:∀(rs:List ak) (F G:List D->Prop),(∀ds,F ds->G ds)->yY rs σ H F->yY rs σ H G:=by
     intro rs
     induction rs with
     |nil=>exactλF G hFG h=>hFG _ h
     | cons r rs ih=>
       intro F G hFG h;cases r with
       |tmp t=>exact ih _ _ (λds h=>hFG _ h) h
       |cell t agg sz=>exact Jq (λd h=>ih _ _ (λds h=>hFG _ h) h) h
    exact key rs _ _ (λds ⟨y,h1,h2⟩=>⟨_,h1,y,rfl,h2⟩) h
def ac{P:Program}{S:Nat->Spc}{f:Nat}{im:List Nat}{cc:CC}{rs:List ak}{N:Nat}{X Y:Type}{A:fT X}{pre:X->Prop}{er:Y->D}{post:X->Y->Prop}
 (hS:∀f,Tri dq P f (S f).pt) (h:Ak P f im cc rs N) (hw:am cc rs S A pre er post) (hN:∀x,(A.view x).length<=N:=by exactλ_=>qz0 rfl):Tri dq P f (aL A pre er post).pt:=bY hS h hN hw
def iu {P : Program} {f : Nat} {fn : Func} {c : Code} (h : P.funcs[f]? = some fn) (hn : (fn.name == "runtime.NumGoroutine") = false) (hb : fn.body = some c) : ee P f := by
 intro args w
 have hn' : ¬ fn.name = "runtime.NumGoroutine" := by simpa using hn
 unfold callFunc;simp[h,hn',hb]
def qk3{P:Program}{f:Nat}{im:List Nat}{cc:CC}{rs:List ak}{N:Nat}(wQ:P.follows .mixedOrders=true)
 (h : ((P.funcs[f]?).bind fun g => if g.name == "runtime.NumGoroutine" then none else g.body.bind fun c => (aG P im g.ntmps c).bind fun cc => (g.results.toList.mapM (eW P)).bind fun rs => some (g.ntmps, cc, rs)) = some (N, bG cc, rs)) : Ak P f im cc rs N := by
 cases hf:P.funcs[f]? with
 |none=>rw[hf]at h;cases h
 | some fn=>
   rw[hf]at h;simp only[qAh]at h;split at h
   ·cases h
   ·rename_i hn;simp only[qzU,qAa,qBX]at h;obtain⟨c,hb,q,hq,r,hr,rfl,rfl,rfl⟩:=h;exact⟨wQ,iu hf (by simpa using hn) hb,fn,c,hf,hb,rfl,hq,hr⟩
def a0:fT Unit:=⟨qnh,λ_=>[],qzs⟩
def a1(X:Type)[Cod X]:fT X:=⟨qng,λx=>[enc x],qzr⟩
def a2(X Y:Type)[Cod X][Cod Y]:fT (X×Y):=⟨qnf,λx=>[enc x.1,enc x.2],qzq⟩
def a3(X Y Z:Type)[Cod X][Cod Y][Cod Z]:fT (X×Y×Z):=⟨qne,λx=>[enc x.1,enc x.2.1,enc x.2.2],qzp⟩
def a4(X Y Z W:Type)[Cod X][Cod Y][Cod Z][Cod W]:fT (X×Y×Z×W):=⟨qnd,λx=>[enc x.1,enc x.2.1,enc x.2.2.1,enc x.2.2.2],qzo⟩
def aT{X:Type}(A:fT X):fT (List Int×X):=⟨λds=>match ds with| .tape L::r=>(A.dec r).map λx=>(L,x)|_=>none,λx=> .tape x.1::A.view x.2,λds x h=>by
 split at h
 ·simp only[qz6]at h;obtain⟨y,hy,rfl⟩:=h;exact .cons (.same _) (A.le _ _ hy)
 ·cases h⟩
@[simp] theorem qxP:a0.dec []=some ():=i' rfl
@[simp] theorem qnF{X:Type}[Cod X](a:D):(a1 X).dec [a]=dec a:=i' rfl
@[simp] theorem qhs{X Y:Type}[Cod X][Cod Y](a b:D):(a2 X Y).dec [a,b]=(dec a).bind λx=>(dec b).bind λy=>some (x,y):=i' rfl
@[simp] theorem qxO{X Y Z:Type}[Cod X][Cod Y][Cod Z](a b c:D):(a3 X Y Z).dec [a,b,c]=(dec a).bind λx=>(dec b).bind λy=>(dec c).bind λz=>some (x,y,z):=i' rfl
@[simp] theorem qxN{X Y Z W:Type}[Cod X][Cod Y][Cod Z][Cod W](a b c d:D):(a4 X Y Z W).dec [a,b,c,d]=(dec a).bind λx=>(dec b).bind λy=>(dec c).bind λz=>(dec d).bind λw=>some (x,y,z,w):=i' rfl
@[simp] theorem qxL{X:Type}(A:fT X)(L:List Int)(r:List D):(aT A).dec (.tape L::r)=(A.dec r).map λx=>(L,x):=i' rfl
@[simp] theorem quz(x:Unit):a0.view x=[]:=i' rfl
@[simp] theorem quy{X:Type}[Cod X](x:X):(a1 X).view x=[enc x]:=i' rfl
@[simp] theorem qux{X Y:Type}[Cod X][Cod Y](x:X)(y:Y):(a2 X Y).view (x,y)=[enc x,enc y]:=i' rfl
@[simp] theorem quw{X Y Z:Type}[Cod X][Cod Y][Cod Z](x:X)(y:Y)(z:Z):(a3 X Y Z).view (x,y,z)=[enc x,enc y,enc z]:=i' rfl
@[simp] theorem quv{X Y Z W:Type}[Cod X][Cod Y][Cod Z][Cod W](x:X)(y:Y)(z:Z)(w:W):(a4 X Y Z W).view (x,y,z,w)=[enc x,enc y,enc z,enc w]:=i' rfl
@[simp] theorem quq{X:Type}(A:fT X)(L:List Int)(x:X):(aT A).view (L,x)= .tape L::A.view x:=i' rfl
attribute [simp] Cod.dec_enc
@[simp] theorem qwU(n:Int):dec (X:=Int) (.v (.int .i64 n))=some n:=i' rfl
@[simp] theorem qtM(n:Bool):dec (X:=Bool) (.v (.bool n))=some n:=i' rfl
@[simp] theorem qwS(n:ByteArray):dec (X:=ByteArray) (.v (.string n))=some n:=i' rfl
@[simp] theorem qwT{X:Type}[Cod X]:dec (X:=List X) (.v (.slice none 0 0))=some []:=i' rfl
@[simp] theorem qtL{X:Type}[Cod X](n:Nat)(es:List D):dec (X:=List X) (.list n es)=if n=Cod.wd X then es.mapM (dec (X:=X))else none:=i' rfl
attribute [simp] Gt
@[simp] theorem qof{X:Type}[Cod X](l:List X):l.mapM (dec (X:=X) ∘enc)=some l:=by
 have:=Gt l;rwa [List.mapM_map]at this
def mj{Y Z:Type}[Cod Y][Cod Z](p:Y×Z):D:= .tup [enc p.1,enc p.2]
def qk5{Y Z W:Type}[Cod Y][Cod Z][Cod W](p:Y×Z×W):D:= .tup [enc p.1,enc p.2.1,enc p.2.2]
def SQ(_:Unit):D:= .tup []
@[simp] theorem qyH{Y Z:Type}[Cod Y][Cod Z](y:Y)(z:Z):mj (y,z)= .tup [enc y,enc z]:=i' rfl
@[simp] theorem qyG{Y Z W:Type}[Cod Y][Cod Z][Cod W](y:Y)(z:Z)(w:W):qk5 (y,z,w)= .tup [enc y,enc z,enc w]:=i' rfl
@[simp] theorem qtj{Y Z:Type}[Cod Y][Cod Z](q:Y×Z->Prop)(a b:D)(H':ab):Fin mj q (.tup [a,b]) H'=∃y z,FrzTo H' a (enc y)/\FrzTo H' b (enc z)/\q (y,z):=by
 refine propext ⟨λ⟨⟨y,z⟩,h1,h2⟩=>?_,λ⟨y,z,h1,h2,h3⟩=>⟨(y,z),qjD h1 h2,h3⟩⟩;cases h1 with
 |same=>exact⟨y,z, .same _, .same _,h2⟩
 |tup hl h=>exact⟨y,z,h 0 _ _ rfl rfl,h 1 _ _ rfl rfl,h2⟩
@[simp] theorem qti{Y Z W:Type}[Cod Y][Cod Z][Cod W](q:Y×Z×W->Prop)(a b c:D)(H':ab):Fin qk5 q (.tup [a,b,c]) H'=∃y z w,FrzTo H' a (enc y)/\FrzTo H' b (enc z)/\FrzTo H' c (enc w)/\q (y,z,w):=by
 refine propext ⟨λ⟨⟨y,z,w⟩,h1,h2⟩=>?_,λ⟨y,z,w,h1,h2,h3,h4⟩=>⟨(y,z,w),qjC h1 h2 h3,h4⟩⟩;cases h1 with
 |same=>exact⟨y,z,w, .same _, .same _, .same _,h2⟩
 |tup hl h=>exact⟨y,z,w,h 0 _ _ rfl rfl,h 1 _ _ rfl rfl,h 2 _ _ rfl rfl,h2⟩
@[simp] theorem qyI(u:Unit):SQ u= .tup []:=i' rfl
def rW:List (Nat×D)->Sg->Sg
 | [],σ=>σ
 |(t,d)::l,σ=>upd (rW l σ) t d
def gK:List (Nat×Res)->ab->ab
 | [],H=>H
 |(i,r)::l,H=>ai (gK l H) i (some r)
def Zy(σ:Sg):rW [] σ=σ:=i' rfl
@[simp] theorem qnD(H:ab):gK [] H=H:=i' rfl
@[simp] theorem qxJ(i:Nat)(r:Res)(l:List (Nat×Res))(H:ab):gK ((i,r)::l) H=ai (gK l H) i (some r):=i' rfl
def yr(ks:List Nat)(σ σ':Sg):Prop:=∀t∈ks,σ' t=σ t
def Cr(hk:List Nat)(H H':ab):Prop:=∀i∈hk,H' i=H i
@[simp] theorem qv2(σ σ':Sg):yr [] σ σ'=True:=by simp[yr]
@[simp] theorem qv3(t:Nat)(ks:List Nat)(σ σ':Sg):yr (t::ks) σ σ'=(σ' t=σ t/\yr ks σ σ'):=by simp[yr]
@[simp] theorem qsT(σ σ':ab):Cr [] σ σ'=True:=by simp[Cr]
@[simp] theorem qsU(t:Nat)(ks:List Nat)(σ σ':ab):Cr (t::ks) σ σ'=(σ' t=σ t/\Cr ks σ σ'):=by simp[Cr]
def M2(ks:List Nat)(σ:Sg)(t:Nat):ix ks σ t=if t∈ks then σ t else .any:=by
 induction ks with
 |nil=>simp[qpR]
 | cons s ks ih=>
   rw[qmG];simp only[upd,qAc];by_cases h:t=s
   ·simp[h]
   ·simp[h,ih]
def M3(ks:List Nat)(σ:ab)(t:Nat):jm ks σ t=if t∈ks then σ t else none:=by
 induction ks with
 |nil=>simp
 | cons s ks ih=>
   rw[qjo];simp only[ai,qAc];by_cases h:t=s
   ·simp[h]
   ·simp[h,ih]
def qkz{σ σ':Sg}{H H':ab}(h1:∀t,XL (σ t) (σ' t))(h2:∀i r,H' i=some r->H i=some r\/isNilRow r):Wk σ H σ' H':=by
 intro E a w hst;obtain⟨hd,hN,tp,hw,hr⟩:=hst;have hm:=hw.sub h2;exact⟨hd,hN,tp,hm.1,λt=>qla (h1 t) (hm.2 _ _ (hr t))⟩
def FH(d:D):XL d d:=by simp
theorem E8{σ0 σ:Sg}{H0 H:ab}{ks hk:List Nat}{sl:List (Nat×D)}{hp:List (Nat×Res)}(h1:ra sl σ)(h2:yr ks σ0 σ)(h3:vH hp H)(h4:Cr hk H0 H):
 Wk σ H (rW sl (ix ks σ0)) (gK hp (jm hk H0)):=by
 refine qkz (λt=>?_) (λi r=>?_)
 ·induction sl with
  | nil=>
    rw[Zy,M2];split
    ·rename_i h;rw[<-h2 t h];exact FH _
    ·exact trivial
  | cons p sl ih=>
    obtain⟨s,d⟩:=p;simp only[rW,upd];split
    ·rename_i e;subst e;exact h1.1
    ·exact ih h1.2
 ·induction hp with
  | nil=>
    rw[qnD,M3];split
    ·rename_i h;rw[<-h4 i h];exact .inl
    ·intro h;cases h
  | cons p hp ih=>
    obtain⟨s,d⟩:=p;simp only[gK,ai];split
    ·rename_i e;subst e;intro h;cases h;exact h3.1
    ·exact ih h3.2
def Ty(σ0:Sg)(H0:ab)(ks hk:List Nat)(sl:List (Nat×D))(hp:List (Nat×Res))(σ:Sg)(H:ab):Prop:=ra sl σ/\yr ks σ0 σ/\vH hp H/\Cr hk H0 H
@[simp] theorem qug(σ0:Sg)(H0:ab)(ks hk:List Nat)(sl:List (Nat×D))(hp:List (Nat×Res))(σ:Sg)(H:ab):Ty σ0 H0 ks hk sl hp σ H=(ra sl σ/\yr ks σ0 σ/\vH hp H/\Cr hk H0 H):=i' rfl
def qbw{X:Type}(P:X->Prop)(B:X->Sg->ab->Prop)(m:X->Nat)(x:X)(K:Ex->Sg->ab->Prop):Ex->Sg->ab->Prop:=λe σ' H'=>match e with
 | .norm=>∃y,P y/\B y σ' H'/\m y<m x
 |e=>K e σ' H'
@[simp ↓] theorem quK{X:Type}(P:X->Prop)(B:X->Sg->ab->Prop)(m:X->Nat)(x:X)(K:Ex->Sg->ab->Prop)(σ':Sg)(H':ab):qbw P B m x K .norm σ' H'=∃y,P y/\B y σ' H'/\m y<m x:=i' rfl
@[simp ↓] theorem quI{X:Type}(P:X->Prop)(B:X->Sg->ab->Prop)(m:X->Nat)(x:X)(K:Ex->Sg->ab->Prop)(i:Nat)(σ':Sg)(H':ab):qbw P B m x K (.ex i) σ' H'=K (.ex i) σ' H':=i' rfl
@[simp ↓] theorem quJ{X:Type}(P:X->Prop)(B:X->Sg->ab->Prop)(m:X->Nat)(x:X)(K:Ex->Sg->ab->Prop)(σ':Sg)(H':ab):qbw P B m x K .ret σ' H'=K .ret σ' H':=i' rfl
section
variable {S:Nat->Spc}{K:Ex->Sg->ab->Prop}{σ:Sg}{H:ab}
def qdC{X:Type}(ks hk:List Nat)(P:X->Prop)(sl:X->List (Nat×D))(hp:X->List (Nat×Res))(m:X->Nat)(x0:X){k:Nat}{b:CC}(h0:P x0)(hs:ra (sl x0) σ)(hh:vH (hp x0) H)
 (hr:∀x,P x->vc S b (qbw P (λy=>Ty σ H ks hk (sl y) (hp y)) m x K) (rW (sl x) (ix ks σ)) (gK (hp x) (jm hk H))):vc S (.loop k b) K σ H:=by
 rw[SV];refine⟨⟨X,P,λx=>rW (sl x) (ix ks σ),λx=>gK (hp x) (jm hk H),m⟩,⟨x0,h0,E8 hs (λ_ _=>rfl) hh (λ_ _=>rfl)⟩,λx hx=>yx b _ _ (λe σ' H' h=>?_) (hr x hx)⟩;cases e with
 | norm=>
   obtain⟨y,h1,h2,h3⟩:=h;exact⟨y,h1,E8 h2.1 h2.2.1 h2.2.2.1 h2.2.2.2,h3⟩
 |ex i=>exact h
 |ret=>exact h
def ay{X:Type}(ks hk:List Nat)(P:X->Prop)(sl:X->List (Nat×D))(hp:X->List (Nat×Res))(m:X->Nat)(x0:X){k:Nat}{b:CC}(h0:P x0)
 (hr:∀x,P x->vc S b (qbw P (λy=>Ty σ H ks hk (sl y) (hp y)) m x K) (rW (sl x) (ix ks σ)) (gK (hp x) (jm hk H))) (hs:ra (sl x0) σ:=by simp) (hh:vH (hp x0) H:=by simp):vc S (.loop k b) K σ H:=
 qdC ks hk P sl hp m x0 h0 hs hh hr
def qfw(Q:Sg->ab->Prop)(K:Ex->Sg->ab->Prop):Ex->Sg->ab->Prop:=λe σ' H'=>match e with
 | .norm=>Q σ' H'
 |e=>K e σ' H'
@[simp ↓] theorem qvL(Q:Sg->ab->Prop)(σ':Sg)(H':ab):qfw Q K .norm σ' H'=Q σ' H':=i' rfl
@[simp ↓] theorem qvK(Q:Sg->ab->Prop)(σ':Sg)(H':ab):qfw Q K .ret σ' H'=K .ret σ' H':=i' rfl
def Ke(k:Nat)(a b:CC):CC:= .seq a (.cut k b)
def bj{X:Type}(ks hk:List Nat)(P:X->Prop)(sl:X->List (Nat×D))(hp:X->List (Nat×Res)){k:Nat}{a b:CC}
 (ha:vc S a (qfw (λσ' H'=>∃x,P x/\Ty σ H ks hk (sl x) (hp x) σ' H') K) σ H)
 (hb:∀x,P x->vc S b K (rW (sl x) (ix ks σ)) (gK (hp x) (jm hk H))):vc S (Ke k a b) K σ H:=by
 unfold Ke;rw[WG];refine yx a _ _ (λe σ' H' h=>?_) ha;cases e with
 | norm=>
   obtain⟨x,h1,h2⟩:=h;rw[Nn,qgC];exact⟨_,_,E8 h2.1 h2.2.1 h2.2.2.1 h2.2.2.2,hb x h1⟩
 |ex i=>exact h
 |ret=>exact h
def fF(id i n c id2:Nat)(body:CC)(i2:Nat):CC:=
 .block id (.loop 0 (.seq (.reg [.op (some c) none (.cmp .lss (.tmp i) (.tmp n))]) (.seq (.ite (.tmp c) .skip (.exit id)) (.seq (.block id2 (.cut 0 body)) (.reg [.op (some i2) none (.arith .add (.tmp i) (.const (.int .i64 1))), .op (some i) none (.mv (.tmp i2))])))))
def qiM{X:Type}(id id2 i n:Nat)(len:Nat)(B:X->Sg->ab->Prop)(P:X->Prop)(k:Nat)(K:Ex->Sg->ab->Prop):Ex->Sg->ab->Prop:=λe σ' H'=>match e with
 | .norm=>σ' i= .v (.int .i64 k)/\σ' n= .v (.int .i64 len)/\∃y,P y/\B y σ' H'
 | .ex j=>if j=id2 then σ' i= .v (.int .i64 k)/\σ' n= .v (.int .i64 len)/\∃y,P y/\B y σ' H' else if j=id then K .norm σ' H' else K (.ex j) σ' H'
 | .ret=>K .ret σ' H'
@[simp ↓] theorem qvd{X:Type}(id id2 i n:Nat)(len:Nat)(B:X->Sg->ab->Prop)(P:X->Prop)(k:Nat)(σ':Sg)(H':ab):qiM id id2 i n len B P k K .norm σ' H'=(σ' i= .v (.int .i64 k)/\σ' n= .v (.int .i64 len)/\∃y,P y/\B y σ' H'):=i' rfl
@[simp ↓] theorem qvc{X:Type}(id id2 i n:Nat)(len:Nat)(B:X->Sg->ab->Prop)(P:X->Prop)(k:Nat)(σ':Sg)(H':ab):qiM id id2 i n len B P k K .ret σ' H'=K .ret σ' H':=i' rfl
def Ez{t:Nat}{d:D} :∀{sl:List (Nat×D)} {σ:Sg},(∀p∈sl,p.1≠t)->ra sl σ->ra sl (upd σ t d)
 | [],_,_,_=>trivial
 | (s,e)::sl,σ,h,hm=>by
  refine⟨?_,Ez (λp hp=>h p (by simp[hp])) hm.2⟩;have:s≠t:=h (s,e) (by simp);simp only[upd,this,if_false];exact hm.1
def Qc{t:Nat}{d:D}{ks:List Nat}{σ0 σ:Sg}(h:t∉ks)(hk:yr ks σ0 σ):yr ks σ0 (upd σ t d):=λs hs=>by
 have:s≠t:=λe=>h (e ▸hs)
 simp only[upd,this,if_false];exact hk s hs
theorem Ue{X:Type}(ks hk:List Nat)(len:Nat)(P:Nat->X->Prop)(sl:X->List (Nat×D))(hp:X->List (Nat×Res))(x0:X){id i n c id2 i2:Nat}{body:CC}
 (hi:σ i= .v (.int .i64 0)) (hn:σ n= .v (.int .i64 len)) (hlen:(len:Int)<=9223372036854775807) (hd:([i,n,c,i2] ++ks).Nodup) (hd2:∀x,∀p∈sl x,p.1∉ [i,n,c,i2])
 (h0:P 0 x0) (hs:ra (sl x0) σ) (hh:vH (hp x0) H)
 (hr:∀k x,k<len->P k x->vc S body (qiM id id2 i n len (λy=>Ty σ H ks hk (sl y) (hp y)) (P (k+1)) k K) (rW ((i, .v (.int .i64 k))::(n, .v (.int .i64 len))::sl x) (ix ks σ)) (gK (hp x) (jm hk H)))
 (he:∀x,P len x->K .norm (upd (rW ((i, .v (.int .i64 len))::(n, .v (.int .i64 len))::sl x) (ix ks σ)) c (.v (.bool false))) (gK (hp x) (jm hk H))):vc S (fF id i n c id2 body i2) K σ H:=by
 have ne:i≠n/\i≠c/\i≠i2/\n≠c/\n≠i2/\c≠i2/\i∉ks/\n∉ks/\c∉ks/\i2∉ks:=by
  simp only[qAK,qAZ,qA3,qAc,not_or]at hd;obtain⟨⟨h1,h2,h3,h4⟩,⟨h5,h6,h7⟩,⟨h8,h9⟩,h10,_⟩:=hd;exact⟨h1,h2,h3,h5,h6,h8,h4,h7,h9,h10⟩
 obtain⟨n1,n2,n3,n4,n5,n6,m1,m2,m3,m4⟩:=ne;have sn:∀x t,t∈ [i,n,c,i2]->∀p∈sl x,p.1≠t:=λx t ht p hp e=>hd2 x p hp (e ▸ht)
 let st:Nat×X->Sg:=λx=>rW ((i, .v (.int .i64 x.1))::(n, .v (.int .i64 len))::sl x.2) (ix ks σ)
 let sh:Nat×X->ab:=λx=>gK (hp x.2) (jm hk H)
 have back:∀(k:Nat) (y:X) (σ':Sg) (H':ab),σ' i= .v (.int .i64 k)->σ' n= .v (.int .i64 len)->Ty σ H ks hk (sl y) (hp y) σ' H'->Wk σ' H' (st (k,y)) (sh (k,y)):=by
  intro k y σ' H' e1 e2 ⟨b1,b2,b3,b4⟩;exact E8 (sl:=(i, .v (.int .i64 k))::(n, .v (.int .i64 len))::sl y) ⟨by rw[e1];exact FH _,by rw[e2];exact FH _,b1⟩ b2 b3 b4
 unfold fF;rw[SW,SV];refine⟨⟨Nat×X,λx=>x.1<=len/\P x.1 x.2,st,sh,λx=>len -x.1⟩,⟨(0,x0),⟨qAr _,h0⟩,back 0 x0 σ H hi hn ⟨hs,λ_ _=>rfl,hh,λ_ _=>rfl⟩⟩,?_⟩;rintro⟨k,x⟩ ⟨hkl,hP⟩;have si:st (k,x) i= .v (.int .i64 k):=by simp[st,rW,upd]
 have sN:st (k,x) n= .v (.int .i64 len):=by
  have:¬n=i:=λe=>n1 e.symm
  simp[st,rW,upd,this]
 let inv:qnO:=⟨Nat×X,λx=>x.1<=len/\P x.1 x.2,st,sh,λx=>len -x.1⟩
 change vc S _ (qcs inv (k,x) (qc8 id K)) (st (k,x)) (sh (k,x));rw[WG,qk6,qmE,qqV];simp only[qdF,si,sN,qnm,true_and,qg4,qnn];rw[qkZ,Nn,WG,qqw];have sc:ev (fq (st (k,x)) (some c) (.v (.bool (decide ((k:Int)<len))))) (.tmp c)= .v (.bool (decide ((k:Int)<len))):=by simp[upd]
 rw[sc,qm4];refine⟨λhlt=>?_,λhge=>?_⟩
 ·have hlt':k<len:=by simpa using hlt
  rw[qm0,Nn,WG,SW,qgC];refine⟨st (k,x),sh (k,x),qkz (λt=>?_) (λ_ _ h=> .inl h),?_⟩
  ·rw[X8,qoZ];split
   ·rename_i e;subst e;have e1:st (k,x) t= .any:=by
     have hsl:∀(l:List (Nat×D)),(∀p∈l,p.1≠t)->rW l (ix ks σ) t= .any:=by
      intro l
      induction l with
      |nil=>intro _;rw[Zy,M2,if_neg m3]
      | cons p l ih=>
        obtain⟨s,d⟩:=p;intro h;have:¬t=s:=λe=>h (s,d) (by simp) e.symm
        simp only[rW,upd,this,if_false];exact ih λp hp=>h p (by simp[hp])
     have h1:¬t=i:=λe=>n2 e.symm
     have h2:¬t=n:=λe=>n4 e.symm
     simp only[st,rW,upd,h1,h2,if_false];exact hsl _ (sn x t (by simp))
    rw[e1];exact trivial
   ·exact FH _
  ·refine yx body _ _ (λe σ' H' h=>?_) (hr k x hlt' hP);have sC:∀σ' H',(σ' i= .v (.int .i64 k)/\σ' n= .v (.int .i64 len)/\∃y,P (k+1) y/\Ty σ H ks hk (sl y) (hp y) σ' H')->
    Yv S (.reg [.op (some i2) none (.arith .add (.tmp i) (.const (.int .i64 1))), .op (some i) none (.mv (.tmp i2))]) (qcs inv (k,x) (qc8 id K)) .norm σ' H':=by
    intro σ' H' ⟨e1,e2,y,hy,hb⟩;rw[Nn,qk6,qmE,qkb];simp only[qdF,qiu,qoX,e1,qhk,qjq,true_and,qdc,InR];refine⟨by omega,?_⟩;rw[qmE,qw9];dsimp only;rw[qkZ];simp only[qdF,X8];rw[qm3];refine⟨(k+1,y),⟨by show k+1<=len;omega,hy⟩,back (k+1) y _ _ ?_ ?_ ?_,by show len - (k+1)<len -k;omega⟩
    ·simp[upd]
    ·have h1:¬n=i:=λe=>n1 e.symm
     simp[upd,h1,n5,e2]
    ·exact⟨Ez (sn y i (by simp)) (Ez (sn y i2 (by simp)) hb.1),Qc m1 (Qc m4 hb.2.1),hb.2.2.1,hb.2.2.2⟩
   cases e with
   |norm=>rw[qm6];exact sC σ' H' h
   | ret=>
     rw[qgD,qm1,qm2,qgD];exact h
   | ex j=>
     rw[Zo];have h:if j=id2 then σ' i= .v (.int .i64 k)/\σ' n= .v (.int .i64 len)/\∃y,P (k+1) y/\Ty σ H ks hk (sl y) (hp y) σ' H' else if j=id then K .norm σ' H' else K (.ex j) σ' H':=h
     split
     ·rename_i e;rw[if_pos e]at h;exact sC σ' H' h
     ·rename_i e;rw[if_neg e]at h;rw[qgA,qgB,Zo];exact h
 ·have hge':k=len:=by
   have:¬((k:Int)<len):=by simpa using hge
   have:k<=len:=hkl;omega
  subst hge';rw[qm5,qgA,qgB,Zo,if_pos rfl];have:decide ((k:Int)<k)=false:=by simp
  rw[this];exact he x hP
theorem ah{X:Type}(ks hk:List Nat)(len:Nat)(P:Nat->X->Prop)(sl:X->List (Nat×D))(hp:X->List (Nat×Res))(x0:X){id i n c id2 i2:Nat}{body:CC}
 (h0:P 0 x0)
 (hr:∀k x,k<len->P k x->vc S body (qiM id id2 i n len (λy=>Ty σ H ks hk (sl y) (hp y)) (P (k+1)) k K) (rW ((i, .v (.int .i64 k))::(n, .v (.int .i64 len))::sl x) (ix ks σ)) (gK (hp x) (jm hk H)))
 (he:∀x,P len x->K .norm (upd (rW ((i, .v (.int .i64 len))::(n, .v (.int .i64 len))::sl x) (ix ks σ)) c (.v (.bool false))) (gK (hp x) (jm hk H))) (hi:σ i= .v (.int .i64 0):=by simp) (hn:σ n= .v (.int .i64 len):=by simp) (hlen:(len:Int)<=9223372036854775807:=by omega) (hd:([i,n,c,i2] ++ks).Nodup:=by simp) (hd2:∀x,∀p∈sl x,p.1∉ [i,n,c,i2]:=by simp) (hs:ra (sl x0) σ:=by simp) (hh:vH (hp x0) H:=by simp):vc S (fF id i n c id2 body i2) K σ H:=
 Ue ks hk len P sl hp x0 hi hn hlen hd hd2 h0 hs hh hr he
end
end Go.Gv
namespace Go.Gv
open Cod (enc dec)
def bK{X:Type}[Cod X]{x y:X}(h:enc x=enc y):x=y:=by
 have:=congrArg (dec (X:=X)) h;simpa using this
@[simp] theorem qwH{X:Type}[Cod X](l l':List X):(l.map enc=l'.map enc)=(l=l'):=by
 refine propext ⟨λh=>?_,λh=>h ▸rfl⟩
 induction l generalizing l' with
 | nil=>cases l' with
   |nil=>rfl
   |cons y l'=>simp at h
 | cons x l ih=>cases l' with
   |nil=>simp at h
   | cons y l'=>
     simp only[qAo,qAA]at h;rw[bK h.1,ih _ h.2]
def jZ{X:Type}[Cod X](l:List X)(i:Nat)(x:X):(l.map enc).set i (enc x)=(l.set i x).map enc:=by
 rw[qCe]
def Tj{X:Type}[Cod X](l:List X)(x:X):l.map enc++ [enc x]=(l++ [x]).map enc:=by simp
def fG{X:Type}[Cod X]{H:ab}{id n:Nat}{v:Value}{l:List X}(el:Nat)(h:H id=some (.row v el n (l.map enc)))(hn:n=Cod.wd X:=by rfl):FrzTo H (.own id v) (.list n (l.map enc)):=by
 subst hn;exact qcQ h
inductive Ky where
 |e
 |o (k:Ky)
 |i (k:Ky)
deriving DecidableEq
inductive Tr where
 |nil
 |nd (d:D) (l r:Tr)
def Tr.get:Tr->Ky->D
 | .nil,_=> .any
 | .nd d _ _, .e=>d
 | .nd _ l _, .o k=>l.get k
 | .nd _ _ r, .i k=>r.get k
def Tr.set:Tr->Ky->D->Tr
 | .nil, .e,x=> .nd x .nil .nil
 | .nil, .o k,x=> .nd .any (Tr.set .nil k x) .nil
 | .nil, .i k,x=> .nd .any .nil (Tr.set .nil k x)
 | .nd _ l r, .e,x=> .nd x l r
 | .nd d l r, .o k,x=> .nd d (l.set k x) r
 | .nd d l r, .i k,x=> .nd d l (r.set k x)
noncomputable def Tr.frz(id:Nat)(x:Value)(L:D):Tr->Tr
 | .nil=> .nil
 | .nd d l r=> .nd (KA id x L d) (l.frz id x L) (r.frz id x L)
def qpO:Nat->Nat->Ky
 | 0,_=> .e
 |f+1,n=>if n=0 then .e else if(n -1) % 2=0 then .o (qpO f ((n -1) /2))else .i (qpO f ((n -1) /2))
def ky(n:Nat):Ky:=qpO n n
def Ky.val:Ky->Nat
 | .e=>0
 | .o k=>2*k.val+1
 | .i k=>2*k.val+2
def K8:∀(f n:Nat),n<=f->(qpO f n).val=n
 | 0,n,h=>by
   have:n=0:=by omega
   subst this;rfl
 | f+1,n,h=>by
   unfold qpO;split
   ·rename_i e;subst e;rfl
   ·split
    ·simp only[Ky.val];rw[K8 f _ (by omega)];omega
    ·simp only[Ky.val];rw[K8 f _ (by omega)];omega
def qfL{m n:Nat}(h:ky m=ky n):m=n:=by
 have h1:=K8 m m (qz2 _);have h2:=K8 n n (qz2 _);unfold ky at h;rw[h]at h1;exact h1.symm.trans h2
def get_set:∀(T:Tr) (k j:Ky) (x:D),(T.set k x).get j=if j=k then x else T.get j
 | .nil, .e,j,x=>by cases j<;>simp[Tr.set,Tr.get]
 | .nil, .o k,j,x=>by
   have ih:=λj=>get_set .nil k j x
   cases j<;>simp[Tr.set,Tr.get,ih]
 | .nil, .i k,j,x=>by
   have ih:=λj=>get_set .nil k j x
   cases j<;>simp[Tr.set,Tr.get,ih]
 | .nd d l r, .e,j,x=>by cases j<;>simp[Tr.set,Tr.get]
 | .nd d l r, .o k,j,x=>by
   have ih:=λj=>get_set l k j x
   cases j<;>simp[Tr.set,Tr.get,ih]
 | .nd d l r, .i k,j,x=>by
   have ih:=λj=>get_set r k j x
   cases j<;>simp[Tr.set,Tr.get,ih]
def Kz(T:Tr):Sg:=λt=>T.get (ky t)
@[simp] theorem qs7(T:Tr)(t:Nat):Kz T t=T.get (ky t):=i' rfl
@[simp] theorem qoY(T:Tr)(t:Nat)(d:D):upd (Kz T) t d=Kz (T.set (ky t) d):=by
 funext s;simp only[upd,Kz,get_set];by_cases h:s=t
 ·simp[h]
 ·have:¬ky s=ky t:=λe=>h (qfL e)
  simp[h,this]
def qf7:Kz .nil=λ_=> .any:=by
 funext t;simp[Kz,Tr.get]
@[simp] theorem qmH(σ:Sg):ix [] σ=Kz .nil:=by rw[qf7];rfl
@[simp] theorem qjp(t:Nat)(l:List Nat)(σ:Sg):ix (t::l) σ=upd (ix l σ) t (σ t):=i' rfl
@[simp] theorem qxK(σ:Sg):rW [] σ=σ:=i' rfl
@[simp] theorem qur(t:Nat)(d:D)(l:List (Nat×D))(σ:Sg):rW ((t,d)::l) σ=upd (rW l σ) t d:=i' rfl
def JE:Nat->List D->Tr
 | _, []=> .nil
 |n,d::l=>(JE (n+1) l).set (ky n) d
@[simp] theorem qoj(n:Nat):JE n []= .nil:=i' rfl
@[simp] theorem qmK(n:Nat)(d:D)(l:List D):JE n (d::l)=(JE (n+1) l).set (ky n) d:=i' rfl
def Qe:∀(l:List D) (n t:Nat),(JE n l).get (ky t)=if n<=t then(l[t -n]?).getD .any else .any
 | [],n,t=>by simp[JE,Tr.get]
 | d::l,n,t=>by
   rw[JE,get_set,Qe l (n+1) t];by_cases h:t=n
   ·subst h;simp
   ·have:¬ky t=ky n:=λe=>h (qfL e)
    rw[if_neg this];by_cases h2:n+1<=t
    ·have h3:n<=t:=by omega
     rw[if_pos h2,if_pos h3];have:t -n=(t - (n+1)) +1:=by omega
     rw[this];simp
    ·have h3:¬n<=t:=by omega
     rw[if_neg h2,if_neg h3]
@[simp] theorem qwe(l:List D):dC l=Kz (JE 0 l):=by
 funext t;simp[dC,Kz,Qe]
@[simp] theorem qyA(id:Nat)(x:Value)(L:D)(T:Tr):qcS id x L (Kz T)=Kz (T.frz id x L):=by
 funext t;simp only[qcS,Kz];generalize ky t=k
 induction T generalizing k with
 |nil=>simp[Tr.frz,Tr.get,KA]
 | nd d l r ihl ihr=>
   cases k with
   |e=>rfl
   |o k=>exact ihl k
   |i k=>exact ihr k
@[simp] theorem qqc(id:Nat)(x:Value)(L:D):Tr.nil.frz id x L= .nil:=i' rfl
@[simp] theorem qtb(id:Nat)(x:Value)(L d:D)(l r:Tr):(Tr.nd d l r).frz id x L= .nd (KA id x L d) (l.frz id x L) (r.frz id x L):=i' rfl
@[simp] theorem qzf(d:D)(l r:Tr):(Tr.nd d l r).get .e=d:=i' rfl
@[simp] theorem qzd(d:D)(l r:Tr)(k:Ky):(Tr.nd d l r).get (.o k)=l.get k:=i' rfl
@[simp] theorem qze(d:D)(l r:Tr)(k:Ky):(Tr.nd d l r).get (.i k)=r.get k:=i' rfl
@[simp] theorem qx1(x:D):Tr.nil.set .e x= .nd x .nil .nil:=i' rfl
@[simp] theorem qxZ(k:Ky)(x:D):Tr.nil.set (.o k) x= .nd .any (Tr.set .nil k x) .nil:=i' rfl
@[simp] theorem qx0(k:Ky)(x:D):Tr.nil.set (.i k) x= .nd .any .nil (Tr.set .nil k x):=i' rfl
@[simp] theorem qzc(d:D)(l r:Tr)(x:D):(Tr.nd d l r).set .e x= .nd x l r:=i' rfl
@[simp] theorem qza(d:D)(l r:Tr)(k:Ky)(x:D):(Tr.nd d l r).set (.o k) x= .nd d (l.set k x) r:=i' rfl
@[simp] theorem qzb(d:D)(l r:Tr)(k:Ky)(x:D):(Tr.nd d l r).set (.i k) x= .nd d l (r.set k x):=i' rfl
@[simp] theorem qzz:ky 0= .e/\ky 1= .o .e/\ky 2= .i .e/\ky 3= .o (.o .e)/\ky 4= .i (.o .e)/\ky 5= .o (.i .e)/\ky 6= .i (.i .e)/\ky 7= .o (.o (.o .e))/\ky 8= .i (.o (.o .e))/\ky 9= .o (.i (.o .e))/\ky 10= .i (.i (.o .e))/\ky 11= .o (.o (.i .e))/\ky 12= .i (.o (.i .e))/\ky 13= .o (.i (.i .e))/\ky 14= .i (.i (.i .e))/\ky 15= .o (.o (.o (.o .e)))/\ky 16= .i (.o (.o (.o .e)))/\ky 17= .o (.i (.o (.o .e)))/\ky 18= .i (.i (.o (.o .e)))/\ky 19= .o (.o (.i (.o .e)))/\ky 20= .i (.o (.i (.o .e)))/\ky 21= .o (.i (.i (.o .e)))/\ky 22= .i (.i (.i (.o .e)))/\ky 23= .o (.o (.o (.i .e)))/\ky 24= .i (.o (.o (.i .e)))/\ky 25= .o (.i (.o (.i .e)))/\ky 26= .i (.i (.o (.i .e)))/\ky 27= .o (.o (.i (.i .e)))/\ky 28= .i (.o (.i (.i .e)))/\ky 29= .o (.i (.i (.i .e)))/\ky 30= .i (.i (.i (.i .e)))/\ky 31= .o (.o (.o (.o (.o .e))))/\ky 32= .i (.o (.o (.o (.o .e))))/\ky 33= .o (.i (.o (.o (.o .e))))/\ky 34= .i (.i (.o (.o (.o .e))))/\ky 35= .o (.o (.i (.o (.o .e))))/\ky 36= .i (.o (.i (.o (.o .e))))/\ky 37= .o (.i (.i (.o (.o .e))))/\ky 38= .i (.i (.i (.o (.o .e))))/\ky 39= .o (.o (.o (.i (.o .e))))/\ky 40= .i (.o (.o (.i (.o .e))))/\ky 41= .o (.i (.o (.i (.o .e))))/\ky 42= .i (.i (.o (.i (.o .e))))/\ky 43= .o (.o (.i (.i (.o .e))))/\ky 44= .i (.o (.i (.i (.o .e))))/\ky 45= .o (.i (.i (.i (.o .e))))/\ky 46= .i (.i (.i (.i (.o .e))))/\ky 47= .o (.o (.o (.o (.i .e))))/\ky 48= .i (.o (.o (.o (.i .e))))/\ky 49= .o (.i (.o (.o (.i .e))))/\ky 50= .i (.i (.o (.o (.i .e))))/\ky 51= .o (.o (.i (.o (.i .e))))/\ky 52= .i (.o (.i (.o (.i .e))))/\ky 53= .o (.i (.i (.o (.i .e))))/\ky 54= .i (.i (.i (.o (.i .e))))/\ky 55= .o (.o (.o (.i (.i .e))))/\ky 56= .i (.o (.o (.i (.i .e))))/\ky 57= .o (.i (.o (.i (.i .e))))/\ky 58= .i (.i (.o (.i (.i .e))))/\ky 59= .o (.o (.i (.i (.i .e)))):=by and_intros<;>exact id rfl
@[simp] theorem qzy:ky 60= .i (.o (.i (.i (.i .e))))/\ky 61= .o (.i (.i (.i (.i .e))))/\ky 62= .i (.i (.i (.i (.i .e))))/\ky 63= .o (.o (.o (.o (.o (.o .e)))))/\ky 64= .i (.o (.o (.o (.o (.o .e)))))/\ky 65= .o (.i (.o (.o (.o (.o .e)))))/\ky 66= .i (.i (.o (.o (.o (.o .e)))))/\ky 67= .o (.o (.i (.o (.o (.o .e)))))/\ky 68= .i (.o (.i (.o (.o (.o .e)))))/\ky 69= .o (.i (.i (.o (.o (.o .e)))))/\ky 70= .i (.i (.i (.o (.o (.o .e)))))/\ky 71= .o (.o (.o (.i (.o (.o .e)))))/\ky 72= .i (.o (.o (.i (.o (.o .e)))))/\ky 73= .o (.i (.o (.i (.o (.o .e)))))/\ky 74= .i (.i (.o (.i (.o (.o .e)))))/\ky 75= .o (.o (.i (.i (.o (.o .e)))))/\ky 76= .i (.o (.i (.i (.o (.o .e)))))/\ky 77= .o (.i (.i (.i (.o (.o .e)))))/\ky 78= .i (.i (.i (.i (.o (.o .e)))))/\ky 79= .o (.o (.o (.o (.i (.o .e)))))/\ky 80= .i (.o (.o (.o (.i (.o .e)))))/\ky 81= .o (.i (.o (.o (.i (.o .e)))))/\ky 82= .i (.i (.o (.o (.i (.o .e)))))/\ky 83= .o (.o (.i (.o (.i (.o .e)))))/\ky 84= .i (.o (.i (.o (.i (.o .e)))))/\ky 85= .o (.i (.i (.o (.i (.o .e)))))/\ky 86= .i (.i (.i (.o (.i (.o .e)))))/\ky 87= .o (.o (.o (.i (.i (.o .e)))))/\ky 88= .i (.o (.o (.i (.i (.o .e)))))/\ky 89= .o (.i (.o (.i (.i (.o .e)))))/\ky 90= .i (.i (.o (.i (.i (.o .e)))))/\ky 91= .o (.o (.i (.i (.i (.o .e)))))/\ky 92= .i (.o (.i (.i (.i (.o .e)))))/\ky 93= .o (.i (.i (.i (.i (.o .e)))))/\ky 94= .i (.i (.i (.i (.i (.o .e)))))/\ky 95= .o (.o (.o (.o (.o (.i .e)))))/\ky 96= .i (.o (.o (.o (.o (.i .e)))))/\ky 97= .o (.i (.o (.o (.o (.i .e)))))/\ky 98= .i (.i (.o (.o (.o (.i .e)))))/\ky 99= .o (.o (.i (.o (.o (.i .e)))))/\ky 100= .i (.o (.i (.o (.o (.i .e)))))/\ky 101= .o (.i (.i (.o (.o (.i .e)))))/\ky 102= .i (.i (.i (.o (.o (.i .e)))))/\ky 103= .o (.o (.o (.i (.o (.i .e)))))/\ky 104= .i (.o (.o (.i (.o (.i .e)))))/\ky 105= .o (.i (.o (.i (.o (.i .e)))))/\ky 106= .i (.i (.o (.i (.o (.i .e)))))/\ky 107= .o (.o (.i (.i (.o (.i .e)))))/\ky 108= .i (.o (.i (.i (.o (.i .e)))))/\ky 109= .o (.i (.i (.i (.o (.i .e)))))/\ky 110= .i (.i (.i (.i (.o (.i .e)))))/\ky 111= .o (.o (.o (.o (.i (.i .e)))))/\ky 112= .i (.o (.o (.o (.i (.i .e)))))/\ky 113= .o (.i (.o (.o (.i (.i .e)))))/\ky 114= .i (.i (.o (.o (.i (.i .e)))))/\ky 115= .o (.o (.i (.o (.i (.i .e)))))/\ky 116= .i (.o (.i (.o (.i (.i .e)))))/\ky 117= .o (.i (.i (.o (.i (.i .e)))))/\ky 118= .i (.i (.i (.o (.i (.i .e)))))/\ky 119= .o (.o (.o (.i (.i (.i .e))))):=by and_intros<;>exact id rfl
@[simp] theorem qzx:ky 120= .i (.o (.o (.i (.i (.i .e)))))/\ky 121= .o (.i (.o (.i (.i (.i .e)))))/\ky 122= .i (.i (.o (.i (.i (.i .e)))))/\ky 123= .o (.o (.i (.i (.i (.i .e)))))/\ky 124= .i (.o (.i (.i (.i (.i .e)))))/\ky 125= .o (.i (.i (.i (.i (.i .e)))))/\ky 126= .i (.i (.i (.i (.i (.i .e)))))/\ky 127= .o (.o (.o (.o (.o (.o (.o .e))))))/\ky 128= .i (.o (.o (.o (.o (.o (.o .e))))))/\ky 129= .o (.i (.o (.o (.o (.o (.o .e))))))/\ky 130= .i (.i (.o (.o (.o (.o (.o .e))))))/\ky 131= .o (.o (.i (.o (.o (.o (.o .e))))))/\ky 132= .i (.o (.i (.o (.o (.o (.o .e))))))/\ky 133= .o (.i (.i (.o (.o (.o (.o .e))))))/\ky 134= .i (.i (.i (.o (.o (.o (.o .e))))))/\ky 135= .o (.o (.o (.i (.o (.o (.o .e))))))/\ky 136= .i (.o (.o (.i (.o (.o (.o .e))))))/\ky 137= .o (.i (.o (.i (.o (.o (.o .e))))))/\ky 138= .i (.i (.o (.i (.o (.o (.o .e))))))/\ky 139= .o (.o (.i (.i (.o (.o (.o .e))))))/\ky 140= .i (.o (.i (.i (.o (.o (.o .e))))))/\ky 141= .o (.i (.i (.i (.o (.o (.o .e))))))/\ky 142= .i (.i (.i (.i (.o (.o (.o .e))))))/\ky 143= .o (.o (.o (.o (.i (.o (.o .e))))))/\ky 144= .i (.o (.o (.o (.i (.o (.o .e))))))/\ky 145= .o (.i (.o (.o (.i (.o (.o .e))))))/\ky 146= .i (.i (.o (.o (.i (.o (.o .e))))))/\ky 147= .o (.o (.i (.o (.i (.o (.o .e))))))/\ky 148= .i (.o (.i (.o (.i (.o (.o .e))))))/\ky 149= .o (.i (.i (.o (.i (.o (.o .e))))))/\ky 150= .i (.i (.i (.o (.i (.o (.o .e))))))/\ky 151= .o (.o (.o (.i (.i (.o (.o .e))))))/\ky 152= .i (.o (.o (.i (.i (.o (.o .e))))))/\ky 153= .o (.i (.o (.i (.i (.o (.o .e))))))/\ky 154= .i (.i (.o (.i (.i (.o (.o .e))))))/\ky 155= .o (.o (.i (.i (.i (.o (.o .e))))))/\ky 156= .i (.o (.i (.i (.i (.o (.o .e))))))/\ky 157= .o (.i (.i (.i (.i (.o (.o .e))))))/\ky 158= .i (.i (.i (.i (.i (.o (.o .e))))))/\ky 159= .o (.o (.o (.o (.o (.i (.o .e))))))/\ky 160= .i (.o (.o (.o (.o (.i (.o .e))))))/\ky 161= .o (.i (.o (.o (.o (.i (.o .e))))))/\ky 162= .i (.i (.o (.o (.o (.i (.o .e))))))/\ky 163= .o (.o (.i (.o (.o (.i (.o .e))))))/\ky 164= .i (.o (.i (.o (.o (.i (.o .e))))))/\ky 165= .o (.i (.i (.o (.o (.i (.o .e))))))/\ky 166= .i (.i (.i (.o (.o (.i (.o .e))))))/\ky 167= .o (.o (.o (.i (.o (.i (.o .e))))))/\ky 168= .i (.o (.o (.i (.o (.i (.o .e))))))/\ky 169= .o (.i (.o (.i (.o (.i (.o .e))))))/\ky 170= .i (.i (.o (.i (.o (.i (.o .e))))))/\ky 171= .o (.o (.i (.i (.o (.i (.o .e))))))/\ky 172= .i (.o (.i (.i (.o (.i (.o .e))))))/\ky 173= .o (.i (.i (.i (.o (.i (.o .e))))))/\ky 174= .i (.i (.i (.i (.o (.i (.o .e))))))/\ky 175= .o (.o (.o (.o (.i (.i (.o .e))))))/\ky 176= .i (.o (.o (.o (.i (.i (.o .e))))))/\ky 177= .o (.i (.o (.o (.i (.i (.o .e))))))/\ky 178= .i (.i (.o (.o (.i (.i (.o .e))))))/\ky 179= .o (.o (.i (.o (.i (.i (.o .e)))))):=by and_intros<;>exact id rfl
@[simp] theorem qzw:ky 180= .i (.o (.i (.o (.i (.i (.o .e))))))/\ky 181= .o (.i (.i (.o (.i (.i (.o .e))))))/\ky 182= .i (.i (.i (.o (.i (.i (.o .e))))))/\ky 183= .o (.o (.o (.i (.i (.i (.o .e))))))/\ky 184= .i (.o (.o (.i (.i (.i (.o .e))))))/\ky 185= .o (.i (.o (.i (.i (.i (.o .e))))))/\ky 186= .i (.i (.o (.i (.i (.i (.o .e))))))/\ky 187= .o (.o (.i (.i (.i (.i (.o .e))))))/\ky 188= .i (.o (.i (.i (.i (.i (.o .e))))))/\ky 189= .o (.i (.i (.i (.i (.i (.o .e))))))/\ky 190= .i (.i (.i (.i (.i (.i (.o .e))))))/\ky 191= .o (.o (.o (.o (.o (.o (.i .e))))))/\ky 192= .i (.o (.o (.o (.o (.o (.i .e))))))/\ky 193= .o (.i (.o (.o (.o (.o (.i .e))))))/\ky 194= .i (.i (.o (.o (.o (.o (.i .e))))))/\ky 195= .o (.o (.i (.o (.o (.o (.i .e))))))/\ky 196= .i (.o (.i (.o (.o (.o (.i .e))))))/\ky 197= .o (.i (.i (.o (.o (.o (.i .e))))))/\ky 198= .i (.i (.i (.o (.o (.o (.i .e))))))/\ky 199= .o (.o (.o (.i (.o (.o (.i .e))))))/\ky 200= .i (.o (.o (.i (.o (.o (.i .e))))))/\ky 201= .o (.i (.o (.i (.o (.o (.i .e))))))/\ky 202= .i (.i (.o (.i (.o (.o (.i .e))))))/\ky 203= .o (.o (.i (.i (.o (.o (.i .e))))))/\ky 204= .i (.o (.i (.i (.o (.o (.i .e))))))/\ky 205= .o (.i (.i (.i (.o (.o (.i .e))))))/\ky 206= .i (.i (.i (.i (.o (.o (.i .e))))))/\ky 207= .o (.o (.o (.o (.i (.o (.i .e))))))/\ky 208= .i (.o (.o (.o (.i (.o (.i .e))))))/\ky 209= .o (.i (.o (.o (.i (.o (.i .e))))))/\ky 210= .i (.i (.o (.o (.i (.o (.i .e))))))/\ky 211= .o (.o (.i (.o (.i (.o (.i .e))))))/\ky 212= .i (.o (.i (.o (.i (.o (.i .e))))))/\ky 213= .o (.i (.i (.o (.i (.o (.i .e))))))/\ky 214= .i (.i (.i (.o (.i (.o (.i .e))))))/\ky 215= .o (.o (.o (.i (.i (.o (.i .e))))))/\ky 216= .i (.o (.o (.i (.i (.o (.i .e))))))/\ky 217= .o (.i (.o (.i (.i (.o (.i .e))))))/\ky 218= .i (.i (.o (.i (.i (.o (.i .e))))))/\ky 219= .o (.o (.i (.i (.i (.o (.i .e))))))/\ky 220= .i (.o (.i (.i (.i (.o (.i .e))))))/\ky 221= .o (.i (.i (.i (.i (.o (.i .e))))))/\ky 222= .i (.i (.i (.i (.i (.o (.i .e))))))/\ky 223= .o (.o (.o (.o (.o (.i (.i .e))))))/\ky 224= .i (.o (.o (.o (.o (.i (.i .e))))))/\ky 225= .o (.i (.o (.o (.o (.i (.i .e))))))/\ky 226= .i (.i (.o (.o (.o (.i (.i .e))))))/\ky 227= .o (.o (.i (.o (.o (.i (.i .e))))))/\ky 228= .i (.o (.i (.o (.o (.i (.i .e))))))/\ky 229= .o (.i (.i (.o (.o (.i (.i .e))))))/\ky 230= .i (.i (.i (.o (.o (.i (.i .e))))))/\ky 231= .o (.o (.o (.i (.o (.i (.i .e))))))/\ky 232= .i (.o (.o (.i (.o (.i (.i .e))))))/\ky 233= .o (.i (.o (.i (.o (.i (.i .e))))))/\ky 234= .i (.i (.o (.i (.o (.i (.i .e))))))/\ky 235= .o (.o (.i (.i (.o (.i (.i .e))))))/\ky 236= .i (.o (.i (.i (.o (.i (.i .e))))))/\ky 237= .o (.i (.i (.i (.o (.i (.i .e))))))/\ky 238= .i (.i (.i (.i (.o (.i (.i .e))))))/\ky 239= .o (.o (.o (.o (.i (.i (.i .e)))))):=by and_intros<;>exact id rfl
@[simp] theorem qzv:ky 240= .i (.o (.o (.o (.i (.i (.i .e))))))/\ky 241= .o (.i (.o (.o (.i (.i (.i .e))))))/\ky 242= .i (.i (.o (.o (.i (.i (.i .e))))))/\ky 243= .o (.o (.i (.o (.i (.i (.i .e))))))/\ky 244= .i (.o (.i (.o (.i (.i (.i .e))))))/\ky 245= .o (.i (.i (.o (.i (.i (.i .e))))))/\ky 246= .i (.i (.i (.o (.i (.i (.i .e))))))/\ky 247= .o (.o (.o (.i (.i (.i (.i .e))))))/\ky 248= .i (.o (.o (.i (.i (.i (.i .e))))))/\ky 249= .o (.i (.o (.i (.i (.i (.i .e))))))/\ky 250= .i (.i (.o (.i (.i (.i (.i .e))))))/\ky 251= .o (.o (.i (.i (.i (.i (.i .e))))))/\ky 252= .i (.o (.i (.i (.i (.i (.i .e))))))/\ky 253= .o (.i (.i (.i (.i (.i (.i .e))))))/\ky 254= .i (.i (.i (.i (.i (.i (.i .e))))))/\ky 255= .o (.o (.o (.o (.o (.o (.o (.o .e)))))))/\ky 256= .i (.o (.o (.o (.o (.o (.o (.o .e)))))))/\ky 257= .o (.i (.o (.o (.o (.o (.o (.o .e)))))))/\ky 258= .i (.i (.o (.o (.o (.o (.o (.o .e)))))))/\ky 259= .o (.o (.i (.o (.o (.o (.o (.o .e)))))))/\ky 260= .i (.o (.i (.o (.o (.o (.o (.o .e)))))))/\ky 261= .o (.i (.i (.o (.o (.o (.o (.o .e)))))))/\ky 262= .i (.i (.i (.o (.o (.o (.o (.o .e)))))))/\ky 263= .o (.o (.o (.i (.o (.o (.o (.o .e)))))))/\ky 264= .i (.o (.o (.i (.o (.o (.o (.o .e)))))))/\ky 265= .o (.i (.o (.i (.o (.o (.o (.o .e)))))))/\ky 266= .i (.i (.o (.i (.o (.o (.o (.o .e)))))))/\ky 267= .o (.o (.i (.i (.o (.o (.o (.o .e)))))))/\ky 268= .i (.o (.i (.i (.o (.o (.o (.o .e)))))))/\ky 269= .o (.i (.i (.i (.o (.o (.o (.o .e)))))))/\ky 270= .i (.i (.i (.i (.o (.o (.o (.o .e)))))))/\ky 271= .o (.o (.o (.o (.i (.o (.o (.o .e)))))))/\ky 272= .i (.o (.o (.o (.i (.o (.o (.o .e)))))))/\ky 273= .o (.i (.o (.o (.i (.o (.o (.o .e)))))))/\ky 274= .i (.i (.o (.o (.i (.o (.o (.o .e)))))))/\ky 275= .o (.o (.i (.o (.i (.o (.o (.o .e)))))))/\ky 276= .i (.o (.i (.o (.i (.o (.o (.o .e)))))))/\ky 277= .o (.i (.i (.o (.i (.o (.o (.o .e)))))))/\ky 278= .i (.i (.i (.o (.i (.o (.o (.o .e)))))))/\ky 279= .o (.o (.o (.i (.i (.o (.o (.o .e)))))))/\ky 280= .i (.o (.o (.i (.i (.o (.o (.o .e)))))))/\ky 281= .o (.i (.o (.i (.i (.o (.o (.o .e)))))))/\ky 282= .i (.i (.o (.i (.i (.o (.o (.o .e)))))))/\ky 283= .o (.o (.i (.i (.i (.o (.o (.o .e)))))))/\ky 284= .i (.o (.i (.i (.i (.o (.o (.o .e)))))))/\ky 285= .o (.i (.i (.i (.i (.o (.o (.o .e)))))))/\ky 286= .i (.i (.i (.i (.i (.o (.o (.o .e)))))))/\ky 287= .o (.o (.o (.o (.o (.i (.o (.o .e)))))))/\ky 288= .i (.o (.o (.o (.o (.i (.o (.o .e)))))))/\ky 289= .o (.i (.o (.o (.o (.i (.o (.o .e)))))))/\ky 290= .i (.i (.o (.o (.o (.i (.o (.o .e)))))))/\ky 291= .o (.o (.i (.o (.o (.i (.o (.o .e)))))))/\ky 292= .i (.o (.i (.o (.o (.i (.o (.o .e)))))))/\ky 293= .o (.i (.i (.o (.o (.i (.o (.o .e)))))))/\ky 294= .i (.i (.i (.o (.o (.i (.o (.o .e)))))))/\ky 295= .o (.o (.o (.i (.o (.i (.o (.o .e)))))))/\ky 296= .i (.o (.o (.i (.o (.i (.o (.o .e)))))))/\ky 297= .o (.i (.o (.i (.o (.i (.o (.o .e)))))))/\ky 298= .i (.i (.o (.i (.o (.i (.o (.o .e)))))))/\ky 299= .o (.o (.i (.i (.o (.i (.o (.o .e))))))):=by and_intros<;>exact id rfl
@[simp] theorem qsD(H:ab)(i:Nat):bD [] H i=H i:=i' rfl
@[simp] theorem qpY(t i:Nat):Dt (some t) i=(SA i=SA t):=i' rfl
@[simp] theorem qwi{i:Nat}(h:i< 990):SA i=i:=by unfold SA;rw[if_neg (by omega)]
@[simp] theorem qsF(d:Option Nat)(g:Option (Nat×Bool))(c:COp)(l:List CI)(H:ab)(i:Nat):bD (.op d g c::l) H i=if Dt (CI.op d g c).wid i then none else bD l H i:=i' rfl
@[simp] theorem qsE(a b:Nat)(l:List CI)(H:ab)(i:Nat):bD (.frz a b::l) H i=H i:=i' rfl
@[simp] theorem quG(dst_:Option Nat)(gd_:Option (Nat×Bool))(x:Operand):(CI.op dst_ gd_ (.mv x)).wid=dst_:=i' rfl
@[simp] theorem qoR(dst_:Option Nat)(gd_:Option (Nat×Bool))(c:Operand)(x:Operand)(y:Operand):(CI.op dst_ gd_ (.pick c x y)).wid=dst_:=i' rfl
@[simp] theorem qnY(dst_:Option Nat)(gd_:Option (Nat×Bool))(el:Nat)(z:List Value):(CI.op dst_ gd_ (.alloc el z)).wid=dst_:=i' rfl
@[simp] theorem qnW(dst_:Option Nat)(gd_:Option (Nat×Bool))(z:List Value)(parts:List (Nat×Nat×Operand)):(CI.op dst_ gd_ (.build z parts)).wid=dst_:=i' rfl
@[simp] theorem qlp(dst_:Option Nat)(gd_:Option (Nat×Bool))(el:Nat)(n:Nat)(parts:List Operand):(CI.op dst_ gd_ (.bslice el n parts)).wid=dst_:=i' rfl
@[simp] theorem qoS(dst_:Option Nat)(gd_:Option (Nat×Bool))(agg:Bool)(sz:Nat)(x:Operand):(CI.op dst_ gd_ (.load agg sz x)).wid=dst_:=i' rfl
@[simp] theorem qkA(d:Option Nat)(g:Option (Nat×Bool))(r sz:Nat)(x y:Operand):(CI.op d g (.store (some r) sz x y)).wid=some r:=i' rfl
@[simp] theorem qnS(dst_:Option Nat)(gd_:Option (Nat×Bool))(x:Operand):(CI.op dst_ gd_ (.nilck x)).wid=dst_:=i' rfl
@[simp] theorem qnX(dst_:Option Nat)(gd_:Option (Nat×Bool))(op:BinOp)(x:Operand)(y:Operand):(CI.op dst_ gd_ (.arith op x y)).wid=dst_:=i' rfl
@[simp] theorem qrx(dst_:Option Nat)(gd_:Option (Nat×Bool))(op:BinOp)(x:Operand)(y:Operand):(CI.op dst_ gd_ (.cmp op x y)).wid=dst_:=i' rfl
@[simp] theorem qrw(dst_:Option Nat)(gd_:Option (Nat×Bool))(neg:Bool)(agg:Bool)(ks:List XI)(x:Operand)(y:Operand):(CI.op dst_ gd_ (.eql neg agg ks x y)).wid=dst_:=i' rfl
@[simp] theorem qrt(dst_:Option Nat)(gd_:Option (Nat×Bool))(x:Operand):(CI.op dst_ gd_ (.not x)).wid=dst_:=i' rfl
@[simp] theorem qnR(dst_:Option Nat)(gd_:Option (Nat×Bool))(n:Nat)(x:Operand)(lo:Option Operand)(hi:Option Operand):(CI.op dst_ gd_ (.slice n x lo hi)).wid=dst_:=i' rfl
@[simp] theorem qlo(dst_:Option Nat)(gd_:Option (Nat×Bool))(x:Operand)(lo:Option Operand)(hi:Option Operand):(CI.op dst_ gd_ (.sslice x lo hi)).wid=dst_:=i' rfl
@[simp] theorem qnU(dst_:Option Nat)(gd_:Option (Nat×Bool))(off:Nat)(x:Operand):(CI.op dst_ gd_ (.faddr off x)).wid=dst_:=i' rfl
@[simp] theorem qnT(dst_:Option Nat)(gd_:Option (Nat×Bool))(n:Nat)(x:Operand)(i:Operand):(CI.op dst_ gd_ (.iaddr n x i)).wid=dst_:=i' rfl
@[simp] theorem qrv(dst_:Option Nat)(gd_:Option (Nat×Bool))(x:Operand)(i:Nat):(CI.op dst_ gd_ (.ext x i)).wid=dst_:=i' rfl
@[simp] theorem qru(dst_:Option Nat)(gd_:Option (Nat×Bool))(x:Operand):(CI.op dst_ gd_ (.len x)).wid=dst_:=i' rfl
@[simp] theorem qoQ(dst_:Option Nat)(gd_:Option (Nat×Bool))(x:Operand):(CI.op dst_ gd_ (.slen x)).wid=dst_:=i' rfl
@[simp] theorem quH(dst_:Option Nat)(gd_:Option (Nat×Bool))(mx:Bool)(xs:List Operand):(CI.op dst_ gd_ (.mm mx xs)).wid=dst_:=i' rfl
@[simp] theorem qh5(d:Option Nat)(g:Option (Nat×Bool))(r el n b:Nat)(x y:Operand):(CI.op d g (.append (some r) el n b x y)).wid=some r:=i' rfl
@[simp] theorem qoT(dst_:Option Nat)(gd_:Option (Nat×Bool))(f:Nat)(args:List Operand):(CI.op dst_ gd_ (.call f args)).wid=dst_:=i' rfl
@[simp] theorem qnV(dst_:Option Nat)(gd_:Option (Nat×Bool))(r f:Nat)(args:List Operand):(CI.op dst_ gd_ (.callb r f args)).wid=some r:=i' rfl
abbrev B:=ByteArray
structure I32 where
 val:Int
deriving DecidableEq
instance:Cod I32 where
 wd:=1
 enc n:= .v (.int .i32 n.val)
 dec| .v (.int .i32 n)=>some ⟨n⟩|_=>none
 kn _:=rfl
 wid _:=rfl
 dec_enc _:=rfl
 le d x h:=by
  split at h
  ·cases h;exact .same _
  ·cases h
@[simp] theorem qtx(n:I32):enc n= .v (.int .i32 n.val):=i' rfl
@[simp] theorem quO:Cod.wd I32=1:=i' rfl
@[simp] theorem qtG(n:Int):dec (X:=I32) (.v (.int .i32 n))=some ⟨n⟩:=i' rfl
@[simp] theorem qtp(n:I32):I32.mk n.val=n:=i' rfl
structure U8 where
 val:Int
deriving DecidableEq
instance:Cod U8 where
 wd:=1
 enc n:= .v (.int .u8 n.val)
 dec| .v (.int .u8 n)=>some ⟨n⟩|_=>none
 kn _:=rfl
 wid _:=rfl
 dec_enc _:=rfl
 le d x h:=by
  split at h
  ·cases h;exact .same _
  ·cases h
@[simp] theorem qwG(n:U8):enc n= .v (.int .u8 n.val):=i' rfl
@[simp] theorem qwQ(n:Int):dec (X:=U8) (.v (.int .u8 n))=some ⟨n⟩:=i' rfl
@[simp] theorem qwA(n:U8):U8.mk n.val=n:=i' rfl
structure Pair where
 nm:B
 vl:B
deriving DecidableEq
instance:Cod Pair where
 wd:=2
 enc s:= .agg [enc s.nm,enc s.vl]
 dec| .agg [x0,x1]=>(dec x0).bind λx0=>(dec x1).bind λx1=>some ⟨x0,x1⟩|_=>none
 kn _:=rfl
 wid _:=rfl
 dec_enc s:=by simp
 le d x h:=by
  split at h
  ·simp only[qzU]at h;obtain⟨x0,h0,x1,h1,h⟩:=h;cases h;exact LeL.agg (.cons (Cod.le _ _ h0) (.cons (Cod.le _ _ h1) .nil))
  ·cases h
@[simp] theorem qqn(s:Pair):(Pair.mk s.nm s.vl)=s:=i' rfl
@[simp] theorem qqs(s:Pair):enc s= .agg [enc s.nm,enc s.vl]:=i' rfl
@[simp] theorem qrC:Cod.wd Pair=2:=i' rfl
@[simp] theorem qqB(x0 x1:D):dec (X:=Pair) (.agg [x0,x1])=((dec x0).bind λx0=>(dec x1).bind λx1=>some ⟨x0,x1⟩):=i' rfl
structure Attr where
 nm:B
 st:Bool
deriving DecidableEq
instance:Cod Attr where
 wd:=2
 enc s:= .agg [enc s.nm,enc s.st]
 dec| .agg [x0,x1]=>(dec x0).bind λx0=>(dec x1).bind λx1=>some ⟨x0,x1⟩|_=>none
 kn _:=rfl
 wid _:=rfl
 dec_enc s:=by simp
 le d x h:=by
  split at h
  ·simp only[qzU]at h;obtain⟨x0,h0,x1,h1,h⟩:=h;cases h;exact LeL.agg (.cons (Cod.le _ _ h0) (.cons (Cod.le _ _ h1) .nil))
  ·cases h
@[simp] theorem qqp(s:Attr):(Attr.mk s.nm s.st)=s:=i' rfl
@[simp] theorem qqv(s:Attr):enc s= .agg [enc s.nm,enc s.st]:=i' rfl
@[simp] theorem qrH:Cod.wd Attr=2:=i' rfl
@[simp] theorem qqD(x0 x1:D):dec (X:=Attr) (.agg [x0,x1])=((dec x0).bind λx0=>(dec x1).bind λx1=>some ⟨x0,x1⟩):=i' rfl
structure Span where
 b:Int
 e:Int
deriving DecidableEq
instance:Cod Span where
 wd:=2
 enc s:= .agg [enc s.b,enc s.e]
 dec| .agg [x0,x1]=>(dec x0).bind λx0=>(dec x1).bind λx1=>some ⟨x0,x1⟩|_=>none
 kn _:=rfl
 wid _:=rfl
 dec_enc s:=by simp
 le d x h:=by
  split at h
  ·simp only[qzU]at h;obtain⟨x0,h0,x1,h1,h⟩:=h;cases h;exact LeL.agg (.cons (Cod.le _ _ h0) (.cons (Cod.le _ _ h1) .nil))
  ·cases h
@[simp] theorem qqm(s:Span):(Span.mk s.b s.e)=s:=i' rfl
@[simp] theorem qqr(s:Span):enc s= .agg [enc s.b,enc s.e]:=i' rfl
@[simp] theorem qrB:Cod.wd Span=2:=i' rfl
@[simp] theorem qqA(x0 x1:D):dec (X:=Span) (.agg [x0,x1])=((dec x0).bind λx0=>(dec x1).bind λx1=>some ⟨x0,x1⟩):=i' rfl
structure Ai where
 nm:B
 b:Int
 e:Int
 kv:List Pair
deriving DecidableEq
instance:Cod Ai where
 wd:=4
 enc s:= .agg [enc s.nm,enc s.b,enc s.e,enc s.kv]
 dec| .agg [x0,x1,x2,x3]=>(dec x0).bind λx0=>(dec x1).bind λx1=>(dec x2).bind λx2=>(dec x3).bind λx3=>some ⟨x0,x1,x2,x3⟩|_=>none
 kn _:=rfl
 wid _:=rfl
 dec_enc s:=by simp
 le d x h:=by
  split at h
  ·simp only[qzU]at h;obtain⟨x0,h0,x1,h1,x2,h2,x3,h3,h⟩:=h;cases h;exact LeL.agg (.cons (Cod.le _ _ h0) (.cons (Cod.le _ _ h1) (.cons (Cod.le _ _ h2) (.cons (Cod.le _ _ h3) .nil))))
  ·cases h
@[simp] theorem qqq(s:Ai):enc s= .agg [enc s.nm,enc s.b,enc s.e,enc s.kv]:=i' rfl
@[simp] theorem qrA:Cod.wd Ai=4:=i' rfl
@[simp] theorem qqz(x0 x1 x2 x3:D):dec (X:=Ai) (.agg [x0,x1,x2,x3])=((dec x0).bind λx0=>(dec x1).bind λx1=>(dec x2).bind λx2=>(dec x3).bind λx3=>some ⟨x0,x1,x2,x3⟩):=i' rfl
structure Region where
 ty:B
 b:Int
 e:Int
 kv:List Pair
deriving DecidableEq
instance:Cod Region where
 wd:=4
 enc s:= .agg [enc s.ty,enc s.b,enc s.e,enc s.kv]
 dec| .agg [x0,x1,x2,x3]=>(dec x0).bind λx0=>(dec x1).bind λx1=>(dec x2).bind λx2=>(dec x3).bind λx3=>some ⟨x0,x1,x2,x3⟩|_=>none
 kn _:=rfl
 wid _:=rfl
 dec_enc s:=by simp
 le d x h:=by
  split at h
  ·simp only[qzU]at h;obtain⟨x0,h0,x1,h1,x2,h2,x3,h3,h⟩:=h;cases h;exact LeL.agg (.cons (Cod.le _ _ h0) (.cons (Cod.le _ _ h1) (.cons (Cod.le _ _ h2) (.cons (Cod.le _ _ h3) .nil))))
  ·cases h
@[simp] theorem qmU(s:Region):(Region.mk s.ty s.b s.e s.kv)=s:=i' rfl
@[simp] theorem qmX(s:Region):enc s= .agg [enc s.ty,enc s.b,enc s.e,enc s.kv]:=i' rfl
@[simp] theorem qn0:Cod.wd Region=4:=i' rfl
@[simp] theorem qna(x0 x1 x2 x3:D):dec (X:=Region) (.agg [x0,x1,x2,x3])=((dec x0).bind λx0=>(dec x1).bind λx1=>(dec x2).bind λx2=>(dec x3).bind λx3=>some ⟨x0,x1,x2,x3⟩):=i' rfl
structure yq where
 lb:B
 b:Int
 e:Int
 par:Int
deriving DecidableEq
instance:Cod yq where
 wd:=4
 enc s:= .agg [enc s.lb,enc s.b,enc s.e,enc s.par]
 dec| .agg [x0,x1,x2,x3]=>(dec x0).bind λx0=>(dec x1).bind λx1=>(dec x2).bind λx2=>(dec x3).bind λx3=>some ⟨x0,x1,x2,x3⟩|_=>none
 kn _:=rfl
 wid _:=rfl
 dec_enc s:=by simp
 le d x h:=by
  split at h
  ·simp only[qzU]at h;obtain⟨x0,h0,x1,h1,x2,h2,x3,h3,h⟩:=h;cases h;exact LeL.agg (.cons (Cod.le _ _ h0) (.cons (Cod.le _ _ h1) (.cons (Cod.le _ _ h2) (.cons (Cod.le _ _ h3) .nil))))
  ·cases h
@[simp] theorem qqt(s:yq):enc s= .agg [enc s.lb,enc s.b,enc s.e,enc s.par]:=i' rfl
@[simp] theorem qrD:Cod.wd yq=4:=i' rfl
structure Corpus where
 attrs:List Attr
 toks:List (List B)
 texts:List Ai
 regs:List Region
 nodes:List yq
 heads:List Int
 rels:List B
deriving DecidableEq
instance:Cod Corpus where
 wd:=7
 enc s:= .agg [enc s.attrs,enc s.toks,enc s.texts,enc s.regs,enc s.nodes,enc s.heads,enc s.rels]
 dec| .agg [x0,x1,x2,x3,x4,x5,x6]=>(dec x0).bind λx0=>(dec x1).bind λx1=>(dec x2).bind λx2=>(dec x3).bind λx3=>(dec x4).bind λx4=>(dec x5).bind λx5=>(dec x6).bind λx6=>some ⟨x0,x1,x2,x3,x4,x5,x6⟩|_=>none
 kn _:=rfl
 wid _:=rfl
 dec_enc s:=by simp
 le d x h:=by
  split at h
  ·simp only[qzU]at h;obtain⟨x0,h0,x1,h1,x2,h2,x3,h3,x4,h4,x5,h5,x6,h6,h⟩:=h;cases h;exact LeL.agg (.cons (Cod.le _ _ h0) (.cons (Cod.le _ _ h1) (.cons (Cod.le _ _ h2) (.cons (Cod.le _ _ h3) (.cons (Cod.le _ _ h4) (.cons (Cod.le _ _ h5) (.cons (Cod.le _ _ h6) .nil)))))))
  ·cases h
@[simp] theorem qmV(s:Corpus):(Corpus.mk s.attrs s.toks s.texts s.regs s.nodes s.heads s.rels)=s:=i' rfl
@[simp] theorem qmY(s:Corpus):enc s= .agg [enc s.attrs,enc s.toks,enc s.texts,enc s.regs,enc s.nodes,enc s.heads,enc s.rels]:=i' rfl
@[simp] theorem qnb(x0 x1 x2 x3 x4 x5 x6:D):dec (X:=Corpus) (.agg [x0,x1,x2,x3,x4,x5,x6])=((dec x0).bind λx0=>(dec x1).bind λx1=>(dec x2).bind λx2=>(dec x3).bind λx3=>(dec x4).bind λx4=>(dec x5).bind λx5=>(dec x6).bind λx6=>some ⟨x0,x1,x2,x3,x4,x5,x6⟩):=i' rfl
structure xu where
 r:I32
 pos:Int
 sz:Int
 ok:Bool
deriving DecidableEq
instance:Cod xu where
 wd:=4
 enc s:= .agg [enc s.r,enc s.pos,enc s.sz,enc s.ok]
 dec| .agg [x0,x1,x2,x3]=>(dec x0).bind λx0=>(dec x1).bind λx1=>(dec x2).bind λx2=>(dec x3).bind λx3=>some ⟨x0,x1,x2,x3⟩|_=>none
 kn _:=rfl
 wid _:=rfl
 dec_enc s:=by simp
 le d x h:=by
  split at h
  ·simp only[qzU]at h;obtain⟨x0,h0,x1,h1,x2,h2,x3,h3,h⟩:=h;cases h;exact LeL.agg (.cons (Cod.le _ _ h0) (.cons (Cod.le _ _ h1) (.cons (Cod.le _ _ h2) (.cons (Cod.le _ _ h3) .nil))))
  ·cases h
@[simp] theorem qmW(s:xu):enc s= .agg [enc s.r,enc s.pos,enc s.sz,enc s.ok]:=i' rfl
@[simp] theorem qnZ:Cod.wd xu=4:=i' rfl
def au{α:Type}{l:List α}{k:Nat}{a:α}(h:l[k]? =some a):l.take (k+1)=l.take k++ [a]:=by
 rw[qA6,h];rfl
def bB{α:Type}{l:List α}{k:Nat}{a:α}(h:l[k]? =some a):l.drop k=a::l.drop (k+1):=by
 obtain⟨hk,rfl⟩:=qzV.1 h;exact qAQ hk
def aP{α:Type}{l:List α}{k:Nat}{a:α}(h:l[k]? =some a):a∈l:=qzY h
def aQ{α:Type}{l:List α}{k:Nat}(h:k<l.length):∃a,l[k]? =some a:=⟨l[k],qzX h⟩
def AP(a b:Span):Prop:=a.b<b.b\/a.b=b.b/\a.e<b.e
instance (a b:Span):Decidable (AP a b):=by unfold AP;infer_instance
def Gu(a:Span):¬AP a a:=by unfold AP;omega
def Ip{a b c:Span}(h:AP a b)(k:AP b c):AP a c:=by unfold AP at*;omega
def Span.ext'{a b:Span}(h:a.b=b.b)(k:a.e=b.e):a=b:=by cases a;cases b;simp at h k;simp[h,k]
def K6(a b:Span):AP a b\/a=b\/AP b a:=by
 by_cases h:a.b=b.b/\a.e=b.e
 ·exact .inr (.inl (Span.ext' h.1 h.2))
 ·unfold AP;omega
def SS(l:List Span):Prop:=l.Pairwise AP
def SS.nil:SS []:=List.Pairwise.nil
theorem Yr:∀{a b:List Span},SS a->SS b->(∀x,x∈a↔x∈b)->a=b
 | [], [],_,_,_=>rfl
 | [],y::b,_,_,h=>by have:=(h y).2 (by simp);simp at this
 |x::a, [],_,_,h=>by have:=(h x).1 (by simp);simp at this
 | x::a,y::b,ha,hb,h=>by
   have ha':=qBq.1 ha;have hb':=qBq.1 hb;have hxy:x=y:=by
    rcases qAc.1 ((h x).1 (by simp))with e|e
    ·exact e
    ·rcases qAc.1 ((h y).2 (by simp))with e2|e2
     ·exact e2.symm
     ·exact absurd (Ip (ha'.1 y e2) (hb'.1 x e)) (Gu x)
   subst hxy;have:a=b:=Yr ha'.2 hb'.2 λz=>by
    constructor
    ·intro hz;rcases qAc.1 ((h z).1 (by simp[hz]))with e|e
     ·subst e;exact absurd (ha'.1 z hz) (Gu z)
     ·exact e
    ·intro hz;rcases qAc.1 ((h z).2 (by simp[hz]))with e|e
     ·subst e;exact absurd (hb'.1 z hz) (Gu z)
     ·exact e
   rw[this]
def IsNorm(l r:List Span):Prop:=SS r/\∀x,x∈r↔x∈l
def IsNorm.eq{l l' r r':List Span}(h:IsNorm l r)(k:IsNorm l' r')(hl:∀x,x∈l↔x∈l'):r=r':=
 Yr h.1 k.1 λx=>(h.2 x).trans ((hl x).trans (k.2 x).symm)
def IsNorm.nil:IsNorm [] []:=⟨SS.nil,λ_=>qAY⟩
def IsNorm.congr{l l' r:List Span}(h:IsNorm l r)(hl:∀x,x∈l↔x∈l'):IsNorm l' r:=⟨h.1,λx=>(h.2 x).trans (hl x)⟩
def IsNorm.self{l:List Span}(h:SS l):IsNorm l l:=⟨h,λ_=>qAY⟩
def qdZ:∀{r l:List Span},SS r->(∀x∈r,x∈l)->r.length<=l.length
 | [],l,_,_=>qAr _
 | x::r,l,h,hl=>by
   have h':=qBq.1 h;have hx:=hl x (by simp);have:=qdZ (l:=l.erase x) h'.2 λy hy=>(List.mem_erase_of_ne (λ(e:y=x)=>Gu x (by have:=h'.1 y hy;rwa [e]at this))).2 (hl y (by simp[hy]))
   rw[List.length_erase_of_mem hx]at this;have:=List.length_pos_of_mem hx;simp;omega
def IsNorm.len{l r:List Span}(h:IsNorm l r):r.length<=l.length:=qdZ h.1 λx hx=>(h.2 x).1 hx
def IsNorm.snoc{l l' r r':List Span}{s:Span}(h:IsNorm l r)(k:IsNorm (r++ [s]) r')(hl:∀x,x∈l'↔x∈l\/x=s):IsNorm l' r':=
 ⟨k.1,λx=>(k.2 x).trans (by rw[hl x];simp[h.2 x])⟩
def IsNorm.same{l l' r:List Span}(h:IsNorm l r)(hl:∀x,x∈l'↔x∈l):IsNorm l' r:=⟨h.1,λx=>(h.2 x).trans (hl x).symm⟩
theorem VI{l:List Span}{s:Span}{k:Nat}(h:SS l)(hk:k<=l.length)(h1:∀x∈l.drop k,AP s x)(h2:k=0\/ ∃y,l[k -1]? =some y/\ ¬AP s y):
 (∀y,0<k->l[k -1]? =some y->y=s->IsNorm (l++ [s]) l)/\((∀y,0<k->l[k -1]? =some y->y≠s)->IsNorm (l++ [s]) (l.take k++s::l.drop k)):=by
 constructor
 ·intro y _ hy e;subst e;refine(IsNorm.self h).congr λx=>?_
  simp only[qz5,qA9];exact⟨.inl,λhx=>hx.elim id λe=>e ▸aP hy⟩
 ·intro hne;have hs:SS (l.take k++l.drop k):=by rw[qAz];exact h
  obtain⟨ha,hb,hab⟩:=qAR.1 hs;have hlt:∀x∈l.take k,AP x s:=by
   intro x hx;rcases h2 with rfl|⟨y,hy,hn⟩
   ·simp at hx
   ·rcases qA4 k with rfl|hk0
    ·simp at hx
    have hys:AP y s:=by
     rcases K6 y s with h|h|h
     ·exact h
     ·exact absurd h (hne y hk0 hy)
     ·exact absurd h hn
    have htk:l.take k=l.take (k -1) ++ [y]:=by
     have:=au hy;rwa [Nat.sub_add_cancel hk0]at this
    rw[htk]at hx ha;rcases qz5.1 hx with hx|hx
    ·exact Ip ((qAR.1 ha).2.2 x hx y (by simp)) hys
    ·simp at hx;subst hx;exact hys
  refine⟨?_,λx=>?_⟩
  ·refine qAR.2 ⟨ha,qBq.2 ⟨h1,hb⟩,λx hx y hy=>?_⟩;rcases qAc.1 hy with rfl|hy
   ·exact hlt x hx
   ·exact hab x hx y hy
  ·have:x∈l↔x∈l.take k\/x∈l.drop k:=by
    rw[<-qz5,qAz]
   simp only[qz5,qAc,qA9,this];constructor
   ·rintro(h|h|h)
    ·exact .inl (.inl h)
    ·simp[h]
    ·exact .inl (.inr h)
   ·rintro((h|h)|h)
    ·exact .inl h
    ·exact .inr (.inr h)
    ·simp at h;exact .inr (.inl h)
def kB{X:Type} :List X->(X->Bool)->Int
 | [],_=> -1
 |x::l,p=>if p x then 0 else if kB l p< 0 then -1 else kB l p+1
def lK{X:Type}{p:X->Bool} :∀{l:List X},(∀y∈l,p y=false)->kB l p= -1
 | [],_=>rfl
 | x::l,h=>by
   have:=lK (l:=l) (λy hy=>h y (by simp[hy]));simp[kB,h x (by simp),this]
def tF{X:Type}{p:X->Bool} :∀{l:List X} {k:Nat} {x:X},l[k]? =some x->p x=true->(∀y∈l.take k,p y=false)->kB l p=k
 | [],k,x,hx,_,_=>by simp at hx
 | z::l,0,x,hx,hp,_=>by
   simp at hx;subst hx;simp[kB,hp]
 | z::l,k+1,x,hx,hp,hb=>by
   have hz:=hb z (by simp);have ih:=tF (l:=l) (k:=k) (by simpa using hx) hp (λy hy=>hb y (by simp[hy]));simp[kB,hz,ih];omega
def M5{X:Type}(p:X->Bool)(l:List X):(kB l p= -1/\∀y∈l,p y=false)\/ ∃k x,kB l p=(k:Nat)/\l[k]? =some x/\p x=true/\∀y∈l.take k,p y=false:=by
 induction l with
 |nil=>exact .inl ⟨rfl,by simp⟩
 | cons z l ih=>
   by_cases hz:p z=true
   ·exact .inr ⟨0,z,by simp[kB,hz],by simp,hz,by simp⟩
   ·have hz:p z=false:=by simpa using hz
    rcases ih with⟨h1,h2⟩|⟨k,x,h1,h2,h3,h4⟩
    ·refine .inl ⟨by simp[kB,hz,h1],λy hy=>?_⟩;rcases qAc.1 hy with rfl|hy
     ·exact hz
     ·exact h2 y hy
    ·refine .inr ⟨k+1,x,?_,by simpa using h2,h3,λy hy=>?_⟩
     ·simp[kB,hz,h1];omega
     ·rw[qCp]at hy;rcases qAc.1 hy with rfl|hy
      ·exact hz
      ·exact h4 y hy
def zy{X:Type}(p:X->Bool)(l:List X):decide (0<=kB l p)=l.any p:=by
 rcases M5 p l with⟨h1,h2⟩|⟨k,x,h1,h2,h3,h4⟩
 ·have:l.any p=false:=by simpa using h2
  rw[h1,this];rfl
 ·have:l.any p=true:=qBa.2 ⟨x,aP h2,h3⟩;rw[h1,this];simp
def qor(r:List Span)(x:Span):List Span:=if r.getLast? =some x then r else r++ [x]
def vR(l:List Span):List Span:=l.foldl qor []
def CL(l:List Span)(x:Span):vR (l++ [x])=qor (vR l) x:=by simp[vR]
def tT{α:Type}{P:List α->Prop}(h0:P [])(hs:∀l x,P l->P (l++ [x])):∀l,P l:=by
 intro l;have:∀n (l:List α),l.length=n->P l:=by
  intro n
  induction n with
  |zero=>intro l hl;rw[qAd hl];exact h0
  | succ n ih=>
    intro l hl;have hne:l≠ []:=by intro e;subst e;simp at hl
    rw[<-List.dropLast_concat_getLast hne];exact hs _ _ (ih _ (by simp[hl]))
 exact this _ l rfl
def IP(l:List Span):(vR l).getLast? =l.getLast?:=by
 refine tT (P:=λl=>(vR l).getLast? =l.getLast?) rfl (λl x ih=>?_) l;rw[CL,qor];split
 ·rename_i h;rw[h];simp
 ·simp
def WZ(l:List Span):∀x,x∈vR l↔x∈l:=by
 refine tT (P:=λl=>∀x,x∈vR l↔x∈l) (λx=>qAY) (λl y ih x=>?_) l;rw[CL,qor];split
 ·rename_i h;rw[IP]at h;have hy:y∈l:=List.mem_of_getLast? h;simp[ih x];rintro rfl;exact hy
 ·simp[ih x]
def WS(l:List Span):Prop:=l.Pairwise λa b=>¬AP b a
theorem qj5{l:List Span}(h:WS l):SS (vR l):=by
 revert h;refine tT (P:=λl=>WS l->SS (vR l)) (λ_=>SS.nil) (λl x ih h=>?_) l;have h':=qAR.1 h;have hs:=ih h'.1;rw[CL,qor];split
 ·exact hs
 ·rename_i hne;refine qAR.2 ⟨hs,by simp,λa ha b hb=>?_⟩;simp at hb;subst hb;have hal:=(WZ l a).1 ha;rcases K6 a b with h1|h1|h1
  ·exact h1
  ·exfalso;subst h1;apply hne;rw[IP];obtain⟨l1,l2,rfl⟩:=qCt hal;have h3:=(qAR.1 h'.1).2.1;have h4:=qBq.1 h3;cases hl2:l2.getLast? with
   | none=>
     have:l2=[]:=List.getLast?_eq_none_iff.1 hl2;subst this;simp
   | some z=>
     have hz:z∈l2:=List.mem_of_getLast? hl2;have e1:=h4.1 z hz;have e2:=h'.2.2 z (by simp[hz]) a (by simp);have:z=a:=by
      rcases K6 z a with k|k|k
      ·exact absurd k e1
      ·exact k
      ·exact absurd k e2
     subst this;rw[List.getLast?_append,List.getLast?_cons];simp[hl2]
  ·exact absurd h1 (h'.2.2 a hal b (by simp))
def SS.filter{l:List Span}(h:SS l)(p:Span->Bool):SS (l.filter p):=List.Pairwise.filter p h
def IsNorm.filter{l r:List Span}(h:IsNorm l r)(p:Span->Bool):IsNorm (l.filter p) (r.filter p):=⟨h.1.filter p,λx=>by simp[h.2 x]⟩
def qd7(l:List Span)(i:Nat)(v:Span):(l.map Cod.enc).set i (.agg [.v (.int .i64 v.b), .v (.int .i64 v.e)])=(l.set i v).map Cod.enc:=by
 rw[qCe];rfl
def Nw{l:List Span}(h:l.length< 2):vR l=l:=by
 match l,h with
 | [],_=>rfl
 | [x],_=>rfl
 |x::y::l,h=>exact absurd h (by simp only[qAD];omega)
def qgW{l:List Span}(h:1<=l.length):vR (l.take 1)=l.take 1:=Nw (by simp;omega)
def Qt{l:List Span}{j:Nat}{x y:Span}(hj:1<=j)(hx:l[j]? =some x)(hy:l[j -1]? =some y):vR (l.take (j+1))=if x=y then vR (l.take j)else vR (l.take j) ++ [x]:=by
 rw[au hx,CL,qor,IP];have:(l.take j).getLast? =some y:=by
  have e:=au hy;rw[Nat.sub_add_cancel hj]at e;rw[e];simp
 rw[this];by_cases h:x=y
 ·subst h;simp
 ·have:¬y=x:=λe=>h e.symm
  simp[h,this]
def re{α:Type}{cur l:List α}{k m:Nat}{x:α}(hk:k<cur.length)(hkm:k<m)(hd:cur.drop m=l.drop m):
 (cur.set k x).take (k+1)=cur.take k++ [x]/\(cur.set k x).drop m=l.drop m:=by
 constructor
 ·rw[qA6];simp[List.take_set_of_le,hk]
 ·rw[List.drop_set_of_lt hkm,hd]
def Lb{α:Type}{a b:List α}{m i:Nat}(h:a.drop m=b.drop m)(hi:m<=i):a[i]? =b[i]?:=by
 have:=congrArg (λl=>l[i -m]?) h;simp only[qAF]at this;rwa [show m+ (i -m)=i by omega]at this
def tV{α:Type}{a b:List α}{m i:Nat}(h:a.drop m=b.drop m)(hi:m<=i):a.drop i=b.drop i:=by
 have:=congrArg (λl=>l.drop (i -m)) h;simp only[List.drop_drop]at this;rwa [show m+ (i -m)=i by omega]at this
def qcY(s:ByteArray)(p:Nat)(h:p<s.size):1<=(Utf8.decode s p).2/\p+ (Utf8.decode s p).2<=s.size:=by
 unfold Utf8.decode;simp only[qzZ,decide_eq_true_eq]
 repeat' split
 all_goals (try simp only[])
 all_goals omega
end Go.Gv
