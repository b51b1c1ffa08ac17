/- T12 -/
import Derived.Test.YtmakafgajmnflaaGreatDoorProg
import Derived.Test.YtmakafgajmnflaaGreatDoorGf09
set_option linter.all false
namespace Go.Gv
section
open Cod (enc dec)
variable {dq:Prop}
structure dN (X:Type) where
 dec:List D->Option X
 view:X->List D
 le:∀ds x,dec ds=some x->LeL ds (view x)
def aJ{X Y:Type}(A:dN X)(pre:X->Prop)(er:Y->D)(post:X->Y->Prop):Spc:=qfH A.dec pre λx r=>∃y,r=er y/\post x y
def eX{X:Type}(o:Option X)(k:X->Prop):Prop:=match o with|some x=>k x|none=>False
@[congr] theorem qub{X:Type}{o a:Option X}{k:X->Prop}(h:o=a):eX o k=eX a k:=by grind
@[simp] theorem qxm{X:Type}(x:X)(k:X->Prop):eX (some x) k=k x:=i' rfl
@[simp] theorem qxn{X:Type}(k:X->Prop):eX none k=False:=i' rfl
@[simp] theorem su{X Y:Type}(A:dN X)(pre:X->Prop)(er:Y->D)(post:X->Y->Prop)(d:Nat)(ds:List D)(H:ab)(K:D->ab->Prop):
 (aJ A pre er post).pt d ds H K=eX (A.dec ds) λx=>pre x/\∀y,post x y->K (er y) H:=by
 refine propext ⟨λh=>?_,λh=>?_⟩
 ·obtain⟨⟨x,h1,h2⟩,h3⟩:=h;rw[h1];refine⟨h2,λy b=>h3 _ λj a _=>?_⟩;rw[h1]at a;cases a;exact⟨y,rfl,b⟩
 ·cases c:A.dec ds with
  |none=>rw[c]at h;exact h.elim
  | some x=>
    rw[c]at h;refine qes x c h.1 ?_;rintro r ⟨y,rfl,b⟩;exact h.2 y b
@[simp] theorem qtH{X Y:Type}(A:dN X)(pre:X->Prop)(er:Y->D)(post:X->Y->Prop)(dst:Option Nat)(ds:List D)(H:ab)(K:D->ab->Prop):
 qcN dst (aJ A pre er post) ds H K=eX (A.dec ds) λx=>pre x/\∀y,post x y->K (er y) H:=su A pre er post 0 ds H K
def Fin{Y:Type}(er:Y->D)(q:Y->Prop)(r:D)(H':ab):Prop:=∃y,FrzTo H' r (er y)/\q y
def bF{Y:Type}{er:Y->D}{q:Y->Prop}{r:D}{H':ab}(y:Y)(h:FrzTo H' r (er y))(a:q y):Fin er q r H':=⟨y,h,a⟩
@[simp] theorem qu8(q:Int->Prop)(n:Int)(H':ab):Fin enc q (.v (.int .i64 n)) H'=q n:=by
 simp[Fin,qk5]
@[simp] theorem qrW(q:Bool->Prop)(n:Bool)(H':ab):Fin enc q (.v (.bool n)) H'=q n:=by
 refine propext ⟨λ⟨y,h1,h2⟩=>?_,λh=>⟨n, .same _,h⟩⟩;rw[qha,qrR]at h1;cases h1;exact h2
@[simp] theorem qu7(q:ByteArray->Prop)(n:ByteArray)(H':ab):Fin enc q (.v (.string n)) H'=q n:=by
 refine propext ⟨λ⟨y,h1,h2⟩=>?_,λh=>⟨n, .same _,h⟩⟩;rw[qk4,qrR]at h1;cases h1;exact h2
def aq{X Y:Type}(cc:CC)(rs:List ak)(S:Nat->Spc)(A:dN X)(pre:X->Prop)(er:Y->D)(post:X->Y->Prop):Prop:=
 ∀x,pre x->vc S cc (tJ rs λr H'=>Fin er (post x) r H') (dt (A.view x)) bV
theorem dc{P:Program}{S:Nat->Spc}{f:Nat}{im:List Nat}{cc:CC}{rs:List ak}{N:Nat}{X Y:Type}{A:dN X}{pre:X->Prop}{er:Y->D}{post:X->Y->Prop}
 (a:∀f,Tri dq P f (S f).pt) (h:xD P f im cc rs N) (b:∀x,(A.view x).length<=N) (c:aq cc rs S A pre er post):Tri dq P f (aJ A pre er post).pt:=
 qey a h A.le b λx hp=>by
  refine yF cc _ _ (λe σ H h=>?_) (c x hp);cases e with
  |ex i=>exact h
  | _=>
    simp only[tJ]at h ⊢;have key:∀(rs:List ak) (F G:List D->Prop),(∀ds,F ds->G ds)->yb rs σ H F->yb rs σ H G:=by
     intro rs
     induction rs with
     |nil=>simp_all
     | cons r rs j=>
       intro F G d h;cases r<;>grind [yb,JE]
    exact key rs _ _ (λds ⟨y,h1,h2⟩=>⟨_,h1,y,rfl,h2⟩) h
def ac{P:Program}{S:Nat->Spc}{f:Nat}{im:List Nat}{cc:CC}{rs:List ak}{N:Nat}{X Y:Type}{A:dN X}{pre:X->Prop}{er:Y->D}{post:X->Y->Prop}
 (a:∀f,Tri dq P f (S f).pt) (h:xD P f im cc rs N) (b:aq cc rs S A pre er post) (c:∀x,(A.view x).length<=N:=by exactλ_=>qCh rfl):Tri dq P f (aJ A pre er post).pt:=dc a h c b
def fT {P : Program} {f : Nat} {fn : Func} {c : Code} (h : P.funcs[f]? = some fn) (hn : (fn.name == "runtime.NumGoroutine") = false) (hb : fn.body = some c) : dj P f := by
 intro args w
 have hn' : ¬ fn.name = "runtime.NumGoroutine" := by grind
 simp_all [callFunc]
def qmh{P:Program}{f:Nat}{im:List Nat}{cc:CC}{rs:List ak}{N:Nat}(vX:P.follows .mixedOrders=true)
 (h : ((P.funcs[f]?).bind fun g => if g.name == "runtime.NumGoroutine" then none else g.body.bind fun c => (ay P im g.ntmps c).bind fun cc => (g.results.toList.mapM (fy P)).bind fun rs => some (g.ntmps, cc, rs)) = some (N, bH cc, rs)) : xD P f im cc rs N := by
 cases hf:P.funcs[f]? with
 |none=>grind
 | some fn=>
   rw[hf]at h;simp only[qCy]at h;split at h;grind
   ·rename_i hn;simp only[qCc,qCq,Prod.mk.injEq]at h;obtain⟨c,hb,q,hq,r,hr,rfl,rfl,rfl⟩:=h;exact⟨vX,fT hf (by grind) hb,fn,c,hf,hb,rfl,hq,hr⟩
def a0:dN Unit:=⟨qoJ,λ_=>[],qBP⟩
def a1(X:Type)[Cod X]:dN X:=⟨qoI,λx=>[enc x],qBO⟩
def a2(X Y:Type)[Cod X][Cod Y]:dN (X×Y):=⟨qoH,λx=>[enc x.1,enc x.2],qBN⟩
def a3(X Y Z:Type)[Cod X][Cod Y][Cod Z]:dN (X×Y×Z):=⟨qoG,λx=>[enc x.1,enc x.2.1,enc x.2.2],qBM⟩
def a4(X Y Z W:Type)[Cod X][Cod Y][Cod Z][Cod W]:dN (X×Y×Z×W):=⟨qoF,λx=>[enc x.1,enc x.2.1,enc x.2.2.1,enc x.2.2.2],qBL⟩
def aT{X:Type}(A:dN X):dN (List Int×X):=⟨λds=>match ds with| .tape L::r=>(A.dec r).map λx=>(L,x)|_=>none,λx=> .tape x.1::A.view x.2,λds x h=>by
 split at h
 ·simp only[qCn]at h;obtain⟨y,a,rfl⟩:=h;exact .cons (.same _) (A.le _ _ a)
 grind⟩
@[simp] theorem qzX:a0.dec []=some ():=i' rfl
@[simp] theorem qo7{X:Type}[Cod X](a:D):(a1 X).dec [a]=dec a:=i' rfl
@[simp] theorem qih{X Y:Type}[Cod X][Cod Y](a b:D):(a2 X Y).dec [a,b]=(dec a).bind λx=>(dec b).bind λy=>some (x,y):=i' rfl
@[simp] theorem qzW{X Y Z:Type}[Cod X][Cod Y][Cod Z](a b c:D):(a3 X Y Z).dec [a,b,c]=(dec a).bind λx=>(dec b).bind λy=>(dec c).bind λz=>some (x,y,z):=i' rfl
@[simp] theorem qzV{X Y Z W:Type}[Cod X][Cod Y][Cod Z][Cod W](a b c d:D):(a4 X Y Z W).dec [a,b,c,d]=(dec a).bind λx=>(dec b).bind λy=>(dec c).bind λz=>(dec d).bind λw=>some (x,y,z,w):=i' rfl
@[simp] theorem qzT{X:Type}(A:dN X)(L:List Int)(r:List D):(aT A).dec (.tape L::r)=(A.dec r).map λx=>(L,x):=i' rfl
@[simp] theorem qwt(x:Unit):a0.view x=[]:=i' rfl
@[simp] theorem qws{X:Type}[Cod X](x:X):(a1 X).view x=[enc x]:=i' rfl
@[simp] theorem qwr{X Y:Type}[Cod X][Cod Y](x:X)(y:Y):(a2 X Y).view (x,y)=[enc x,enc y]:=i' rfl
@[simp] theorem qwq{X Y Z:Type}[Cod X][Cod Y][Cod Z](x:X)(y:Y)(z:Z):(a3 X Y Z).view (x,y,z)=[enc x,enc y,enc z]:=i' rfl
@[simp] theorem qwp{X Y Z W:Type}[Cod X][Cod Y][Cod Z][Cod W](x:X)(y:Y)(z:Z)(w:W):(a4 X Y Z W).view (x,y,z,w)=[enc x,enc y,enc z,enc w]:=i' rfl
@[simp] theorem qwk{X:Type}(A:dN X)(L:List Int)(x:X):(aT A).view (L,x)= .tape L::A.view x:=i' rfl
attribute [simp] Cod.dec_enc
@[simp] theorem qyZ(n:Int):dec (X:=Int) (.v (.int .i64 n))=some n:=i' rfl
@[simp] theorem qvH(n:Bool):dec (X:=Bool) (.v (.bool n))=some n:=i' rfl
@[simp] theorem qyX(n:ByteArray):dec (X:=ByteArray) (.v (.string n))=some n:=i' rfl
@[simp] theorem qyY{X:Type}[Cod X]:dec (X:=List X) (.v (.slice none 0 0))=some []:=i' rfl
@[simp] theorem qvG{X:Type}[Cod X](n:Nat)(es:List D):dec (X:=List X) (.list n es)=if n=Cod.wd X then es.mapM (dec (X:=X))else none:=i' rfl
attribute [simp] GE
@[simp] theorem qpM{X:Type}[Cod X](l:List X):l.mapM (dec (X:=X) ∘enc)=some l:=by
 have:=GE l;rwa [List.mapM_map]at this
def qR{Y Z:Type}[Cod Y][Cod Z](p:Y×Z):D:= .tup [enc p.1,enc p.2]
def qmj{Y Z W:Type}[Cod Y][Cod Z][Cod W](p:Y×Z×W):D:= .tup [enc p.1,enc p.2.1,enc p.2.2]
def Ti(_:Unit):D:= .tup []
@[simp] theorem qr8{Y Z:Type}[Cod Y][Cod Z](y:Y)(z:Z):qR (y,z)= .tup [enc y,enc z]:=i' rfl
@[simp] theorem qA0{Y Z W:Type}[Cod Y][Cod Z][Cod W](y:Y)(z:Z)(w:W):qmj (y,z,w)= .tup [enc y,enc z,enc w]:=i' rfl
@[simp] theorem qva{Y Z:Type}[Cod Y][Cod Z](q:Y×Z->Prop)(a b:D)(H':ab):Fin qR q (.tup [a,b]) H'=∃y z,FrzTo H' a (enc y)/\FrzTo H' b (enc z)/\q (y,z):=by
 refine propext ⟨λ⟨⟨y,z⟩,h1,h2⟩=>?_,λ⟨y,z,h1,h2,h3⟩=>⟨(y,z),qkO h1 h2,h3⟩⟩;cases h1 with
 |same=>exact⟨y,z, .same _, .same _,h2⟩
 |tup hl h=>exact⟨y,z,h 0 _ _ rfl rfl,h 1 _ _ rfl rfl,h2⟩
@[simp] theorem qu9{Y Z W:Type}[Cod Y][Cod Z][Cod W](q:Y×Z×W->Prop)(a b c:D)(H':ab):Fin qmj q (.tup [a,b,c]) H'=∃y z w,FrzTo H' a (enc y)/\FrzTo H' b (enc z)/\FrzTo H' c (enc w)/\q (y,z,w):=by
 refine propext ⟨λ⟨⟨y,z,w⟩,h1,h2⟩=>?_,λ⟨y,z,w,h1,h2,h3,h4⟩=>⟨(y,z,w),qkN h1 h2 h3,h4⟩⟩;cases h1 with
 |same=>exact⟨y,z,w, .same _, .same _, .same _,h2⟩
 |tup hl h=>exact⟨y,z,w,h 0 _ _ rfl rfl,h 1 _ _ rfl rfl,h 2 _ _ rfl rfl,h2⟩
@[simp] theorem qA1(u:Unit):Ti u= .tup []:=i' rfl
def ss:List (Nat×D)->Sg->Sg
 | [],σ=>σ
 |(t,d)::l,σ=>upd (ss l σ) t d
def gD:List (Nat×Res)->ab->ab
 | [],H=>H
 |(i,r)::l,H=>ai (gD l H) i (some r)
def ZL(σ:Sg):ss [] σ=σ:=i' rfl
@[simp] theorem qo6(H:ab):gD [] H=H:=i' rfl
@[simp] theorem qzR(i:Nat)(r:Res)(l:List (Nat×Res))(H:ab):gD ((i,r)::l) H=ai (gD l H) i (some r):=i' rfl
def wo(ks:List Nat)(σ a:Sg):Prop:=∀t∈ks,a t=σ t
def AD(hk:List Nat)(H H':ab):Prop:=∀i∈hk,H' i=H i
@[simp] theorem qx7(σ a:Sg):wo [] σ a=True:=by simp[wo]
@[simp] theorem qx8(t:Nat)(ks:List Nat)(σ a:Sg):wo (t::ks) σ a=(a t=σ t/\wo ks σ a):=by simp[wo]
@[simp] theorem quJ(σ a:ab):AD [] σ a=True:=by simp[AD]
@[simp] theorem quK(t:Nat)(ks:List Nat)(σ a:ab):AD (t::ks) σ a=(a t=σ t/\AD ks σ a):=by simp[AD]
def Ne(ks:List Nat)(σ:Sg)(t:Nat):ja ks σ t=if t∈ks then σ t else .any:=by
 induction ks with
 |nil=>rfl
 | cons s ks a=>
   rw[qn6];grind [upd]
theorem Nf(ks:List Nat)(σ:ab)(t:Nat):jc ks σ t=if t∈ks then σ t else none:=by
 induction ks with
 |nil=>simp
 | cons s ks a=>
   rw[qkx];grind [ai]
def qlL{σ b:Sg}{H H':ab}(h1:∀t,TN (σ t) (b t))(h2:∀i r,H' i=some r->H i=some r\/isNilRow r):Wk σ H b H':=by
 intro E a w c;obtain⟨d,h,tp,j,k⟩:=c;have hm:=j.sub h2;exact⟨d,h,tp,hm.1,λt=>qms (h1 t) (hm.2 _ _ (k t))⟩
theorem UR(d:D):TN d d:=by simp
theorem Fb{a σ:Sg}{c H:ab}{ks hk:List Nat}{b:List (Nat×D)}{hp:List (Nat×Res)}(h1:ny b σ)(h2:wo ks a σ)(h3:tj hp H)(h4:AD hk c H):
 Wk σ H (ss b (ja ks a)) (gD hp (jc hk c)):=by
 refine qlL (λt=>?_) (λi r=>?_)
 ·induction b with
  | nil=>
    rw[ZL,Ne];split
    ·rename_i h;rw[<-h2 t h];simp
    simp
  | cons p b j=>
    obtain⟨s,d⟩:=p;simp only[ss,upd];grind [ny]
 ·induction hp with
  | nil=>
    rw[qo6,Nf];grind [AD]
  | cons p hp j=>
    obtain⟨s,d⟩:=p;simp only[gD,ai];grind [tj]
def Pz(a:Sg)(b:ab)(ks hk:List Nat)(c:List (Nat×D))(hp:List (Nat×Res))(σ:Sg)(H:ab):Prop:=ny c σ/\wo ks a σ/\tj hp H/\AD hk b H
@[simp] theorem qwc(a:Sg)(b:ab)(ks hk:List Nat)(c:List (Nat×D))(hp:List (Nat×Res))(σ:Sg)(H:ab):Pz a b ks hk c hp σ H=(ny c σ/\wo ks a σ/\tj hp H/\AD hk b H):=i' rfl
def qcb{X:Type}(P:X->Prop)(B:X->Sg->ab->Prop)(m:X->Nat)(x:X)(K:Ex->Sg->ab->Prop):Ex->Sg->ab->Prop:=λe a H'=>match e with
 | .norm=>∃y,P y/\B y a H'/\m y<m x
 |e=>K e a H'
@[simp ↓] theorem qwC{X:Type}(P:X->Prop)(B:X->Sg->ab->Prop)(m:X->Nat)(x:X)(K:Ex->Sg->ab->Prop)(a:Sg)(H':ab):qcb P B m x K .norm a H'=∃y,P y/\B y a H'/\m y<m x:=i' rfl
@[simp ↓] theorem qwA{X:Type}(P:X->Prop)(B:X->Sg->ab->Prop)(m:X->Nat)(x:X)(K:Ex->Sg->ab->Prop)(i:Nat)(a:Sg)(H':ab):qcb P B m x K (.ex i) a H'=K (.ex i) a H':=i' rfl
@[simp ↓] theorem qwB{X:Type}(P:X->Prop)(B:X->Sg->ab->Prop)(m:X->Nat)(x:X)(K:Ex->Sg->ab->Prop)(a:Sg)(H':ab):qcb P B m x K .ret a H'=K .ret a H':=i' rfl
section
variable {S:Nat->Spc}{K:Ex->Sg->ab->Prop}{σ:Sg}{H:ab}
def ms{X:Type}(ks hk:List Nat)(P:X->Prop)(a:X->List (Nat×D))(hp:X->List (Nat×Res))(m:X->Nat)(c:X){k:Nat}{b:CC}(h0:P c)(hs:ny (a c) σ)(hh:tj (hp c) H)
 (d:∀x,P x->vc S b (qcb P (λy=>Pz σ H ks hk (a y) (hp y)) m x K) (ss (a x) (ja ks σ)) (gD (hp x) (jc hk H))):vc S (.loop k b) K σ H:=by
 rw[To];refine⟨⟨X,P,λx=>ss (a x) (ja ks σ),λx=>gD (hp x) (jc hk H),m⟩,⟨c,h0,Fb hs (λ_ _=>rfl) hh (λ_ _=>rfl)⟩,λx j=>yF b _ _ (λe l H' h=>?_) (d x j)⟩;cases e with
 | norm=>
   obtain⟨y,h1,h2,h3⟩:=h;exact⟨y,h1,Fb h2.1 h2.2.1 h2.2.2.1 h2.2.2.2,h3⟩
 |ex i=>exact h
 |ret=>exact h
def aA{X:Type}(ks hk:List Nat)(P:X->Prop)(a:X->List (Nat×D))(hp:X->List (Nat×Res))(m:X->Nat)(c:X){k:Nat}{b:CC}(h0:P c)
 (d:∀x,P x->vc S b (qcb P (λy=>Pz σ H ks hk (a y) (hp y)) m x K) (ss (a x) (ja ks σ)) (gD (hp x) (jc hk H))) (hs:ny (a c) σ:=by simp) (hh:tj (hp c) H:=by simp):vc S (.loop k b) K σ H:=
 ms ks hk P a hp m c h0 hs hh d
def V9(Q:Sg->ab->Prop)(K:Ex->Sg->ab->Prop):Ex->Sg->ab->Prop:=λe a H'=>match e with
 | .norm=>Q a H'
 |e=>K e a H'
@[simp ↓] theorem qxP(Q:Sg->ab->Prop)(a:Sg)(H':ab):V9 Q K .norm a H'=Q a H':=i' rfl
@[simp ↓] theorem qxN(Q:Sg->ab->Prop)(i:Nat)(a:Sg)(H':ab):V9 Q K (.ex i) a H'=K (.ex i) a H':=i' rfl
@[simp ↓] theorem qxO(Q:Sg->ab->Prop)(a:Sg)(H':ab):V9 Q K .ret a H'=K .ret a H':=i' rfl
def OU(k:Nat)(a b:CC):CC:= .seq a (.cut k b)
def bc{X:Type}(ks hk:List Nat)(P:X->Prop)(d:X->List (Nat×D))(hp:X->List (Nat×Res)){k:Nat}{a b:CC}
 (j:vc S a (V9 (λc H'=>∃x,P x/\Pz σ H ks hk (d x) (hp x) c H') K) σ H)
 (hb:∀x,P x->vc S b K (ss (d x) (ja ks σ)) (gD (hp x) (jc hk H))):vc S (OU k a b) K σ H:=by
 unfold OU;rw[WY];refine yF a _ _ (λe c H' h=>?_) j;cases e with
 | norm=>
   obtain⟨x,h1,h2⟩:=h;grind [Pz,Tn,qhf,Fb]
 |ex i=>exact h
 |ret=>exact h
def gH(id i n c a:Nat)(body:CC)(b:Nat):CC:=
 .block id (.loop 0 (.seq (.reg [.op (some c) none (.cmp .lss (.tmp i) (.tmp n))]) (.seq (.ite (.tmp c) .skip (.exit id)) (.seq (.block a (.cut 0 body)) (.reg [.op (some b) none (.arith .add (.tmp i) (.const (.int .i64 1))), .op (some i) none (.mv (.tmp b))])))))
def qjQ{X:Type}(id b i n:Nat)(len:Nat)(B:X->Sg->ab->Prop)(P:X->Prop)(k:Nat)(K:Ex->Sg->ab->Prop):Ex->Sg->ab->Prop:=λe a H'=>match e with
 | .norm=>a i= .v (.int .i64 k)/\a n= .v (.int .i64 len)/\∃y,P y/\B y a H'
 | .ex j=>if j=b then a i= .v (.int .i64 k)/\a n= .v (.int .i64 len)/\∃y,P y/\B y a H' else if j=id then K .norm a H' else K (.ex j) a H'
 | .ret=>K .ret a H'
@[simp ↓] theorem qw6{X:Type}(id b i n:Nat)(len:Nat)(B:X->Sg->ab->Prop)(P:X->Prop)(k:Nat)(a:Sg)(H':ab):qjQ id b i n len B P k K .norm a H'=(a i= .v (.int .i64 k)/\a n= .v (.int .i64 len)/\∃y,P y/\B y a H'):=i' rfl
@[simp ↓] theorem qw5{X:Type}(id b i n:Nat)(len:Nat)(B:X->Sg->ab->Prop)(P:X->Prop)(k:Nat)(a:Sg)(H':ab):qjQ id b i n len B P k K .ret a H'=K .ret a H':=i' rfl
def Ew{t:Nat}{d:D} :∀{a:List (Nat×D)} {σ:Sg},(∀p∈a,p.1≠t)->ny a σ->ny a (upd σ t d)
 | [],_,_,_=>trivial
 | (s,e)::a,σ,h,hm=>by
  refine⟨?_,Ew (λp hp=>h p (by grind)) hm.2⟩;simp_all [upd]
def Qq{t:Nat}{d:D}{ks:List Nat}{a σ:Sg}(h:t∉ks)(hk:wo ks a σ):wo ks a (upd σ t d):=λs hs=>by
 have:s≠t:=λe=>h (e ▸hs)
 simp only[upd,this,if_false];exact hk s hs
theorem A4{X:Type}(ks hk:List Nat)(len:Nat)(P:Nat->X->Prop)(q:X->List (Nat×D))(hp:X->List (Nat×Res))(w:X){id i n c u b:Nat}{body:CC}
 (hi:σ i= .v (.int .i64 0)) (hn:σ n= .v (.int .i64 len)) (hlen:(len:Int)<=9223372036854775807) (hd:([i,n,c,b] ++ks).Nodup) (J:∀x,∀p∈q x,p.1∉ [i,n,c,b])
 (h0:P 0 w) (hs:ny (q w) σ) (hh:tj (hp w) H)
 (Y:∀k x,k<len->P k x->vc S body (qjQ id u i n len (λy=>Pz σ H ks hk (q y) (hp y)) (P (k+1)) k K) (ss ((i, .v (.int .i64 k))::(n, .v (.int .i64 len))::q x) (ja ks σ)) (gD (hp x) (jc hk H)))
 (he:∀x,P len x->K .norm (upd (ss ((i, .v (.int .i64 len))::(n, .v (.int .i64 len))::q x) (ja ks σ)) c (.v (.bool false))) (gD (hp x) (jc hk H))):vc S (gH id i n c u body b) K σ H:=by
 have ne:i≠n/\i≠c/\i≠b/\n≠c/\n≠b/\c≠b/\i∉ks/\n∉ks/\c∉ks/\b∉ks:=by
  grind
 obtain⟨Q,Z,n3,n4,n5,n6,m1,m2,m3,m4⟩:=ne;have L:∀x t,t∈ [i,n,c,b]->∀p∈q x,p.1≠t:=λx t ht p hp e=>J x p hp (e ▸ht)
 let st:Nat×X->Sg:=λx=>ss ((i, .v (.int .i64 x.1))::(n, .v (.int .i64 len))::q x.2) (ja ks σ)
 let A:Nat×X->ab:=λx=>gD (hp x.2) (jc hk H)
 have r:∀(k:Nat) (y:X) (a:Sg) (H':ab),a i= .v (.int .i64 k)->a n= .v (.int .i64 len)->Pz σ H ks hk (q y) (hp y) a H'->Wk a H' (st (k,y)) (A (k,y)):=by
  intro k y a H' I U ⟨b1,b2,b3,b4⟩;grind [ny,Fb,UR]
 unfold gH;rw[Tp,To];refine⟨⟨Nat×X,λx=>x.1<=len/\P x.1 x.2,st,A,λx=>len -x.1⟩,⟨(0,w),⟨qCC _,h0⟩,r 0 w σ H hi hn ⟨hs,λ_ _=>rfl,hh,λ_ _=>rfl⟩⟩,?_⟩;rintro⟨k,x⟩ ⟨M,W⟩;have si:st (k,x) i= .v (.int .i64 k):=by simp[st,ss,upd]
 have sN:st (k,x) n= .v (.int .i64 len):=by
  have:¬n=i:=λe=>Q e.symm
  simp[st,ss,upd,this]
 let C:qpj:=⟨Nat×X,λx=>x.1<=len/\P x.1 x.2,st,A,λx=>len -x.1⟩
 change vc S _ (qc9 C (k,x) (qdU id K)) (st (k,x)) (A (k,x));rw[WY,qmk,qn4,qsC];simp only[qer,si,sN,qoO,true_and,qhL,qoP];rw[qme,Tn,WY,qsf];have sc:ev (fG (st (k,x)) (some c) (.v (.bool (decide ((k:Int)<len))))) (.tmp c)= .v (.bool (decide ((k:Int)<len))):=by simp[upd]
 rw[sc,qov];refine⟨λN=>?_,λO=>?_⟩
 ·have E:k < len:=by simpa using N
  rw[qor,Tn,WY,Tp,qhf];refine⟨st (k,x),A (k,x),qlL (λt=>?_) (λ_ _ h=> .inl h),?_⟩
  ·rw[Yo,qqC];split
   ·rename_i e;subst e;have I:st (k,x) t= .any:=by
     have hsl:∀(l:List (Nat×D)),(∀p∈l,p.1≠t)->ss l (ja ks σ) t= .any:=by
      intro l
      induction l with
      |nil=>intro _;rw[ZL,Ne,if_neg m3]
      | cons p l ih=>
        obtain⟨s,d⟩:=p;intro h;have:¬t=s:=λe=>h (s,d) (by simp) e.symm
        simp only[ss,upd,this,if_false];exact ih λp hp=>h p (by simp[hp])
     have h1:¬t=i:=λe=>Z e.symm
     have h2:¬t=n:=λe=>n4 e.symm
     simp only[st,ss,upd,h1,h2,if_false];exact hsl _ (L x t (by simp))
    rw[I];exact trivial
   ·exact UR _
  ·refine yF body _ _ (λe a H' h=>?_) (Y k x E W);have vM:∀a H',(a i= .v (.int .i64 k)/\a n= .v (.int .i64 len)/\∃y,P (k+1) y/\Pz σ H ks hk (q y) (hp y) a H')->
    U7 S (.reg [.op (some b) none (.arith .add (.tmp i) (.const (.int .i64 1))), .op (some i) none (.mv (.tmp b))]) (qc9 C (k,x) (qdU id K)) .norm a H':=by
    intro a H' ⟨I,U,y,hy,hb⟩;rw[Tn,qmk,qn4,qll];simp only[qer,qjw,qqz,I,qh7,qkz,true_and,qdX,InR];refine⟨by omega,?_⟩;rw[qn4,qzg];dsimp only;rw[qme];simp only[qer,Yo];rw[qou];refine⟨(k+1,y),⟨by show k+1<=len;omega,hy⟩,r (k+1) y _ _ ?_ ?_ ?_,by show len - (k+1)<len -k;omega⟩
    ·simp[upd]
    ·have h1:¬n=i:=λe=>Q e.symm
     simp[upd,h1,n5,U]
    ·exact⟨Ew (L y i (by simp)) (Ew (L y b (by simp)) hb.1),Qq m1 (Qq m4 hb.2.1),hb.2.2.1,hb.2.2.2⟩
   cases e with
   |norm=>rw[qox];exact vM a H' h
   | ret=>
     rw[qhg,qos,qot,qhg];exact h
   | ex j=>
     rw[Zy];have h:if j=u then a i= .v (.int .i64 k)/\a n= .v (.int .i64 len)/\∃y,P (k+1) y/\Pz σ H ks hk (q y) (hp y) a H' else if j=id then K .norm a H' else K (.ex j) a H':=h
     split
     ·rename_i e;rw[if_pos e]at h;exact vM a H' h
     ·rename_i e;rw[if_neg e]at h;rw[qhd,qhe,Zy];exact h
 ·have F:k=len:=by
   have:¬((k:Int)<len):=by simpa using O
   have:k<=len:=M;omega
  subst F;rw[qow,qhd,qhe,Zy,if_pos rfl];have:decide ((k:Int)<k)=false:=by simp
  rw[this];exact he x W
theorem ah{X:Type}(ks hk:List Nat)(len:Nat)(P:Nat->X->Prop)(a:X->List (Nat×D))(hp:X->List (Nat×Res))(d:X){id i n c b h:Nat}{body:CC}
 (h0:P 0 d)
 (l:∀k x,k<len->P k x->vc S body (qjQ id b i n len (λy=>Pz σ H ks hk (a y) (hp y)) (P (k+1)) k K) (ss ((i, .v (.int .i64 k))::(n, .v (.int .i64 len))::a x) (ja ks σ)) (gD (hp x) (jc hk H)))
 (he:∀x,P len x->K .norm (upd (ss ((i, .v (.int .i64 len))::(n, .v (.int .i64 len))::a x) (ja ks σ)) c (.v (.bool false))) (gD (hp x) (jc hk H))) (hi:σ i= .v (.int .i64 0):=by simp) (hn:σ n= .v (.int .i64 len):=by simp) (hlen:(len:Int)<=9223372036854775807:=by omega) (q:([i,n,c,h] ++ks).Nodup:=by simp) (j:∀x,∀p∈a x,p.1∉ [i,n,c,h]:=by simp) (hs:ny (a d) σ:=by simp) (hh:tj (hp d) H:=by simp):vc S (gH id i n c b body h) K σ H:=
 A4 ks hk len P a hp d hi hn hlen q j h0 hs hh l he
end
end
section
open Cod (enc dec)
theorem bi{X:Type}[Cod X]{x y:X}(h:enc x=enc y):x=y:=by
 have:=congrArg (dec (X:=X)) h;simpa using this
@[simp] theorem qyM{X:Type}[Cod X](l l':List X):(l.map enc=l'.map enc)=(l=l'):=by
 refine propext ⟨λh=>?_,λh=>h ▸rfl⟩
 induction l generalizing l' with
 | nil=>cases l' with
   |nil=>rfl
   |cons y l'=>simp at h
 | cons x l a=>cases l' with
   |nil=>simp at h
   | cons y l'=>
     simp only[qCW,qCL]at h;rw[bi h.1,a _ h.2]
def jL{X:Type}[Cod X](l:List X)(i:Nat)(x:X):(l.map enc).set i (enc x)=(l.set i x).map enc:=by
 rw[qEg]
def TH{X:Type}[Cod X](l:List X)(x:X):l.map enc++ [enc x]=(l++ [x]).map enc:=by simp
def gp{X:Type}[Cod X]{H:ab}{id n:Nat}{v:Value}{l:List X}(el:Nat)(h:H id=some (.row v el n (l.map enc)))(hn:n=Cod.wd X:=by rfl):FrzTo H (.own id v) (.list n (l.map enc)):=by
 subst hn;exact qdA h
inductive Ky where
 |e
 |o (k:Ky)
 |i (k:Ky)
deriving DecidableEq
inductive Tr where
 |nil
 |nd (d:D) (l r:Tr)
def Tr.get:Tr->Ky->D
 | .nil,_=> .any
 | .nd d _ _, .e=>d
 | .nd _ l _, .o k=>l.get k
 | .nd _ _ r, .i k=>r.get k
def Tr.set:Tr->Ky->D->Tr
 | .nil, .e,x=> .nd x .nil .nil
 | .nil, .o k,x=> .nd .any (Tr.set .nil k x) .nil
 | .nil, .i k,x=> .nd .any .nil (Tr.set .nil k x)
 | .nd _ l r, .e,x=> .nd x l r
 | .nd d l r, .o k,x=> .nd d (l.set k x) r
 | .nd d l r, .i k,x=> .nd d l (r.set k x)
noncomputable def Tr.frz(id:Nat)(x:Value)(L:D):Tr->Tr
 | .nil=> .nil
 | .nd d l r=> .nd (KG id x L d) (l.frz id x L) (r.frz id x L)
def qpP:Nat->Nat->Ky
 | 0,_=> .e
 |f+1,n=>if n=0 then .e else if(n -1) % 2=0 then .o (qpP f ((n -1) /2))else .i (qpP f ((n -1) /2))
def ky(n:Nat):Ky:=qpP n n
def Ky.val:Ky->Nat
 | .e=>0
 | .o k=>2*k.val+1
 | .i k=>2*k.val+2
def Ll:∀(f n:Nat),n<=f->(qpP f n).val=n
 | 0,n,h=>by
   have:n=0:=by omega
   subst this;rfl
 | f+1,n,h=>by
   unfold qpP;split
   ·rename_i e;subst e;rfl
   ·split
    ·simp only[Ky.val];rw[Ll f _ (by omega)];omega
    ·simp only[Ky.val];rw[Ll f _ (by omega)];omega
def qgp{m n:Nat}(h:ky m=ky n):m=n:=by
 have h1:=Ll m m (qCj _);have h2:=Ll n n (qCj _);unfold ky at h;rw[h]at h1;exact h1.symm.trans h2
def get_set:∀(T:Tr) (k j:Ky) (x:D),(T.set k x).get j=if j=k then x else T.get j
 | .nil, .e,j,x=>by cases j<;>simp[Tr.set,Tr.get]
 | .nil, .o k,j,x=>by
   have a:=λj=>get_set .nil k j x
   cases j<;>simp[Tr.set,Tr.get,a]
 | .nil, .i k,j,x=>by
   have a:=λj=>get_set .nil k j x
   cases j<;>simp[Tr.set,Tr.get,a]
 | .nd d l r, .e,j,x=>by cases j<;>simp[Tr.set,Tr.get]
 | .nd d l r, .o k,j,x=>by
   have a:=λj=>get_set l k j x
   cases j<;>simp[Tr.set,Tr.get,a]
 | .nd d l r, .i k,j,x=>by
   have a:=λj=>get_set r k j x
   cases j<;>simp[Tr.set,Tr.get,a]
def KF(T:Tr):Sg:=λt=>T.get (ky t)
@[simp] theorem quY(T:Tr)(t:Nat):KF T t=T.get (ky t):=i' rfl
@[simp] theorem qqA(T:Tr)(t:Nat)(d:D):upd (KF T) t d=KF (T.set (ky t) d):=by
 funext s;simp only[upd,KF,get_set];by_cases h:s=t
 ·simp[h]
 ·have:¬ky s=ky t:=λe=>h (qgp e)
  simp[h,this]
def qgJ:KF .nil=λ_=> .any:=by
 funext t;simp[KF,Tr.get]
@[simp] theorem qn7(a:Sg):ja [] a=KF .nil:=by rw[qgJ];rfl
@[simp] theorem qky(t:Nat)(l:List Nat)(a:Sg):ja (t::l) a=upd (ja l a) t (a t):=i' rfl
@[simp] theorem qzS(a:Sg):ss [] a=a:=i' rfl
@[simp] theorem qwl(t:Nat)(d:D)(l:List (Nat×D))(a:Sg):ss ((t,d)::l) a=upd (ss l a) t d:=i' rfl
def JQ:Nat->List D->Tr
 | _, []=> .nil
 |n,d::l=>(JQ (n+1) l).set (ky n) d
@[simp] theorem qpR(n:Nat):JQ n []= .nil:=i' rfl
@[simp] theorem qob(n:Nat)(d:D)(l:List D):JQ n (d::l)=(JQ (n+1) l).set (ky n) d:=i' rfl
def Qr:∀(l:List D) (n t:Nat),(JQ n l).get (ky t)=if n<=t then(l[t -n]?).getD .any else .any
 | [],n,t=>by simp[JQ,Tr.get]
 | d::l,n,t=>by
   rw[JQ,get_set,Qr l (n+1) t];by_cases h:t=n
   ·subst h;simp
   ·have:¬ky t=ky n:=λe=>h (qgp e)
    rw[if_neg this];by_cases h2:n+1<=t
    ·have h3:n<=t:=by omega
     rw[if_pos h2,if_pos h3];have:t -n=(t - (n+1)) +1:=by omega
     rw[this];simp
    ·have h3:¬n<=t:=by omega
     rw[if_neg h2,if_neg h3]
@[simp] theorem qyj(l:List D):dt l=KF (JQ 0 l):=by
 funext t;simp[dt,KF,Qr]
@[simp] theorem qAT(id:Nat)(x:Value)(L:D)(T:Tr):qdC id x L (KF T)=KF (T.frz id x L):=by
 funext t;simp only[qdC,KF];generalize ky t=k
 induction T generalizing k with
 |nil=>simp[Tr.frz,Tr.get,KG]
 | nd d l r a b=>
   cases k with
   |e=>rfl
   |o k=>exact a k
   |i k=>exact b k
@[simp] theorem qrU(id:Nat)(x:Value)(L:D):Tr.nil.frz id x L= .nil:=i' rfl
@[simp] theorem qu2(id:Nat)(x:Value)(L d:D)(l r:Tr):(Tr.nd d l r).frz id x L= .nd (KG id x L d) (l.frz id x L) (r.frz id x L):=i' rfl
@[simp] theorem qBA(k:Ky):Tr.nil.get k= .any:=by simp[Tr.get]
@[simp] theorem qBC(d:D)(l r:Tr):(Tr.nd d l r).get .e=d:=i' rfl
@[simp] theorem qBz(d:D)(l r:Tr)(k:Ky):(Tr.nd d l r).get (.o k)=l.get k:=i' rfl
@[simp] theorem qBB(d:D)(l r:Tr)(k:Ky):(Tr.nd d l r).get (.i k)=r.get k:=i' rfl
@[simp] theorem qAb(x:D):Tr.nil.set .e x= .nd x .nil .nil:=i' rfl
@[simp] theorem qz9(k:Ky)(x:D):Tr.nil.set (.o k) x= .nd .any (Tr.set .nil k x) .nil:=i' rfl
@[simp] theorem qAa(k:Ky)(x:D):Tr.nil.set (.i k) x= .nd .any .nil (Tr.set .nil k x):=i' rfl
@[simp] theorem qBy(d:D)(l r:Tr)(x:D):(Tr.nd d l r).set .e x= .nd x l r:=i' rfl
@[simp] theorem qBw(d:D)(l r:Tr)(k:Ky)(x:D):(Tr.nd d l r).set (.o k) x= .nd d (l.set k x) r:=i' rfl
@[simp] theorem qBx(d:D)(l r:Tr)(k:Ky)(x:D):(Tr.nd d l r).set (.i k) x= .nd d l (r.set k x):=i' rfl
inductive KL where
 |n
 |c (a:Nat) (k:Ky) (l:KL)
def qx0:Nat->Nat->KL
 | 0,_=> .n
 |n+1,a=> .c a (qpP a a) (qx0 n (a+1))
def quG:KL->Prop
 | .n=>True
 | .c a k l=>ky a=k/\quG l
def qxZ(n:Nat):∀a,quG (qx0 n a):=by induction n<;>simp_all [qx0,quG,ky]
set_option maxRecDepth 100000 in
@[simp] def qBS:=Eq.mp (by conv=>lhs;(conv=>arg 1;reduce);simp only[quG]) (qxZ 420 0)
@[simp] theorem qus(H:ab)(i:Nat):bL [] H i=H i:=i' rfl
@[simp] theorem qrF(t i:Nat):EB (some t) i=(Pi i=Pi t):=i' rfl
@[simp] theorem qrG(i:Nat):EB none i=False:=i' rfl
@[simp] theorem qyn{i:Nat}(h:i< 990):Pi i=i:=by unfold Pi;rw[if_neg (by omega)]
@[simp] theorem quX{i:Nat}(h:990<=i)(a:i< 1000):Pi i=0:=by unfold Pi;rw[if_pos ⟨h,a⟩]
@[simp] theorem quu(d:Option Nat)(g:Option (Nat×Bool))(c:COp)(l:List CI)(H:ab)(i:Nat):bL (.op d g c::l) H i=if EB (CI.op d g c).wid i then none else bL l H i:=i' rfl
@[simp] theorem qut(a b:Nat)(l:List CI)(H:ab)(i:Nat):bL (.frz a b::l) H i=H i:=i' rfl
@[simp] theorem qwy(a:Option Nat)(b:Option (Nat×Bool))(x:Operand):(CI.op a b (.mv x)).wid=a:=i' rfl
@[simp] theorem qqq(a:Option Nat)(b:Option (Nat×Bool))(c:Operand)(x:Operand)(y:Operand):(CI.op a b (.pick c x y)).wid=a:=i' rfl
@[simp] theorem qpu(a:Option Nat)(b:Option (Nat×Bool))(el:Nat)(z:List Value):(CI.op a b (.alloc el z)).wid=a:=i' rfl
@[simp] theorem qps(a:Option Nat)(b:Option (Nat×Bool))(z:List Value)(parts:List (Nat×Nat×Operand)):(CI.op a b (.build z parts)).wid=a:=i' rfl
@[simp] theorem qmL(a:Option Nat)(b:Option (Nat×Bool))(el:Nat)(n:Nat)(parts:List Operand):(CI.op a b (.bslice el n parts)).wid=a:=i' rfl
@[simp] theorem qqr(a:Option Nat)(b:Option (Nat×Bool))(agg:Bool)(sz:Nat)(x:Operand):(CI.op a b (.load agg sz x)).wid=a:=i' rfl
@[simp] theorem qlM(d:Option Nat)(g:Option (Nat×Bool))(r sz:Nat)(x y:Operand):(CI.op d g (.store (some r) sz x y)).wid=some r:=i' rfl
@[simp] theorem qpo(a:Option Nat)(b:Option (Nat×Bool))(x:Operand):(CI.op a b (.nilck x)).wid=a:=i' rfl
@[simp] theorem qpt(a:Option Nat)(b:Option (Nat×Bool))(op:BinOp)(x:Operand)(y:Operand):(CI.op a b (.arith op x y)).wid=a:=i' rfl
@[simp] theorem qtg(a:Option Nat)(b:Option (Nat×Bool))(op:BinOp)(x:Operand)(y:Operand):(CI.op a b (.cmp op x y)).wid=a:=i' rfl
@[simp] theorem qpn(a:Option Nat)(b:Option (Nat×Bool))(n:Nat)(x:Operand)(lo:Option Operand)(hi:Option Operand):(CI.op a b (.slice n x lo hi)).wid=a:=i' rfl
@[simp] theorem qmK(a:Option Nat)(b:Option (Nat×Bool))(x:Operand)(lo:Option Operand)(hi:Option Operand):(CI.op a b (.sslice x lo hi)).wid=a:=i' rfl
@[simp] theorem qpq(a:Option Nat)(b:Option (Nat×Bool))(off:Nat)(x:Operand):(CI.op a b (.faddr off x)).wid=a:=i' rfl
@[simp] theorem qpp(a:Option Nat)(b:Option (Nat×Bool))(n:Nat)(x:Operand)(i:Operand):(CI.op a b (.iaddr n x i)).wid=a:=i' rfl
@[simp] theorem qtf(a:Option Nat)(b:Option (Nat×Bool))(x:Operand)(i:Nat):(CI.op a b (.ext x i)).wid=a:=i' rfl
@[simp] theorem qte(a:Option Nat)(b:Option (Nat×Bool))(x:Operand):(CI.op a b (.len x)).wid=a:=i' rfl
@[simp] theorem qqp(a:Option Nat)(b:Option (Nat×Bool))(x:Operand):(CI.op a b (.slen x)).wid=a:=i' rfl
@[simp] theorem qwz(a:Option Nat)(b:Option (Nat×Bool))(mx:Bool)(xs:List Operand):(CI.op a b (.mm mx xs)).wid=a:=i' rfl
@[simp] theorem qi0(d:Option Nat)(g:Option (Nat×Bool))(r el n b:Nat)(x y:Operand):(CI.op d g (.append (some r) el n b x y)).wid=some r:=i' rfl
@[simp] theorem qqs(a:Option Nat)(b:Option (Nat×Bool))(f:Nat)(args:List Operand):(CI.op a b (.call f args)).wid=a:=i' rfl
@[simp] theorem qpr(a:Option Nat)(b:Option (Nat×Bool))(r f:Nat)(args:List Operand):(CI.op a b (.callb r f args)).wid=some r:=i' rfl
abbrev B:=ByteArray
structure I32 where
 val:Int
deriving DecidableEq
instance:Cod I32 where
 wd:=1
 enc n:= .v (.int .i32 n.val)
 dec| .v (.int .i32 n)=>some ⟨n⟩|_=>none
 kn _:=rfl
 wid _:=rfl
 dec_enc _:=rfl
 le d x h:=by
  split at h;grind [FrzTo];grind
@[simp] theorem qvr(n:I32):enc n= .v (.int .i32 n.val):=i' rfl
@[simp] theorem qwG:Cod.wd I32=1:=i' rfl
@[simp] theorem qvA(n:Int):dec (X:=I32) (.v (.int .i32 n))=some ⟨n⟩:=i' rfl
@[simp] theorem qvi(n:I32):I32.mk n.val=n:=i' rfl
structure U8 where
 val:Int
deriving DecidableEq
instance:Cod U8 where
 wd:=1
 enc n:= .v (.int .u8 n.val)
 dec| .v (.int .u8 n)=>some ⟨n⟩|_=>none
 kn _:=rfl
 wid _:=rfl
 dec_enc _:=rfl
 le d x h:=by
  split at h;grind [FrzTo];grind
@[simp] theorem qyL(n:U8):enc n= .v (.int .u8 n.val):=i' rfl
@[simp] theorem qyV(n:Int):dec (X:=U8) (.v (.int .u8 n))=some ⟨n⟩:=i' rfl
@[simp] theorem qyF(n:U8):U8.mk n.val=n:=i' rfl
structure Pair where
 nm:B
 vl:B
deriving DecidableEq
instance:Cod Pair where
 wd:=2
 enc s:= .agg [enc s.nm,enc s.vl]
 dec| .agg [a,b]=>(dec a).bind λa=>(dec b).bind λb=>some ⟨a,b⟩|_=>none
 kn _:=rfl
 wid _:=rfl
 dec_enc s:=by simp
 le d x h:=by
  split at h;grind [FrzTo,Option.bind_eq_some_iff,Cod.le];grind
@[simp] theorem qr5(s:Pair):(Pair.mk s.nm s.vl)=s:=i' rfl
@[simp] theorem qsb(s:Pair):enc s= .agg [enc s.nm,enc s.vl]:=i' rfl
@[simp] theorem qtl:Cod.wd Pair=2:=i' rfl
@[simp] theorem qsj(a b:D):dec (X:=Pair) (.agg [a,b])=((dec a).bind λa=>(dec b).bind λb=>some ⟨a,b⟩):=i' rfl
structure Attr where
 nm:B
 st:Bool
deriving DecidableEq
instance:Cod Attr where
 wd:=2
 enc s:= .agg [enc s.nm,enc s.st]
 dec| .agg [a,b]=>(dec a).bind λa=>(dec b).bind λb=>some ⟨a,b⟩|_=>none
 kn _:=rfl
 wid _:=rfl
 dec_enc s:=by simp
 le d x h:=by
  split at h;grind [FrzTo,Option.bind_eq_some_iff,Cod.le];grind
@[simp] theorem qr7(s:Attr):(Attr.mk s.nm s.st)=s:=i' rfl
@[simp] theorem qse(s:Attr):enc s= .agg [enc s.nm,enc s.st]:=i' rfl
@[simp] theorem qtq:Cod.wd Attr=2:=i' rfl
@[simp] theorem qsl(a b:D):dec (X:=Attr) (.agg [a,b])=((dec a).bind λa=>(dec b).bind λb=>some ⟨a,b⟩):=i' rfl
structure Span where
 b:Int
 e:Int
deriving DecidableEq
instance:Cod Span where
 wd:=2
 enc s:= .agg [enc s.b,enc s.e]
 dec| .agg [a,c]=>(dec a).bind λa=>(dec c).bind λc=>some ⟨a,c⟩|_=>none
 kn _:=rfl
 wid _:=rfl
 dec_enc s:=by simp
 le d x h:=by
  split at h;grind [FrzTo,Option.bind_eq_some_iff,Cod.le];grind
@[simp] theorem qr4(s:Span):(Span.mk s.b s.e)=s:=i' rfl
@[simp] theorem qsa(s:Span):enc s= .agg [enc s.b,enc s.e]:=i' rfl
@[simp] theorem qtk:Cod.wd Span=2:=i' rfl
@[simp] theorem qsi(a b:D):dec (X:=Span) (.agg [a,b])=((dec a).bind λa=>(dec b).bind λb=>some ⟨a,b⟩):=i' rfl
structure ro where
 nm:B
 b:Int
 e:Int
 kv:List Pair
deriving DecidableEq
instance:Cod ro where
 wd:=4
 enc s:= .agg [enc s.nm,enc s.b,enc s.e,enc s.kv]
 dec| .agg [a,c,j,k]=>(dec a).bind λa=>(dec c).bind λc=>(dec j).bind λj=>(dec k).bind λk=>some ⟨a,c,j,k⟩|_=>none
 kn _:=rfl
 wid _:=rfl
 dec_enc s:=by simp
 le d x h:=by
  split at h;grind [FrzTo,Option.bind_eq_some_iff,Cod.le];grind
@[simp] theorem qr9(s:ro):enc s= .agg [enc s.nm,enc s.b,enc s.e,enc s.kv]:=i' rfl
@[simp] theorem qtj:Cod.wd ro=4:=i' rfl
structure Region where
 ty:B
 b:Int
 e:Int
 kv:List Pair
deriving DecidableEq
instance:Cod Region where
 wd:=4
 enc s:= .agg [enc s.ty,enc s.b,enc s.e,enc s.kv]
 dec| .agg [a,c,j,k]=>(dec a).bind λa=>(dec c).bind λc=>(dec j).bind λj=>(dec k).bind λk=>some ⟨a,c,j,k⟩|_=>none
 kn _:=rfl
 wid _:=rfl
 dec_enc s:=by simp
 le d x h:=by
  split at h;grind [FrzTo,Option.bind_eq_some_iff,Cod.le];grind
@[simp] theorem qok(s:Region):(Region.mk s.ty s.b s.e s.kv)=s:=i' rfl
@[simp] theorem qoo(s:Region):enc s= .agg [enc s.ty,enc s.b,enc s.e,enc s.kv]:=i' rfl
@[simp] theorem qpw:Cod.wd Region=4:=i' rfl
@[simp] theorem qoC(a b c d:D):dec (X:=Region) (.agg [a,b,c,d])=((dec a).bind λa=>(dec b).bind λb=>(dec c).bind λc=>(dec d).bind λd=>some ⟨a,b,c,d⟩):=i' rfl
structure yz where
 lb:B
 b:Int
 e:Int
 par:Int
deriving DecidableEq
instance:Cod yz where
 wd:=4
 enc s:= .agg [enc s.lb,enc s.b,enc s.e,enc s.par]
 dec| .agg [a,c,j,k]=>(dec a).bind λa=>(dec c).bind λc=>(dec j).bind λj=>(dec k).bind λk=>some ⟨a,c,j,k⟩|_=>none
 kn _:=rfl
 wid _:=rfl
 dec_enc s:=by simp
 le d x h:=by
  split at h;grind [FrzTo,Option.bind_eq_some_iff,Cod.le];grind
@[simp] theorem qsc(s:yz):enc s= .agg [enc s.lb,enc s.b,enc s.e,enc s.par]:=i' rfl
@[simp] theorem qtm:Cod.wd yz=4:=i' rfl
structure Corpus where
 attrs:List Attr
 toks:List (List B)
 texts:List ro
 regs:List Region
 nodes:List yz
 heads:List Int
 rels:List B
deriving DecidableEq
instance:Cod Corpus where
 wd:=7
 enc s:= .agg [enc s.attrs,enc s.toks,enc s.texts,enc s.regs,enc s.nodes,enc s.heads,enc s.rels]
 dec| .agg [a,b,c,j,k,l,p]=>(dec a).bind λa=>(dec b).bind λb=>(dec c).bind λc=>(dec j).bind λj=>(dec k).bind λk=>(dec l).bind λl=>(dec p).bind λp=>some ⟨a,b,c,j,k,l,p⟩|_=>none
 kn _:=rfl
 wid _:=rfl
 dec_enc s:=by simp
 le d x h:=by
  split at h;grind [FrzTo,Option.bind_eq_some_iff,Cod.le];grind
@[simp] theorem qol(s:Corpus):(Corpus.mk s.attrs s.toks s.texts s.regs s.nodes s.heads s.rels)=s:=i' rfl
@[simp] theorem qop(s:Corpus):enc s= .agg [enc s.attrs,enc s.toks,enc s.texts,enc s.regs,enc s.nodes,enc s.heads,enc s.rels]:=i' rfl
@[simp] theorem qoD(a b c d h j k:D):dec (X:=Corpus) (.agg [a,b,c,d,h,j,k])=((dec a).bind λa=>(dec b).bind λb=>(dec c).bind λc=>(dec d).bind λd=>(dec h).bind λh=>(dec j).bind λj=>(dec k).bind λk=>some ⟨a,b,c,d,h,j,k⟩):=i' rfl
structure bY where
 b:Int
 e:Int
 lbs:List Int
deriving DecidableEq
instance:Cod bY where
 wd:=3
 enc s:= .agg [enc s.b,enc s.e,enc s.lbs]
 dec| .agg [a,c,j]=>(dec a).bind λa=>(dec c).bind λc=>(dec j).bind λj=>some ⟨a,c,j⟩|_=>none
 kn _:=rfl
 wid _:=rfl
 dec_enc s:=by simp
 le d x h:=by
  split at h;grind [FrzTo,Option.bind_eq_some_iff,Cod.le];grind
@[simp] theorem qpZ(s:bY):enc s= .agg [enc s.b,enc s.e,enc s.lbs]:=i' rfl
@[simp] theorem qqt:Cod.wd bY=3:=i' rfl
structure xx where
 r:I32
 pos:Int
 sz:Int
 ok:Bool
deriving DecidableEq
instance:Cod xx where
 wd:=4
 enc s:= .agg [enc s.r,enc s.pos,enc s.sz,enc s.ok]
 dec| .agg [a,b,c,j]=>(dec a).bind λa=>(dec b).bind λb=>(dec c).bind λc=>(dec j).bind λj=>some ⟨a,b,c,j⟩|_=>none
 kn _:=rfl
 wid _:=rfl
 dec_enc s:=by simp
 le d x h:=by
  split at h;grind [FrzTo,Option.bind_eq_some_iff,Cod.le];grind
@[simp] theorem qon(s:xx):enc s= .agg [enc s.r,enc s.pos,enc s.sz,enc s.ok]:=i' rfl
@[simp] theorem qpv:Cod.wd xx=4:=i' rfl
def aB{α:Type}{l:List α}{k:Nat}{a:α}(h:l[k]? =some a):l.take (k+1)=l.take k++ [a]:=by
 grind [List.take_add_one]
def cY{α:Type}{l:List α}{k:Nat}{a:α}(h:l[k]? =some a):l.drop k=a::l.drop (k+1):=by
 grind [List.drop_eq_getElem_cons]
def aY{α:Type}{l:List α}{k:Nat}{a:α}(h:l[k]? =some a):a∈l:=qCg h
def bh{α:Type}{l:List α}{k:Nat}(h:k<l.length):∃a,l[k]? =some a:=⟨l[k],qCe h⟩
def Ql(a b:Span):Prop:=a.b<b.b\/a.b=b.b/\a.e<b.e
instance (a b:Span):Decidable (Ql a b):=by unfold Ql;infer_instance
theorem Lh(a:Span):¬Ql a a:=by grind [Ql]
theorem Qk{a b c:Span}(h:Ql a b)(k:Ql b c):Ql a c:=by grind [Ql]
theorem Span.ext'{a b:Span}(h:a.b=b.b)(k:a.e=b.e):a=b:=by cases a;simp_all
theorem SC(a b:Span):Ql a b\/a=b\/Ql b a:=by
 by_cases h:a.b=b.b/\a.e=b.e;grind [Span.ext'];grind [Ql]
def SS(l:List Span):Prop:=l.Pairwise Ql
def SS.nil:SS []:=List.Pairwise.nil
def YG:∀{a b:List Span},SS a->SS b->(∀x,x∈a↔x∈b)->a=b
 | [], [],_,_,_=>rfl
 | [],y::b,_,_,h=>by have:=(h y).2 (by simp);grind
 |x::a, [],_,_,h=>by have:=(h x).1 (by simp);grind
 | x::a,y::b,k,hb,h=>by
   have c:=qDJ.1 k;have d:=qDJ.1 hb;have j:x=y:=by
    rcases qCm.1 ((h x).1 (by simp))with e|e;omega
    ·rcases qCm.1 ((h y).2 (by simp))with e2|e2;grind;grind [Qk,Lh]
   subst j;have:a=b:=YG c.2 d.2 λz=>by
    grind [Lh]
   grind
def IsNorm(l r:List Span):Prop:=SS r/\∀x,x∈r↔x∈l
def IsNorm.eq{l l' r r':List Span}(h:IsNorm l r)(k:IsNorm l' r')(hl:∀x,x∈l↔x∈l'):r=r':=
 YG h.1 k.1 λx=>(h.2 x).trans ((hl x).trans (k.2 x).symm)
def IsNorm.nil:IsNorm [] []:=⟨SS.nil,λ_=>qDz⟩
def IsNorm.congr{l l' r:List Span}(h:IsNorm l r)(hl:∀x,x∈l↔x∈l'):IsNorm l' r:=⟨h.1,λx=>(h.2 x).trans (hl x)⟩
def qeM:∀{r l:List Span},SS r->(∀x∈r,x∈l)->r.length<=l.length
 | [],l,_,_=>qCC _
 | x::r,l,h,hl=>by
   have a:=qDJ.1 h;have b:=hl x (by simp);have:=qeM (l:=l.erase x) a.2 λy c=>(List.mem_erase_of_ne (λ(e:y=x)=>Lh x (by grind))).2 (hl y (by grind))
   grind
def IsNorm.len{l r:List Span}(h:IsNorm l r):r.length<=l.length:=qeM h.1 λx a=>(h.2 x).1 a
def IsNorm.same{l l' r:List Span}(h:IsNorm l r)(hl:∀x,x∈l'↔x∈l):IsNorm l' r:=⟨h.1,λx=>(h.2 x).trans (hl x).symm⟩
def ij{X:Type} :List X->(X->Bool)->Int
 | [],_=> -1
 |x::l,p=>if p x then 0 else if ij l p< 0 then -1 else ij l p+1
def nE{X:Type}{p:X->Bool} :∀{l:List X},(∀y∈l,p y=false)->ij l p= -1
 | [],_=>rfl
 | x::l,h=>by
   have:=nE (l:=l) (λy a=>h y (by grind));grind [ij]
def vZ{X:Type}{p:X->Bool} :∀{l:List X} {k:Nat} {x:X},l[k]? =some x->p x=true->(∀y∈l.take k,p y=false)->ij l p=k
 | [],k,x,a,_,_=>by grind
 | z::l,0,x,a,hp,_=>by
   grind [ij]
 | z::l,k+1,x,a,hp,hb=>by
   have hz:=hb z (by simp);have b:=vZ (l:=l) (k:=k) (by grind) hp (λy c=>hb y (by grind));grind [ij]
theorem EC{X:Type}(p:X->Bool)(l:List X):(ij l p= -1/\∀y∈l,p y=false)\/ ∃k x,ij l p=(k:Nat)/\l[k]? =some x/\p x=true/\∀y∈l.take k,p y=false:=by
 induction l with
 |nil=>exact .inl ⟨rfl,by simp⟩
 | cons z l a=>
   by_cases hz:p z=true
   ·exact .inr ⟨0,z,by grind [ij],by simp,hz,by simp⟩
   ·have hz:p z=false:=by grind
    rcases a with⟨h1,h2⟩|⟨k,x,h1,h2,h3,h4⟩
    grind [ij]
    ·refine .inr ⟨k+1,x,?_,by grind,h3,λy b=>?_⟩;grind [ij];grind
def vY{X:Type}(p:X->Bool)(l:List X):decide (0<=ij l p)=l.any p:=by
 grind [EC]
def qp0(r:List Span)(x:Span):List Span:=if r.getLast? =some x then r else r++ [x]
def vP(l:List Span):List Span:=l.foldl qp0 []
theorem CG(l:List Span)(x:Span):vP (l++ [x])=qp0 (vP l) x:=by simp[vP]
def ua{α:Type}{P:List α->Prop}(h0:P [])(hs:∀l x,P l->P (l++ [x])):∀l,P l:=by
 intro l;have:∀n (l:List α),l.length=n->P l:=by
  intro n
  induction n with
  |zero=>grind
  | succ n b=>
    intro l hl;have a:l≠ []:=by grind
    rw[<-List.dropLast_concat_getLast a];grind
 grind
def QM(l:List Span):(vP l).getLast? =l.getLast?:=by
 refine ua (P:=λl=>(vP l).getLast? =l.getLast?) rfl (λl x a=>?_) l;grind [CG,qp0]
def Xt(l:List Span):∀x,x∈vP l↔x∈l:=by
 refine ua (P:=λl=>∀x,x∈vP l↔x∈l) (λx=>qDz) (λl y a x=>?_) l;grind [CG,qp0]
def WS(l:List Span):Prop:=l.Pairwise λa b=>¬Ql b a
def qle{l:List Span}(h:WS l):SS (vP l):=by
 revert h;refine ua (P:=λl=>WS l->SS (vP l)) (λ_=>SS.nil) (λl x q h=>?_) l;have k:=qDc.1 h;have hs:=q k.1;rw[CG,qp0];split;omega
 ·rename_i c;refine qDc.2 ⟨hs,by simp,λa r b hb=>?_⟩;simp at hb;subst hb;have d:=(Xt l a).1 r;rcases SC a b with h1|h1|h1;omega
  ·exfalso;subst h1;apply c;rw[QM];obtain⟨s,p,rfl⟩:=qEk d;have h3:=(qDc.1 k.1).2.1;have h4:=qDJ.1 h3;cases j:p.getLast? with
   | none=>
     grind
   | some z=>
     have hz:z∈p:=List.mem_of_getLast? j;grind [SC]
  grind
def SS.filter{l:List Span}(h:SS l)(p:Span->Bool):SS (l.filter p):=List.Pairwise.filter p h
def IsNorm.filter{l r:List Span}(h:IsNorm l r)(p:Span->Bool):IsNorm (l.filter p) (r.filter p):=⟨h.1.filter p,λx=>by simp[h.2 x]⟩
def qeS(l:List Span)(i:Nat)(v:Span):(l.map Cod.enc).set i (.agg [.v (.int .i64 v.b), .v (.int .i64 v.e)])=(l.set i v).map Cod.enc:=by
 simp
def NJ{l:List Span}(h:l.length< 2):vP l=l:=by
 match l,h with
 | [],_=>rfl
 | [x],_=>rfl
 |x::y::l,h=>grind
theorem qhA{l:List Span}(h:1<=l.length):vP (l.take 1)=l.take 1:=NJ (by grind)
def QL{l:List Span}{j:Nat}{x y:Span}(b:1<=j)(a:l[j]? =some x)(c:l[j -1]? =some y):vP (l.take (j+1))=if x=y then vP (l.take j)else vP (l.take j) ++ [x]:=by
 rw[aB a,CG,qp0,QM];grind
def rr{α:Type}{cur l:List α}{k m:Nat}{x:α}(hk:k<cur.length)(a:k<m)(b:cur.drop m=l.drop m):
 (cur.set k x).take (k+1)=cur.take k++ [x]/\(cur.set k x).drop m=l.drop m:=by
 grind [List.take_add_one,List.take_set_of_le,List.drop_set_of_lt]
def Lp{α:Type}{a b:List α}{m i:Nat}(h:a.drop m=b.drop m)(hi:m<=i):a[i]? =b[i]?:=by
 have:=congrArg (λl=>l[i -m]?) h;grind
def ud{α:Type}{a b:List α}{m i:Nat}(h:a.drop m=b.drop m)(hi:m<=i):a.drop i=b.drop i:=by
 have:=congrArg (λl=>l.drop (i -m)) h;grind [List.drop_drop]
def qdI(s:ByteArray)(p:Nat)(h:p<s.size):1<=(Utf8.decode s p).2/\p+ (Utf8.decode s p).2<=s.size:=by
 unfold Utf8.decode;grind
namespace G
variable {α:Type}
def fc(n:Nat)(f:Nat->α):α:=match n with
 | 0=>f 0
 |k+1=>f (k+1)
def bt(t:Nat):Nat:=Nat.shiftLeft 1 t
def oM:Operand->Nat
 | .tmp t=>bt t
 | _=>0
def qAA:List Operand->Nat
 | []=>0
 |o::l=>Nat.lor (oM o) (qAA l)
def qAo:CI->Nat
 | .op _ g c=>Nat.lor (qAA c.ops) (match g with|some (s,_)=>bt s|none=>0)
 | .frz _ _=>0
def rm(m t:Nat):Nat:=Nat.sub m (Nat.land m (bt t))
def quw:List CI->Nat->Nat
 | [],o=>o
 | x::l,o=>fc (quw l o) λo=>match x with
   | .op (some d) g c=>Nat.lor (rm o d) (qAo (.op (some d) g c))
   | .op none g c=>Nat.lor o (qAo (.op none g c))
   | .frz _ _=>o
def lk:List (Nat×Nat)->Nat->Nat
 | [],_=>0
 | (i,m)::l,k=>match Nat.beq i k with
  |true=>m
  |false=>lk l k
def qyd:Nat->(Nat->Nat)->Nat->Nat
 | 0,_,c=>c
 | n+1,f,c=>fc (Nat.lor c (f c)) λd=>match Nat.beq d c with
   |true=>d
   |false=>qyd n f d
def lv(r:Nat):CC->List (Nat×Nat)->Nat->Nat
 | .skip,_,o=>o
 | .reg l,_,o=>quw l o
 | .regd p t,_,o=>fc (quw t o) (quw p)
 | .seq a b,e,o=>fc (lv r b e o) (lv r a e)
 | .ite c a b,e,o=>Nat.lor (Nat.lor (lv r a e o) (lv r b e o)) (oM c)
 | .block i b,e,o=>lv r b ((i,o)::e) o
 | .loop _ b,e,_=>qyd 50 (lv r b e) 0
 | .exit i,e,_=>lk e i
 | .ret,_,_=>r
 | .cut _ c,e,o=>lv r c e o
 | .keep _ _ c,e,o=>lv r c e o
def gt(W x t:Nat):Nat:=Nat.land (Nat.shiftRight x (Nat.mul t W)) (Nat.sub (bt W) 1)
def ad(W x t m:Nat):Nat:=Nat.lor x (Nat.shiftLeft m (Nat.mul t W))
def hO(W h:Nat):Operand->Nat
 | .tmp t=>gt W h t
 | _=>0
def qpV(W h:Nat):List Operand->Nat
 | []=>0
 |o::l=>Nat.lor (hO W h o) (qpV W h l)
def qhU:Nat->Nat->Nat->List Nat
 | 0,_,_=>[]
 | n+1,i,m=>match Nat.beq m 0 with
   |true=>[]
   | false=>match Nat.beq (Nat.land m 1) 1 with
     |true=>i::qhU n (i+1) (Nat.shiftRight m 1)
     |false=>qhU n (i+1) (Nat.shiftRight m 1)
def bl(m:Nat):List Nat:=qhU 1000 0 m
def qd3(f:Nat->Nat):List Nat->Nat
 | []=>0
 |i::l=>Nat.lor (f i) (qd3 f l)
def qnk(W:Nat)(f:Nat->Nat):List Nat->Nat->Nat
 | [],c=>c
 |i::l,c=>fc (ad W c i (f i)) (qnk W f l)
def qBE(W:Nat)(x:CI)(h c:Nat)(K:Nat->Nat->α):α:=match x with
 | .frz _ _=>K h c
 | .op d _ o=>
   let put (m:Nat):α:=match d with
    |some d=>fc (ad W h d m) λh=>K h c
    |none=>K h c
   let own:Nat:=match d with
    |some d=>bt d
    |none=>0
   let a (s:Nat):α:=fc s λs=>fc (qnk W (λi=>rm s i) (bl s) c) λc=>match d with
    |some d=>fc (ad W h d s) λh=>K h c
    |none=>K h c
   match o with
   | .alloc _ _=>put own
   | .nslice _ _=>put own
   | .mslice _ _ _=>put own
   | .mkslice _ _ _ _ _ _ _=>put own
   | .srange _=>put own
   | .appmk _ _ _ _ _ _ _=>put own
   | .m .mk _=>put own
   | .m .rng (x::_)=>fc (qnk W (λ_=>hO W h x) (bl own) c) λc=>match d with
     |some d=>fc (ad W h d own) λh=>K h c
     |none=>K h c
   | .m (.del _ _) _=>K h c
   | .m .len _=>K h c
   | .m (.upd _ _) (x::b)=>fc (qpV W h b) λv=>fc (qnk W (λ_=>v) (bl (hO W h x)) c) λc=>K h c
   | .m (.look _ _ _ _ _) (x::_)=>put (qd3 (gt W c) (bl (hO W h x)))
   | .m .entry (x::_)=>put (qd3 (gt W c) (bl (hO W h x)))
   | .load _ _ x=>put (qd3 (gt W c) (bl (hO W h x)))
   | .tbx _ x=>fc (qnk W (λ_=>hO W h x) (bl own) c) λc=>match d with
     |some d=>fc (ad W h d own) λh=>K h c
     |none=>K h c
   | .box _ false x=>fc (qnk W (λ_=>hO W h x) (bl own) c) λc=>match d with
     |some d=>fc (ad W h d own) λh=>K h c
     |none=>K h c
   | .store _ _ x y=>fc (hO W h y) λv=>fc (qnk W (λ_=>v) (bl (hO W h x)) c) λc=>K h c
   | .append _ _ _ _ x _=>put (Nat.lor own (hO W h x))
   | .call _ xs=>a (qpV W h xs)
   | .callb _ _ xs=>a (qpV W h xs)
   | .callv f xs=>put (Nat.lor (qpV W h xs) (hO W h f))
   |o=>put (qpV W h o.ops)
def qlS(W:Nat):List CI->Nat->Nat->(Nat->Nat->α)->α
 | [],h,c,K=>K h c
 |x::l,h,c,K=>qBE W x h c λh c=>qlS W l h c K
def qnd(W:Nat):CC->Nat->Nat->(Nat->Nat->α)->α
 | .reg l,h,c,K=>qlS W l h c K
 | .regd p t,h,c,K=>qlS W p h c λh c=>qlS W t h c K
 | .seq a b,h,c,K=>qnd W a h c λh c=>qnd W b h c K
 | .ite _ a b,h,c,K=>qnd W a h c λh c=>qnd W b h c K
 | .block _ b,h,c,K=>qnd W b h c K
 | .loop _ b,h,c,K=>qnd W b h c K
 | _,h,c,K=>K h c
def fx(W:Nat)(cc:CC):Nat->Nat->Nat->(Nat->Nat->α)->α
 | 0,h,c,K=>K h c
 | n+1,h,c,K=>qnd W cc h c λa c'=>match Nat.beq h a with
   |false=>fx W cc n a c' K
   | true=>match Nat.beq c c' with
     |false=>fx W cc n a c' K
     |true=>K h c
def cl(W c:Nat):Nat->Nat->Nat
 | 0,s=>s
 | n+1,s=>fc (Nat.lor s (qd3 (gt W c) (bl s))) λt=>match Nat.beq t s with
   |true=>s
   |false=>cl W c n t
def qrB:Value->Bool
 | .int .i64 k=>decide (k=1)
 | _=>false
def qBU:List CI->Option (Nat×Nat×Nat)
 | [.op (some c) none (.cmp .lss (.tmp i) (.tmp n))]=>some (c,i,n)
 | _=>none
def quU:List CI->Option (Nat×Nat)
 | [.op (some a) none (.arith .add (.tmp i) (.const v)), .op (some j) none (.mv (.tmp j2))]=>match qrB v && Nat.beq i j && Nat.beq a j2 with
   |true=>some (a,i)
   |false=>none
 | _=>none
def qye(id:Nat):CC->Option (Nat×Nat×Nat×Nat×Nat)
 | .loop _ (.seq (.reg l) (.seq (.ite (.tmp c2) .skip (.exit a)) (.seq (.block b _) (.reg d))))=>match qBU l,quU d with
   | some (c,i,n),some (k,j)=>match Nat.beq id a && Nat.beq c c2 && Nat.beq i j with
     |true=>some (i,n,c,b,k)
     |false=>none
   | _,_=>none
 | _=>none
def qlf:CC->Nat
 | .seq a b=>qlf a+qlf b+1
 | .ite _ a b=>qlf a+qlf b
 | .block i b=>match qye i b with
   |some _=>qlf b -3
   |none=>qlf b
 | .loop _ b=>qlf b
 | _=>0
def Pr:CC->Nat
 | .seq a b=>Pr a+Pr b
 | .ite _ a b=>Pr a+Pr b
 | .block i b=>match qye i b with
   |some _=>Pr b -1
   |none=>Pr b
 | .loop _ b=>Pr b+1
 | _=>0
def uk:CC->CC
 | .keep _ _ c=>c
 |c=>c
def qB3(b:CC):CC:=match b with
 | .loop _ b=>match uk b with
   | .seq _ b=>match uk b with
     | .seq _ b=>match uk b with
       | .seq a _=>match uk a with
         | .block _ b=>b
         | _=> .skip
       | _=> .skip
     | _=> .skip
   | _=> .skip
 | _=> .skip
section
variable (f:Operand->Operand)(z:List Value->List Value)
def pC:COp->COp
 | .mv x=> .mv (f x)
 | .pick c x y=> .pick (f c) (f x) (f y)
 | .alloc el l=> .alloc el (z l)
 | .box el im x=> .box el im (f x)
 | .tbx el x=> .tbx el (f x)
 | .build l d=> .build (z l) (d.map λp=>(p.1,p.2.1,f p.2.2))
 | .bslice el n d=> .bslice el n (d.map f)
 | .nslice el n=> .nslice el n
 | .mslice el n d=> .mslice el n (d.map f)
 | .load a s x=> .load a s (f x)
 | .store r s x y=> .store r s (f x) (f y)
 | .nilck x=> .nilck (f x)
 | .arith o x y=> .arith o (f x) (f y)
 | .cmp o x y=> .cmp o (f x) (f y)
 | .eql n a ks x y=> .eql n a ks (f x) (f y)
 | .scat x y=> .scat (f x) (f y)
 | .not x=> .not (f x)
 | .neg x=> .neg (f x)
 | .conv k x=> .conv k (f x)
 | .clo g l=> .clo g (l.map f)
 | .mkslice el n b a l x y=> .mkslice el n b a (z l) (f x) (f y)
 | .slice n x l h=> .slice n (f x) (l.map f) (h.map f)
 | .sslice x l h=> .sslice (f x) (l.map f) (h.map f)
 | .faddr o x=> .faddr o (f x)
 | .fld a s o x=> .fld a s o (f x)
 | .iaddr n x i=> .iaddr n (f x) (f i)
 | .sidx x i=> .sidx (f x) (f i)
 | .ext x i=> .ext (f x) i
 | .len x=> .len (f x)
 | .slen x=> .slen (f x)
 | .mm m l=> .mm m (l.map f)
 | .append r el n b x y=> .append r el n b (f x) (f y)
 | .appmk el n b a l x y=> .appmk el n b a (z l) (f x) (f y)
 | .clear n a l x=> .clear n a (z l) (f x)
 | .copy n x y=> .copy n (f x) (f y)
 | .cap x=> .cap (f x)
 | .srange x=> .srange (f x)
 | .snext x=> .snext (f x)
 | .sbytes x=> .sbytes (f x)
 | .srunes x=> .srunes (f x)
 | .bstr x=> .bstr (f x)
 | .rstr x=> .rstr (f x)
 | .mkif t x=> .mkif t (f x)
 | .m (.look ok a ka ks l) xs=> .m (.look ok a ka ks (z l)) (xs.map f)
 | .m o xs=> .m o (xs.map f)
 | .bad=> .bad
 | .call g l=> .call g (l.map f)
 | .callv g l=> .callv (f g) (l.map f)
 | .callb r g l=> .callb r g (l.map f)
def pL(fz:List (Nat×Nat)):List CI->List CI
 | []=>[]
 | .op (some d) g c::l=>match fz.lookup d with
   |some n=> .op (some d) g (pC f z c):: .frz d n::pL fz l
   |none=> .op (some d) g (pC f z c)::pL fz l
 | .op none g c::l=> .op none g (pC f z c)::pL fz l
 | .frz t n::l=> .frz t n::pL fz l
end
structure Opt where
 bx:List Nat:=[]
 fz:List (Nat×Nat):=[]
 cu:List Nat:=[]
 ke:List Nat:=[]
 kz:List Nat:=[]
abbrev PF:=(rg:Nat->Nat->Nat->Nat->Nat->CC->Nat->CC)->(sm:Nat->CC->CC->CC)->(kk:{_:Value} ->Operand)->(zk:IntKind->Value)->(ze zb zs zp zm zf:Value)->CC
section
variable (kk:{_:Value} ->Operand)(zk:IntKind->Value)(ze zb zs zp zm zf:Value)
def pO:Operand->Operand
 | .const v=> @kk v
 | .tmp t=> .tmp t
 | .global g=> .global g
 | .func f=> .func f
def pZ:List Value->List Value
 | []=>[]
 | v::l=>(match v with
   | .int k _=>zk k
   | .string _=>ze
   | .bool _=>zb
   | .slice _ _ _=>zs
   | .pointer _=>zp
   | .map _=>zm
   | _=>zf)::pZ l
end
section
variable (rg:Nat->Nat->Nat->Nat->Nat->CC->Nat->CC)(sm:Nat->CC->CC->CC)(f:Operand->Operand)(z:List Value->List Value)(op:Opt)(W h c r:Nat)
def qzQ(l:List Nat):List Nat:=op.ke.filter (λx=>!l.contains x) ++l++op.kz
def an:CC->List (Nat×Nat)->Nat->Nat->Nat->Nat->CC
 | .skip,_,_,_,_,_=> .skip
 | .reg l,_,_,_,_,_=> .reg (pL f z op.fz l)
 | .regd p l,_,_,_,_,_=> .regd (pL f z op.fz p) (pL f z op.fz l)
 | .seq a b,e,o,m,k,s=>fc (lv r b e o) λp=>fc (match s with|0=>m+1|_=>m) λt=>
   let d:=an a e p t k 0
   let b':=an b e o (t+qlf a) (k+Pr a) (s -1)
   let b2:=match a with
    | .skip=>b'
    | _=> .keep (bl p) (qzQ op (bl (cl W c 5 (qd3 (gt W h) (bl p))))) b'
   match s with
   | 0=>match op.cu.contains m with
     |true=>sm m d b2
     |false=> .seq d b2
   | _=> .seq d b2
 | .ite q a b,e,o,m,k,_=> .ite (f q) (an a e o m k 0) (an b e o (m+qlf a) (k+Pr a) 0)
 | .block i b,e,o,m,k,_=>match qye i b with
   |some (u,n,c,j,w)=>rg i u n c j (qB3 (an b ((i,o)::e) o m k 3)) w
   |none=> .block i (an b ((i,o)::e) o m k 0)
 | .loop _ b,e,_,m,k,s=>fc (qyd 50 (lv r b e) 0) λo=>match s with
   | 0=> .loop k (an b e o m (k+1) 0)
   | _=> .loop 0 (an b e o m k s)
 | .exit i,_,_,_,_,_=> .exit i
 | .ret,_,_,_,_,_=> .ret
 | .cut _ c,e,o,m,k,s=>an c e o m k s
 | .keep _ _ c,e,o,m,k,s=>an c e o m k s
end
def qlV(W:Nat):List Nat->Nat
 | []=>0
 |t::l=>ad W (qlV W l) t (bt t)
def qnu:List ResultVar->Nat
 | []=>0
 | .tmp t::l=>Nat.lor (bt t) (qnu l)
 | .cell t _::l=>Nat.lor (bt t) (qnu l)
def qA2(P:Program)(neg:Bool)(t:TypeId)(x y:Operand):COp:=match P.underlying t with
 |some (.struct fs)=> .eql neg true (fs.toList.map λf=>(pw P f.type).getD .int) x y
 | _=> .eql neg false [(pw P t).getD .int] x y
def qzq(P:Program)(im:List Nat)(ops:Array Oper)(o:Oper):CI:= .op o.dst ((GP ops o).getD none) (match o.op with
 | .binOp .eql t x y _=>qA2 P false t x y
 | .binOp .neq t x y _=>qA2 P true t x y
 | _=>(cQ P im o).getD .bad)
def cC(P:Program)(im:List Nat):Code->CC
 | .region _ ops false=> .reg (ops.toList.map (qzq P im ops))
 | .region _ ops true=> .regd (qaN ops (ops.toList.map (qzq P im ops)) (cL ops)) ((ops.toList.map (qzq P im ops)).drop (cL ops))
 | .seq a b=> .seq (cC P im a) (cC P im b)
 | .cond c a b=> .ite c (cC P im a) (cC P im b)
 | .block id b=> .block id (cC P im b)
 | .loop b=> .loop 0 (cC P im b)
 | .exit id=> .exit id
 | .ret=> .ret
 | _=> .skip
def gn(P:Program)(fn:Func)(im:List Nat)(op:Opt):PF:=λrg sm kk zk ze zb zs zp zm zf=>match fn.body with
 |none=> .skip
 | some code=>fc (qlV fn.ntmps op.bx) λh0=>fx fn.ntmps (cC { P with cutTypes:= #[] } im code) 6 h0 0 λh c=>fc (qnu fn.results.toList) λr=>
   an rg sm (pO @kk) (pZ zk ze zb zs zp zm zf) op fn.ntmps h c r (cC { P with cutTypes:= #[] } im code) [] r 0 1 0
def rw_(P:Program)(fn:Func)(im:List Nat):CC:=match fn.body with
 |none=> .skip
 |some code=>cC { P with cutTypes:= #[] } im code
def ap(c:PF):CC:=c gH OU (λ{v} => .const v) (λk=> .int k 0) (.string ⟨#[]⟩) (.bool false) (.slice none 0 0) (.pointer none) (.map none) .nilFunc
end G
open Go.Proofs
abbrev oA(d s:Nat):CI:= .op (some d) none (.mv (.tmp s))
abbrev oB(d:Nat)(c:COp):CI:= .op (some d) none c
abbrev oC(d w s:Nat):CI:= .op (some d) none (.load false w (.tmp s))
abbrev oD(d w s:Nat):CI:= .op (some d) none (.load true w (.tmp s))
abbrev oE(d n s:Nat):CI:= .op (some d) none (.faddr n (.tmp s))
abbrev oF(w a b:Nat):CI:= .op none none (.store none w (.tmp a) (.tmp b))
abbrev oG(d s:Nat):CI:= .op (some d) none (.nilck (.tmp s))
abbrev oH(d g:Nat)(c:COp):CI:= .op (some d) (some (g,true)) c
abbrev oI(d g:Nat)(c:COp):CI:= .op (some d) (some (g,false)) c
abbrev oT(n:Nat):Operand:= .tmp n
abbrev oK(v:Value):Operand:= .const v
abbrev oN(n:Int):Operand:= .const (.int .i64 n)
abbrev oS(b:ByteArray):Operand:= .const (.string b)
abbrev oi:Value:= .int .i64 0
abbrev oe:Value:= .string ⟨#[]⟩
abbrev ob:Value:= .bool false
abbrev on:Value:= .slice none 0 0
abbrev oZ(d f:Nat)(l:List Operand):CI:= .op (some d) none (.call f l)
abbrev oX(l:List CI)(a b:List Nat)(x:CC):CC:= .seq (.reg l) (.keep a b x)
abbrev pk:Nat:=3
abbrev Te:Nat:=4
abbrev sP:Nat:=5
abbrev uZ:Nat:=6
abbrev sM:Nat:=7
abbrev wY:Nat:=8
abbrev zH:Nat:=9
abbrev lB:Nat:=10
abbrev nb:Nat:=11
abbrev zG:Nat:=12
abbrev pj:Nat:=13
abbrev cv:Nat:=14
abbrev zL:Nat:=15
abbrev gW:Nat:=16
abbrev qN:Nat:=17
abbrev BX:Nat:=18
abbrev eZ:Nat:=19
abbrev sO:Nat:=20
abbrev qL:Nat:=21
abbrev zP:Nat:=22
abbrev we:Nat:=23
abbrev EG:Nat:=24
abbrev sK:Nat:=25
abbrev iG:Nat:=26
abbrev tP:Nat:=27
abbrev aI:Nat:=28
abbrev gu:Nat:=29
abbrev fw:Nat:=30
abbrev eN:Nat:=31
abbrev jU:Nat:=32
abbrev dC:Nat:=33
abbrev eC:Nat:=34
abbrev eP:Nat:=35
abbrev vd:Nat:=36
abbrev Nt:Nat:=37
abbrev Td:Nat:=38
abbrev zQ:Nat:=39
abbrev sf:Nat:=40
abbrev pd:Nat:=41
abbrev uX:Nat:=42
abbrev uY:Nat:=43
abbrev wi:Nat:=44
abbrev BS:Nat:=45
abbrev kL:Nat:=46
abbrev uU:Nat:=47
abbrev uS:Nat:=48
abbrev wX:Nat:=49
abbrev se:Nat:=50
abbrev kO:Nat:=51
abbrev dy:Nat:=52
abbrev fu:Nat:=53
abbrev cX:Nat:=54
abbrev pg:Nat:=55
abbrev wW:Nat:=56
abbrev gV:Nat:=57
abbrev sR:Nat:=58
abbrev uW:Nat:=59
abbrev dA:Nat:=60
abbrev dB:Nat:=61
abbrev nG:Nat:=62
abbrev mO:Nat:=63
abbrev Zt:Nat:=64
abbrev IT:Nat:=65
abbrev IR:Nat:=66
abbrev IQ:Nat:=67
abbrev GU:Nat:=68
abbrev Pk:Nat:=69
abbrev EH:Nat:=70
abbrev GV:Nat:=71
abbrev KI:Nat:=72
abbrev IK:Nat:=73
abbrev IN:Nat:=74
abbrev pb:Nat:=75
abbrev sd:Nat:=76
abbrev mC:Nat:=77
abbrev jk:Nat:=78
abbrev iH:Nat:=79
abbrev gy:Nat:=80
abbrev dU:Nat:=81
abbrev gX:Nat:=82
abbrev sL:Nat:=84
abbrev pv:Nat:=85
abbrev dD:Nat:=86
abbrev cH:Nat:=87
abbrev bD:Nat:=88
abbrev gY:Nat:=89
abbrev cA:Nat:=90
abbrev pq:Nat:=91
abbrev aL:Nat:=92
abbrev xa:Nat:=93
abbrev pr:Nat:=94
abbrev jV:Nat:=95
abbrev wZ:Nat:=96
abbrev bQ:Nat:=97
abbrev cO:Nat:=98
abbrev na:Nat:=99
abbrev bC:Nat:=100
abbrev cI:Nat:=101
abbrev gc:Nat:=102
abbrev uT:Nat:=103
abbrev kP:Nat:=104
abbrev rG:Nat:=105
abbrev gw:Nat:=106
abbrev fj:Nat:=107
abbrev dz:Nat:=108
abbrev bJ:Nat:=109
abbrev eB:Nat:=110
abbrev aU:Nat:=111
abbrev rF:Nat:=112
abbrev fL:Nat:=113
abbrev zN:Nat:=114
abbrev jg:Nat:=115
abbrev mE:Nat:=116
abbrev ee:Nat:=117
abbrev ph:Nat:=118
abbrev jT:Nat:=119
abbrev iI:Nat:=120
abbrev lA:Nat:=121
abbrev mY:Nat:=122
abbrev kI:Nat:=124
abbrev Ns:Nat:=125
abbrev Pj:Nat:=126
abbrev WO:Nat:=127
abbrev IL:Nat:=128
abbrev G0:Nat:=129
abbrev EI:Nat:=130
abbrev BO:Nat:=131
abbrev cq:Nat:=132
abbrev mD:Nat:=133
abbrev oW:Nat:=134
abbrev ga:Nat:=135
abbrev pi:Nat:=145
abbrev sS:Nat:=146
abbrev pn:Nat:=147
abbrev pp:Nat:=148
abbrev rH:Nat:=149
abbrev uP:Nat:=150
abbrev cG:Nat:=151
abbrev rE:Nat:=152
abbrev pa:Nat:=153
abbrev wT:Nat:=154
abbrev sQ:Nat:=155
abbrev mZ:Nat:=156
abbrev eT:Nat:=157
abbrev bX:Nat:=158
abbrev bM:Nat:=159
abbrev ck:Nat:=160
abbrev iE:Nat:=161
abbrev eM:Nat:=162
abbrev EJ:Nat:=163
abbrev wV:Nat:=164
abbrev qK:Nat:=165
abbrev zI:Nat:=166
abbrev BP:Nat:=167
abbrev wU:Nat:=168
abbrev BT:Nat:=169
abbrev BQ:Nat:=170
abbrev je:Nat:=171
abbrev lz:Nat:=172
abbrev aM:Nat:=173
abbrev jh:Nat:=174
abbrev ct:Nat:=175
abbrev eV:Nat:=176
abbrev kN:Nat:=177
abbrev dx:Nat:=178
abbrev fS:Nat:=179
abbrev eU:Nat:=180
abbrev eY:Nat:=181
abbrev qO:Nat:=182
abbrev cj:Nat:=183
abbrev zO:Nat:=184
abbrev wh:Nat:=185
abbrev qM:Nat:=186
abbrev IM:Nat:=195
abbrev C9:Nat:=196
abbrev GZ:Nat:=197
abbrev uR:Nat:=198
abbrev kM:Nat:=199
abbrev uV:Nat:=200
abbrev pu:Nat:=208
abbrev BZ:Nat:=209
abbrev kJ:Nat:=210
abbrev lw:Nat:=212
abbrev rD:Nat:=213
abbrev df:Nat:=214
abbrev dF:Nat:=215
abbrev dG:Nat:=216
abbrev lT:Nat:=217
abbrev BR:Nat:=218
abbrev wg:Nat:=219
abbrev tO:Nat:=220
abbrev EK:Nat:=221
abbrev zK:Nat:=222
abbrev zJ:Nat:=223
abbrev gd:Nat:=224
abbrev zM:Nat:=225
abbrev kH:Nat:=226
abbrev eA:Nat:=227
abbrev fK:Nat:=228
abbrev GY:Nat:=233
abbrev C8:Nat:=234
abbrev GX:Nat:=235
abbrev GW:Nat:=236
abbrev KJ:Nat:=237
abbrev G2:Nat:=238
abbrev G1:Nat:=239
abbrev jv:Nat:=253
abbrev bA:Nat:=254
abbrev rC:Nat:=255
abbrev iF:Nat:=256
abbrev jS:Nat:=257
abbrev BY:Nat:=258
abbrev lW:Nat:=259
abbrev qJ:Nat:=260
abbrev qP:Nat:=261
abbrev BU:Nat:=262
abbrev gU:Nat:=263
abbrev KH:Nat:=265
abbrev C7:Nat:=266
abbrev jt:Nat:=275
abbrev dn:Nat:=276
abbrev oY:Nat:=277
abbrev dh:Nat:=278
abbrev eQ:Nat:=279
abbrev BV:Nat:=280
abbrev IS:Nat:=281
abbrev lV:Nat:=285
abbrev qI:Nat:=288
abbrev dK:Nat:=289
abbrev jw:Nat:=290
abbrev BW:Nat:=291
abbrev IP:Nat:=292
abbrev BN:Nat:=294
abbrev kK:Nat:=295
abbrev iD:Nat:=296
abbrev ed:Nat:=297
abbrev gJ:Nat:=299
abbrev eO:Nat:=300
abbrev ju:Nat:=301
abbrev uQ:Nat:=302
abbrev lU:Nat:=305
abbrev eL:Nat:=307
abbrev dg:Nat:=308
abbrev nc:Nat:=309
abbrev ez:Nat:=312
abbrev qQ:Nat:=313
abbrev cT:Nat:=314
abbrev bE:Nat:=3
abbrev rO:Nat:=5
abbrev au:Nat:=9
abbrev LR:Nat:=21
abbrev vU:Nat:=28
abbrev qcr:Nat:=30
abbrev eI:Nat:=36
abbrev aW:Nat:=39
abbrev bI:Nat:=56
abbrev xT:Nat:=61
abbrev Cp:Nat:=64
abbrev PI:Nat:=79
abbrev DV:Nat:=91
abbrev nz:Nat:=105
abbrev vT:Nat:=114
abbrev FE:Nat:=177
abbrev fO:Nat:=210
abbrev eS:Nat:=214
abbrev Ba:Nat:=217
abbrev xS:Nat:=318
abbrev db:Nat:=331
def mixed:Tryz.prog.follows .mixedOrders=true:=by kernel_rfl
abbrev gq(f:Func)(im:List Nat)(op:G.Opt)(c:CC)(_:G.ap (G.gn Tryz.prog f im op)=c:=by conv=>lhs;(conv=>arg 1;reduce);dsimp only[G.ap]):CC:=c
def fo {f : Nat} {im : List Nat} {cc : CC} {rs : List ak} {N : Nat} (h : ((Tryz.prog.funcs[f]?).bind fun g => if g.name == "runtime.NumGoroutine" then none else g.body.bind fun c => (ay Tryz.prog im g.ntmps c).bind fun cc => (g.results.toList.mapM (fy Tryz.prog)).bind fun rs => some (g.ntmps, cc, rs)) = some (N, bH cc, rs) := by kernel_rfl) : xD Tryz.prog f im cc rs N := qmh mixed h
abbrev FO:=xD Tryz.prog
abbrev TQ(dq:Prop)(f:Nat)(s:Spc):Prop:=Tri dq Tryz.prog f s.pt
end
end Go.Gv
