/- T12 -/
import Derived.Test.YtfpmgnnippjblaaGreatDoorGc09
set_option linter.all false
namespace Go.Gv
section
open Cod (enc dec)
variable {dq:Prop}
structure fN (X:Type) where
 dec:List D->Option X
 view:X->List D
 le:∀ds x,dec ds=some x->LeL ds (view x)
def ax{X Y:Type}(A:fN X)(pre:X->Prop)(er:Y->D)(post:X->Y->Prop):Spc:=qjw A.dec pre λx r=>∃y,r=er y/\post x y
def gK{X:Type}(o:Option X)(k:X->Prop):Prop:=match o with|some x=>k x|none=>False
@[congr] theorem qx7{X:Type}{o a:Option X}{k:X->Prop}(h:o=a):gK o k=gK a k:=by grind
@[simp] theorem qBc{X:Type}(x:X)(k:X->Prop):gK (some x) k=k x:=i' rfl
@[simp] theorem qBd{X:Type}(k:X->Prop):gK none k=False:=i' rfl
@[simp] theorem lZ{X Y:Type}(A:fN X)(pre:X->Prop)(er:Y->D)(post:X->Y->Prop)(d:Nat)(ds:List D)(H:ab)(K:D->ab->Prop):
 (ax A pre er post).pt d ds H K=gK (A.dec ds) λx=>pre x/\∀y,post x y->K (er y) H:=by
 refine propext ⟨λh=>?_,λh=>?_⟩
 ·obtain⟨⟨x,h1,h2⟩,h3⟩:=h;rw[h1];refine⟨h2,λy b=>h3 _ λj a _=>?_⟩;rw[h1]at a;cases a;exact⟨y,rfl,b⟩
 ·cases c:A.dec ds with
  |none=>rw[c]at h;exact h.elim
  | some x=>
    rw[c]at h;refine qh3 x c h.1 ?_;rintro r ⟨y,rfl,b⟩;exact h.2 y b
@[simp] theorem qxE{X Y:Type}(A:fN X)(pre:X->Prop)(er:Y->D)(post:X->Y->Prop)(dst:Option Nat)(ds:List D)(H:ab)(K:D->ab->Prop):
 qgi dst (ax A pre er post) ds H K=gK (A.dec ds) λx=>pre x/\∀y,post x y->K (er y) H:=lZ A pre er post 0 ds H K
def Fin{Y:Type}(er:Y->D)(q:Y->Prop)(r:D)(H':ab):Prop:=∃y,FrzTo H' r (er y)/\q y
def aL{Y:Type}{er:Y->D}{q:Y->Prop}{r:D}{H':ab}(y:Y)(h:FrzTo H' r (er y))(a:q y):Fin er q r H':=⟨y,h,a⟩
@[simp] theorem qy4(q:Int->Prop)(n:Int)(H':ab):Fin enc q (.v (.int .i64 n)) H'=q n:=by
 simp[Fin,qoD]
@[simp] theorem qvI(q:Bool->Prop)(n:Bool)(H':ab):Fin enc q (.v (.bool n)) H'=q n:=by
 refine propext ⟨λ⟨y,h1,h2⟩=>?_,λh=>⟨n, .same _,h⟩⟩;rw[qk1,qvD]at h1;cases h1;exact h2
@[simp] theorem qy3(q:ByteArray->Prop)(n:ByteArray)(H':ab):Fin enc q (.v (.string n)) H'=q n:=by
 refine propext ⟨λ⟨y,h1,h2⟩=>?_,λh=>⟨n, .same _,h⟩⟩;rw[qoC,qvD]at h1;cases h1;exact h2
def aq{X Y:Type}(cc:CC)(rs:List ai)(S:Nat->Spc)(A:fN X)(pre:X->Prop)(er:Y->D)(post:X->Y->Prop):Prop:=
 ∀x,pre x->vc S cc (wC rs λr H'=>Fin er (post x) r H') (dI (A.view x)) dm
theorem aY{P:Program}{S:Nat->Spc}{f:Nat}{im:List Nat}{cc:CC}{rs:List ai}{N:Nat}{X Y:Type}{A:fN X}{pre:X->Prop}{er:Y->D}{post:X->Y->Prop}
 (a:∀f,Tri dq P f (S f).pt) (h:BA P f im cc rs N) (b:∀x,(A.view x).length<=N) (c:aq cc rs S A pre er post):Tri dq P f (ax A pre er post).pt:=
 qh9 a h A.le b λx hp=>by
  refine zR cc _ _ (λe σ H h=>?_) (c x hp);cases e with
  |ex i=>exact h
  | _=>
    simp only[wC]at h ⊢;have key:∀(rs:List ai) (F G:List D->Prop),(∀ds,F ds->G ds)->zi rs σ H F->zi rs σ H G:=by
     intro rs
     induction rs with
     |nil=>simp_all
     | cons r rs j=>
       intro F G d h;cases r<;>grind [zi,LW]
    exact key rs _ _ (λds ⟨y,h1,h2⟩=>⟨_,h1,y,rfl,h2⟩) h
def ac{P:Program}{S:Nat->Spc}{f:Nat}{im:List Nat}{cc:CC}{rs:List ai}{N:Nat}{X Y:Type}{A:fN X}{pre:X->Prop}{er:Y->D}{post:X->Y->Prop}
 (a:∀f,Tri dq P f (S f).pt) (h:BA P f im cc rs N) (b:aq cc rs S A pre er post) (c:∀x,(A.view x).length<=N:=by exactλ_=>qF8 rfl):Tri dq P f (ax A pre er post).pt:=aY a h c b
def iz {P : Program} {f : Nat} {fn : Func} {c : Code} (h : P.funcs[f]? = some fn) (hn : (fn.name == "runtime.NumGoroutine") = false) (hb : fn.body = some c) : dH P f := by
 intro args w
 have hn' : ¬ fn.name = "runtime.NumGoroutine" := by grind
 simp_all [callFunc]
def qpR{P:Program}{f:Nat}{im:List Nat}{cc:CC}{rs:List ai}{N:Nat}(yH:P.follows .mixedOrders=true)
 (h : ((P.funcs[f]?).bind fun g => if g.name == "runtime.NumGoroutine" then none else g.body.bind fun c => (aG P im g.ntmps c).bind fun cc => (g.results.toList.mapM (fD P)).bind fun rs => some (g.ntmps, cc, rs)) = some (N, bI cc, rs)) : BA P f im cc rs N := by
 cases hf:P.funcs[f]? with
 |none=>grind
 | some fn=>
   rw[hf]at h;simp only[qGt]at h;split at h;grind
   ·rename_i hn;simp only[qF3,qGh,qH6]at h;obtain⟨c,hb,q,hq,r,hr,rfl,rfl,rfl⟩:=h;exact⟨yH,iz hf (by grind) hb,fn,c,hf,hb,rfl,hq,hr⟩
def a0:fN Unit:=⟨qsd,λ_=>[],qFu⟩
def a1(X:Type)[Cod X]:fN X:=⟨qsc,λx=>[enc x],qFt⟩
def a2(X Y:Type)[Cod X][Cod Y]:fN (X×Y):=⟨qsb,λx=>[enc x.1,enc x.2],qFs⟩
def a3(X Y Z:Type)[Cod X][Cod Y][Cod Z]:fN (X×Y×Z):=⟨qsa,λx=>[enc x.1,enc x.2.1,enc x.2.2],qFr⟩
def a4(X Y Z W:Type)[Cod X][Cod Y][Cod Z][Cod W]:fN (X×Y×Z×W):=⟨qr9,λx=>[enc x.1,enc x.2.1,enc x.2.2.1,enc x.2.2.2],qFq⟩
def aT{X:Type}(A:fN X):fN (List Int×X):=⟨λds=>match ds with| .tape L::r=>(A.dec r).map λx=>(L,x)|_=>none,λx=> .tape x.1::A.view x.2,λds x h=>by
 split at h
 ·simp only[qGe]at h;obtain⟨y,a,rfl⟩:=h;exact .cons (.same _) (A.le _ _ a)
 grind⟩
@[simp] theorem qDP:a0.dec []=some ():=i' rfl
@[simp] theorem qsD{X:Type}[Cod X](a:D):(a1 X).dec [a]=dec a:=i' rfl
@[simp] theorem qsC{X Y:Type}[Cod X][Cod Y](a b:D):(a2 X Y).dec [a,b]=(dec a).bind λx=>(dec b).bind λy=>some (x,y):=i' rfl
@[simp] theorem qDO{X Y Z:Type}[Cod X][Cod Y][Cod Z](a b c:D):(a3 X Y Z).dec [a,b,c]=(dec a).bind λx=>(dec b).bind λy=>(dec c).bind λz=>some (x,y,z):=i' rfl
@[simp] theorem qDM{X Y Z W:Type}[Cod X][Cod Y][Cod Z][Cod W](a b c d:D):(a4 X Y Z W).dec [a,b,c,d]=(dec a).bind λx=>(dec b).bind λy=>(dec c).bind λz=>(dec d).bind λw=>some (x,y,z,w):=i' rfl
@[simp] theorem qDK{X:Type}(A:fN X)(L:List Int)(r:List D):(aT A).dec (.tape L::r)=(A.dec r).map λx=>(L,x):=i' rfl
@[simp] theorem qAj(x:Unit):a0.view x=[]:=i' rfl
@[simp] theorem qAi{X:Type}[Cod X](x:X):(a1 X).view x=[enc x]:=i' rfl
@[simp] theorem qAh{X Y:Type}[Cod X][Cod Y](x:X)(y:Y):(a2 X Y).view (x,y)=[enc x,enc y]:=i' rfl
@[simp] theorem qAg{X Y Z:Type}[Cod X][Cod Y][Cod Z](x:X)(y:Y)(z:Z):(a3 X Y Z).view (x,y,z)=[enc x,enc y,enc z]:=i' rfl
@[simp] theorem qAf{X Y Z W:Type}[Cod X][Cod Y][Cod Z][Cod W](x:X)(y:Y)(z:Z)(w:W):(a4 X Y Z W).view (x,y,z,w)=[enc x,enc y,enc z,enc w]:=i' rfl
@[simp] theorem qAa{X:Type}(A:fN X)(L:List Int)(x:X):(aT A).view (L,x)= .tape L::A.view x:=i' rfl
attribute [simp] Cod.dec_enc
@[simp] theorem qCT(n:Int):dec (X:=Int) (.v (.int .i64 n))=some n:=i' rfl
@[simp] theorem qzy(n:Bool):dec (X:=Bool) (.v (.bool n))=some n:=i' rfl
@[simp] theorem qCR(n:ByteArray):dec (X:=ByteArray) (.v (.string n))=some n:=i' rfl
@[simp] theorem qCS{X:Type}[Cod X]:dec (X:=List X) (.v (.slice none 0 0))=some []:=i' rfl
@[simp] theorem qzx{X:Type}[Cod X](n:Nat)(es:List D):dec (X:=List X) (.list n es)=if n=Cod.wd X then es.mapM (dec (X:=X))else none:=i' rfl
attribute [simp] IN
@[simp] theorem qtf{X:Type}[Cod X](l:List X):l.mapM (dec (X:=X) ∘enc)=some l:=by
 have:=IN l;rwa [List.mapM_map]at this
def iA{Y Z:Type}[Cod Y][Cod Z](p:Y×Z):D:= .tup [enc p.1,enc p.2]
def qpT{Y Z W:Type}[Cod Y][Cod Z][Cod W](p:Y×Z×W):D:= .tup [enc p.1,enc p.2.1,enc p.2.2]
def WM(_:Unit):D:= .tup []
@[simp] theorem qEJ{Y Z:Type}[Cod Y][Cod Z](y:Y)(z:Z):iA (y,z)= .tup [enc y,enc z]:=i' rfl
@[simp] theorem qEI{Y Z W:Type}[Cod Y][Cod Z][Cod W](y:Y)(z:Z)(w:W):qpT (y,z,w)= .tup [enc y,enc z,enc w]:=i' rfl
@[simp] theorem qy6{Y Z:Type}[Cod Y][Cod Z](q:Y×Z->Prop)(a b:D)(H':ab):Fin iA q (.tup [a,b]) H'=∃y z,FrzTo H' a (enc y)/\FrzTo H' b (enc z)/\q (y,z):=by
 refine propext ⟨λ⟨⟨y,z⟩,h1,h2⟩=>?_,λ⟨y,z,h1,h2,h3⟩=>⟨(y,z),qol h1 h2,h3⟩⟩;cases h1 with
 |same=>exact⟨y,z, .same _, .same _,h2⟩
 |tup hl h=>exact⟨y,z,h 0 _ _ rfl rfl,h 1 _ _ rfl rfl,h2⟩
@[simp] theorem qy5{Y Z W:Type}[Cod Y][Cod Z][Cod W](q:Y×Z×W->Prop)(a b c:D)(H':ab):Fin qpT q (.tup [a,b,c]) H'=∃y z w,FrzTo H' a (enc y)/\FrzTo H' b (enc z)/\FrzTo H' c (enc w)/\q (y,z,w):=by
 refine propext ⟨λ⟨⟨y,z,w⟩,h1,h2⟩=>?_,λ⟨y,z,w,h1,h2,h3,h4⟩=>⟨(y,z,w),qok h1 h2 h3,h4⟩⟩;cases h1 with
 |same=>exact⟨y,z,w, .same _, .same _, .same _,h2⟩
 |tup hl h=>exact⟨y,z,w,h 0 _ _ rfl rfl,h 1 _ _ rfl rfl,h 2 _ _ rfl rfl,h2⟩
@[simp] theorem qEK(u:Unit):WM u= .tup []:=i' rfl
def sV:List (Nat×D)->Sg->Sg
 | [],σ=>σ
 |(t,d)::l,σ=>upd (sV l σ) t d
def gT:List (Nat×Res)->ab->ab
 | [],H=>H
 |(i,r)::l,H=>aj (gT l H) i (some r)
def qdz(σ:Sg):sV [] σ=σ:=i' rfl
@[simp] theorem qsy(H:ab):gT [] H=H:=i' rfl
@[simp] theorem qDI(i:Nat)(r:Res)(l:List (Nat×Res))(H:ab):gT ((i,r)::l) H=aj (gT l H) i (some r):=i' rfl
def xi(ks:List Nat)(σ a:Sg):Prop:=∀t∈ks,a t=σ t
def BT(hk:List Nat)(H H':ab):Prop:=∀i∈hk,H' i=H i
@[simp] theorem qBU(σ a:Sg):xi [] σ a=True:=by simp[xi]
@[simp] theorem qBV(t:Nat)(ks:List Nat)(σ a:Sg):xi (t::ks) σ a=(a t=σ t/\xi ks σ a):=by simp[xi]
@[simp] theorem qyF(σ a:ab):BT [] σ a=True:=by simp[BT]
@[simp] theorem qyG(t:Nat)(ks:List Nat)(σ a:ab):BT (t::ks) σ a=(a t=σ t/\BT ks σ a):=by simp[BT]
def PS(ks:List Nat)(σ:Sg)(t:Nat):jr ks σ t=if t∈ks then σ t else .any:=by
 induction ks with
 |nil=>rfl
 | cons s ks a=>
   rw[qrx];grind [upd]
theorem PU(ks:List Nat)(σ:ab)(t:Nat):js ks σ t=if t∈ks then σ t else none:=by
 induction ks with
 |nil=>simp
 | cons s ks a=>
   rw[qn5];grind [aj]
def qpj{σ b:Sg}{H H':ab}(h1:∀t,qbt (σ t) (b t))(h2:∀i r,H' i=some r->H i=some r\/isNilRow r):Wk σ H b H':=by
 intro E a w c;obtain⟨d,h,tp,j,k⟩:=c;have hm:=j.sub h2;exact⟨d,h,tp,hm.1,λt=>qpY (h1 t) (hm.2 _ _ (k t))⟩
theorem YT(d:D):qbt d d:=by simp
theorem Hj{a σ:Sg}{c H:ab}{ks hk:List Nat}{b:List (Nat×D)}{hp:List (Nat×Res)}(h1:nS b σ)(h2:xi ks a σ)(h3:uf hp H)(h4:BT hk c H):
 Wk σ H (sV b (jr ks a)) (gT hp (js hk c)):=by
 refine qpj (λt=>?_) (λi r=>?_)
 ·induction b with
  | nil=>
    rw[qdz,PS];split
    ·rename_i h;rw[<-h2 t h];simp
    simp
  | cons p b j=>
    obtain⟨s,d⟩:=p;simp only[sV,upd];grind [nS]
 ·induction hp with
  | nil=>
    rw[qsy,PU];grind [BT]
  | cons p hp j=>
    obtain⟨s,d⟩:=p;simp only[gT,aj];grind [uf]
def So(a:Sg)(b:ab)(ks hk:List Nat)(c:List (Nat×D))(hp:List (Nat×Res))(σ:Sg)(H:ab):Prop:=nS c σ/\xi ks a σ/\uf hp H/\BT hk b H
@[simp] theorem qz1(a:Sg)(b:ab)(ks hk:List Nat)(c:List (Nat×D))(hp:List (Nat×Res))(σ:Sg)(H:ab):So a b ks hk c hp σ H=(nS c σ/\xi ks a σ/\uf hp H/\BT hk b H):=i' rfl
def qfK{X:Type}(P:X->Prop)(B:X->Sg->ab->Prop)(m:X->Nat)(x:X)(K:Ex->Sg->ab->Prop):Ex->Sg->ab->Prop:=λe a H'=>match e with
 | .norm=>∃y,P y/\B y a H'/\m y<m x
 |e=>K e a H'
@[simp ↓] theorem qAu{X:Type}(P:X->Prop)(B:X->Sg->ab->Prop)(m:X->Nat)(x:X)(K:Ex->Sg->ab->Prop)(a:Sg)(H':ab):qfK P B m x K .norm a H'=∃y,P y/\B y a H'/\m y<m x:=i' rfl
@[simp ↓] theorem qAs{X:Type}(P:X->Prop)(B:X->Sg->ab->Prop)(m:X->Nat)(x:X)(K:Ex->Sg->ab->Prop)(i:Nat)(a:Sg)(H':ab):qfK P B m x K (.ex i) a H'=K (.ex i) a H':=i' rfl
@[simp ↓] theorem qAt{X:Type}(P:X->Prop)(B:X->Sg->ab->Prop)(m:X->Nat)(x:X)(K:Ex->Sg->ab->Prop)(a:Sg)(H':ab):qfK P B m x K .ret a H'=K .ret a H':=i' rfl
section
variable {S:Nat->Spc}{K:Ex->Sg->ab->Prop}{σ:Sg}{H:ab}
def qhX{X:Type}(ks hk:List Nat)(P:X->Prop)(a:X->List (Nat×D))(hp:X->List (Nat×Res))(m:X->Nat)(c:X){k:Nat}{b:CC}(h0:P c)(hs:nS (a c) σ)(hh:uf (hp c) H)
 (d:∀x,P x->vc S b (qfK P (λy=>So σ H ks hk (a y) (hp y)) m x K) (sV (a x) (jr ks σ)) (gT (hp x) (js hk H))):vc S (.loop k b) K σ H:=by
 rw[WV];refine⟨⟨X,P,λx=>sV (a x) (jr ks σ),λx=>gT (hp x) (js hk H),m⟩,⟨c,h0,Hj hs (λ_ _=>rfl) hh (λ_ _=>rfl)⟩,λx j=>zR b _ _ (λe l H' h=>?_) (d x j)⟩;cases e with
 | norm=>
   obtain⟨y,h1,h2,h3⟩:=h;exact⟨y,h1,Hj h2.1 h2.2.1 h2.2.2.1 h2.2.2.2,h3⟩
 |ex i=>exact h
 |ret=>exact h
def aA{X:Type}(ks hk:List Nat)(P:X->Prop)(a:X->List (Nat×D))(hp:X->List (Nat×Res))(m:X->Nat)(c:X){k:Nat}{b:CC}(h0:P c)
 (d:∀x,P x->vc S b (qfK P (λy=>So σ H ks hk (a y) (hp y)) m x K) (sV (a x) (jr ks σ)) (gT (hp x) (js hk H))) (hs:nS (a c) σ:=by simp) (hh:uf (hp c) H:=by simp):vc S (.loop k b) K σ H:=
 qhX ks hk P a hp m c h0 hs hh d
def qcQ(Q:Sg->ab->Prop)(K:Ex->Sg->ab->Prop):Ex->Sg->ab->Prop:=λe a H'=>match e with
 | .norm=>Q a H'
 |e=>K e a H'
@[simp ↓] theorem qBA(Q:Sg->ab->Prop)(a:Sg)(H':ab):qcQ Q K .norm a H'=Q a H':=i' rfl
@[simp ↓] theorem qBz(Q:Sg->ab->Prop)(a:Sg)(H':ab):qcQ Q K .ret a H'=K .ret a H':=i' rfl
def qcp(k:Nat)(a b:CC):CC:= .seq a (.cut k b)
def bh{X:Type}(ks hk:List Nat)(P:X->Prop)(d:X->List (Nat×D))(hp:X->List (Nat×Res)){k:Nat}{a b:CC}
 (j:vc S a (qcQ (λc H'=>∃x,P x/\So σ H ks hk (d x) (hp x) c H') K) σ H)
 (hb:∀x,P x->vc S b K (sV (d x) (jr ks σ)) (gT (hp x) (js hk H))):vc S (qcp k a b) K σ H:=by
 unfold qcp;rw[qfc];refine zR a _ _ (λe c H' h=>?_) j;cases e with
 | norm=>
   obtain⟨x,h1,h2⟩:=h;grind [So,WU,qpV,Hj]
 |ex i=>exact h
 |ret=>exact h
def wN(id i n c a:Nat)(body:CC)(b:Nat):CC:=
 .block id (.loop 0 (.seq (.reg [.op (some c) none (.cmp .lss (.tmp i) (.tmp n))]) (.seq (.ite (.tmp c) .skip (.exit id)) (.seq (.block a (.cut 0 body)) (.reg [.op (some b) none (.arith .add (.tmp i) (.const (.int .i64 1))), .op (some i) none (.mv (.tmp b))])))))
def qjh{X:Type}(id b i n:Nat)(len:Nat)(B:X->Sg->ab->Prop)(P:X->Prop)(k:Nat)(K:Ex->Sg->ab->Prop):Ex->Sg->ab->Prop:=λe a H'=>match e with
 | .norm=>a i= .v (.int .i64 k)/\a n= .v (.int .i64 len)/\∃y,P y/\B y a H'
 | .ex j=>if j=b then a i= .v (.int .i64 k)/\a n= .v (.int .i64 len)/\∃y,P y/\B y a H' else if j=id then K .norm a H' else K (.ex j) a H'
 | .ret=>K .ret a H'
@[simp ↓] theorem qA0{X:Type}(id b i n:Nat)(len:Nat)(B:X->Sg->ab->Prop)(P:X->Prop)(k:Nat)(a:Sg)(H':ab):qjh id b i n len B P k K .norm a H'=(a i= .v (.int .i64 k)/\a n= .v (.int .i64 len)/\∃y,P y/\B y a H'):=i' rfl
@[simp ↓] theorem qAY{X:Type}(id b i n:Nat)(len:Nat)(B:X->Sg->ab->Prop)(P:X->Prop)(k j:Nat)(a:Sg)(H':ab):qjh id b i n len B P k K (.ex j) a H'=(if j=b then a i= .v (.int .i64 k)/\a n= .v (.int .i64 len)/\∃y,P y/\B y a H' else if j=id then K .norm a H' else K (.ex j) a H'):=i' rfl
@[simp ↓] theorem qAZ{X:Type}(id b i n:Nat)(len:Nat)(B:X->Sg->ab->Prop)(P:X->Prop)(k:Nat)(a:Sg)(H':ab):qjh id b i n len B P k K .ret a H'=K .ret a H':=i' rfl
def Gn{t:Nat}{d:D} :∀{a:List (Nat×D)} {σ:Sg},(∀p∈a,p.1≠t)->nS a σ->nS a (upd σ t d)
 | [],_,_,_=>trivial
 | (s,e)::a,σ,h,hm=>by
  refine⟨?_,Gn (λp hp=>h p (by grind)) hm.2⟩;simp_all [upd]
def Tu{t:Nat}{d:D}{ks:List Nat}{a σ:Sg}(h:t∉ks)(hk:xi ks a σ):xi ks a (upd σ t d):=λs hs=>by
 have:s≠t:=λe=>h (e ▸hs)
 simp only[upd,this,if_false];exact hk s hs
theorem Yt{X:Type}(ks hk:List Nat)(len:Nat)(P:Nat->X->Prop)(q:X->List (Nat×D))(hp:X->List (Nat×Res))(w:X){id i n c u b:Nat}{body:CC}
 (hi:σ i= .v (.int .i64 0)) (hn:σ n= .v (.int .i64 len)) (hlen:(len:Int)<=9223372036854775807) (hd:([i,n,c,b] ++ks).Nodup) (J:∀x,∀p∈q x,p.1∉ [i,n,c,b])
 (h0:P 0 w) (hs:nS (q w) σ) (hh:uf (hp w) H)
 (Y:∀k x,k<len->P k x->vc S body (qjh id u i n len (λy=>So σ H ks hk (q y) (hp y)) (P (k+1)) k K) (sV ((i, .v (.int .i64 k))::(n, .v (.int .i64 len))::q x) (jr ks σ)) (gT (hp x) (js hk H)))
 (he:∀x,P len x->K .norm (upd (sV ((i, .v (.int .i64 len))::(n, .v (.int .i64 len))::q x) (jr ks σ)) c (.v (.bool false))) (gT (hp x) (js hk H))):vc S (wN id i n c u body b) K σ H:=by
 have ne:i≠n/\i≠c/\i≠b/\n≠c/\n≠b/\c≠b/\i∉ks/\n∉ks/\c∉ks/\b∉ks:=by
  grind
 obtain⟨Q,Z,n3,n4,n5,n6,m1,m2,m3,m4⟩:=ne;have L:∀x t,t∈ [i,n,c,b]->∀p∈q x,p.1≠t:=λx t ht p hp e=>J x p hp (e ▸ht)
 let st:Nat×X->Sg:=λx=>sV ((i, .v (.int .i64 x.1))::(n, .v (.int .i64 len))::q x.2) (jr ks σ)
 let A:Nat×X->ab:=λx=>gT (hp x.2) (js hk H)
 have r:∀(k:Nat) (y:X) (a:Sg) (H':ab),a i= .v (.int .i64 k)->a n= .v (.int .i64 len)->So σ H ks hk (q y) (hp y) a H'->Wk a H' (st (k,y)) (A (k,y)):=by
  intro k y a H' I U ⟨b1,b2,b3,b4⟩;grind [nS,Hj,YT]
 unfold wN;rw[WW,WV];refine⟨⟨Nat×X,λx=>x.1<=len/\P x.1 x.2,st,A,λx=>len -x.1⟩,⟨(0,w),⟨qGr _,h0⟩,r 0 w σ H hi hn ⟨hs,λ_ _=>rfl,hh,λ_ _=>rfl⟩⟩,?_⟩;rintro⟨k,x⟩ ⟨M,W⟩;have si:st (k,x) i= .v (.int .i64 k):=by simp[st,sV,upd]
 have sN:st (k,x) n= .v (.int .i64 len):=by
  have:¬n=i:=λe=>Q e.symm
  simp[st,sV,upd,this]
 let C:qsN:=⟨Nat×X,λx=>x.1<=len/\P x.1 x.2,st,A,λx=>len -x.1⟩
 change vc S _ (qgG C (k,x) (qho id K)) (st (k,x)) (A (k,x));rw[qfc,qpU,qrv,qws];simp only[qh1,si,sN,qsi,true_and,qlx,qsj];rw[qpM,WU,qfc,qv1];have sc:ev (fK (st (k,x)) (some c) (.v (.bool (decide ((k:Int)<len))))) (.tmp c)= .v (.bool (decide ((k:Int)<len))):=by simp[upd]
 rw[sc,qrY];refine⟨λN=>?_,λO=>?_⟩
 ·have E:k < len:=by simpa using N
  rw[qrU,WU,qfc,WW,qpV];refine⟨st (k,x),A (k,x),qpj (λt=>?_) (λ_ _ h=> .inl h),?_⟩
  ·rw[qb2,qt0];split
   ·rename_i e;subst e;have I:st (k,x) t= .any:=by
     have hsl:∀(l:List (Nat×D)),(∀p∈l,p.1≠t)->sV l (jr ks σ) t= .any:=by
      intro l
      induction l with
      |nil=>intro _;rw[qdz,PS,if_neg m3]
      | cons p l ih=>
        obtain⟨s,d⟩:=p;intro h;have:¬t=s:=λe=>h (s,d) (by simp) e.symm
        simp only[sV,upd,this,if_false];exact ih λp hp=>h p (by simp[hp])
     have h1:¬t=i:=λe=>Z e.symm
     have h2:¬t=n:=λe=>n4 e.symm
     simp only[st,sV,upd,h1,h2,if_false];exact hsl _ (L x t (by simp))
    rw[I];exact trivial
   ·exact YT _
  ·refine zR body _ _ (λe a H' h=>?_) (Y k x E W);have tD:∀a H',(a i= .v (.int .i64 k)/\a n= .v (.int .i64 len)/\∃y,P (k+1) y/\So σ H ks hk (q y) (hp y) a H')->
    qcq S (.reg [.op (some b) none (.arith .add (.tmp i) (.const (.int .i64 1))), .op (some i) none (.mv (.tmp b))]) (qgG C (k,x) (qho id K)) .norm a H':=by
    intro a H' ⟨I,U,y,hy,hb⟩;rw[WU,qpU,qrv,qoU];simp only[qh1,qm6,qtY,I,qlO,qn7,true_and,qhr,InR];refine⟨by omega,?_⟩;rw[qrv,qC8];dsimp only;rw[qpM];simp only[qh1,qb2];rw[qrX];refine⟨(k+1,y),⟨by show k+1<=len;omega,hy⟩,r (k+1) y _ _ ?_ ?_ ?_,by show len - (k+1)<len -k;omega⟩
    ·simp[upd]
    ·have h1:¬n=i:=λe=>Q e.symm
     simp[upd,h1,n5,U]
    ·exact⟨Gn (L y i (by simp)) (Gn (L y b (by simp)) hb.1),Tu m1 (Tu m4 hb.2.1),hb.2.2.1,hb.2.2.2⟩
   cases e with
   |norm=>rw[qr0];exact tD a H' h
   | ret=>
     rw[qk6,qrV,qrW,qk6];exact h
   | ex j=>
     rw[qdn];have h:if j=u then a i= .v (.int .i64 k)/\a n= .v (.int .i64 len)/\∃y,P (k+1) y/\So σ H ks hk (q y) (hp y) a H' else if j=id then K .norm a H' else K (.ex j) a H':=h
     split
     ·rename_i e;rw[if_pos e]at h;exact tD a H' h
     ·rename_i e;rw[if_neg e]at h;rw[qk4,qk5,qdn];exact h
 ·have F:k=len:=by
   have:¬((k:Int)<len):=by simpa using O
   have:k<=len:=M;omega
  subst F;rw[qrZ,qk4,qk5,qdn,if_pos rfl];have:decide ((k:Int)<k)=false:=by simp
  rw[this];exact he x W
theorem ah{X:Type}(ks hk:List Nat)(len:Nat)(P:Nat->X->Prop)(a:X->List (Nat×D))(hp:X->List (Nat×Res))(d:X){id i n c b h:Nat}{body:CC}
 (h0:P 0 d)
 (l:∀k x,k<len->P k x->vc S body (qjh id b i n len (λy=>So σ H ks hk (a y) (hp y)) (P (k+1)) k K) (sV ((i, .v (.int .i64 k))::(n, .v (.int .i64 len))::a x) (jr ks σ)) (gT (hp x) (js hk H)))
 (he:∀x,P len x->K .norm (upd (sV ((i, .v (.int .i64 len))::(n, .v (.int .i64 len))::a x) (jr ks σ)) c (.v (.bool false))) (gT (hp x) (js hk H))) (hi:σ i= .v (.int .i64 0):=by simp) (hn:σ n= .v (.int .i64 len):=by simp) (hlen:(len:Int)<=9223372036854775807:=by omega) (q:([i,n,c,h] ++ks).Nodup:=by simp) (j:∀x,∀p∈a x,p.1∉ [i,n,c,h]:=by simp) (hs:nS (a d) σ:=by simp) (hh:uf (hp d) H:=by simp):vc S (wN id i n c b body h) K σ H:=
 Yt ks hk len P a hp d hi hn hlen q j h0 hs hh l he
end
end
section
open Cod (enc dec)
theorem cD{X:Type}[Cod X]{x y:X}(h:enc x=enc y):x=y:=by
 have:=congrArg (dec (X:=X)) h;simpa using this
@[simp] theorem qCF{X:Type}[Cod X](l a:List X):(l.map enc=a.map enc)=(l=a):=by
 refine propext ⟨λh=>?_,λh=>h ▸rfl⟩
 induction l generalizing a with
 | nil=>cases a with
   |nil=>rfl
   |cons y a=>simp at h
 | cons x l b=>cases a with
   |nil=>simp at h
   | cons y a=>
     simp only[qGG,qGF]at h;rw[cD h.1,b _ h.2]
def ki{X:Type}[Cod X](l:List X)(i:Nat)(x:X):(l.map enc).set i (enc x)=(l.set i x).map enc:=by
 rw[qIk]
def Xk{X:Type}[Cod X](l:List X)(x:X):l.map enc++ [enc x]=(l++ [x]).map enc:=by simp
def fq{X:Type}[Cod X]{H:ab}{id n:Nat}{v:Value}{l:List X}(el:Nat)(h:H id=some (.row v el n (l.map enc)))(hn:n=Cod.wd X:=by rfl):FrzTo H (.own id v) (.list n (l.map enc)):=by
 subst hn;exact qg5 h
inductive Ky where
 |e
 |o (k:Ky)
 |i (k:Ky)
deriving DecidableEq
inductive Tr where
 |nil
 |nd (d:D) (l r:Tr)
def Tr.get:Tr->Ky->D
 | .nil,_=> .any
 | .nd d _ _, .e=>d
 | .nd _ l _, .o k=>l.get k
 | .nd _ _ r, .i k=>r.get k
def Tr.set:Tr->Ky->D->Tr
 | .nil, .e,x=> .nd x .nil .nil
 | .nil, .o k,x=> .nd .any (Tr.set .nil k x) .nil
 | .nil, .i k,x=> .nd .any .nil (Tr.set .nil k x)
 | .nd _ l r, .e,x=> .nd x l r
 | .nd d l r, .o k,x=> .nd d (l.set k x) r
 | .nd d l r, .i k,x=> .nd d l (r.set k x)
noncomputable def Tr.frz(id:Nat)(x:Value)(L:D):Tr->Tr
 | .nil=> .nil
 | .nd d l r=> .nd (Ne id x L d) (l.frz id x L) (r.frz id x L)
def qth:Nat->Nat->Ky
 | 0,_=> .e
 |f+1,n=>if n=0 then .e else if(n -1) % 2=0 then .o (qth f ((n -1) /2))else .i (qth f ((n -1) /2))
def ky(n:Nat):Ky:=qth n n
def Ky.val:Ky->Nat
 | .e=>0
 | .o k=>2*k.val+1
 | .i k=>2*k.val+2
def NH:∀(f n:Nat),n<=f->(qth f n).val=n
 | 0,n,h=>by
   have:n=0:=by omega
   subst this;rfl
 | f+1,n,h=>by
   unfold qth;split
   ·rename_i e;subst e;rfl
   ·split
    ·simp only[Ky.val];rw[NH f _ (by omega)];omega
    ·simp only[Ky.val];rw[NH f _ (by omega)];omega
def qkd{m n:Nat}(h:ky m=ky n):m=n:=by
 have h1:=NH m m (qGb _);have h2:=NH n n (qGb _);unfold ky at h;rw[h]at h1;exact h1.symm.trans h2
def get_set:∀(T:Tr) (k j:Ky) (x:D),(T.set k x).get j=if j=k then x else T.get j
 | .nil, .e,j,x=>by cases j<;>simp[Tr.set,Tr.get]
 | .nil, .o k,j,x=>by
   have a:=λj=>get_set .nil k j x
   cases j<;>simp[Tr.set,Tr.get,a]
 | .nil, .i k,j,x=>by
   have a:=λj=>get_set .nil k j x
   cases j<;>simp[Tr.set,Tr.get,a]
 | .nd d l r, .e,j,x=>by cases j<;>simp[Tr.set,Tr.get]
 | .nd d l r, .o k,j,x=>by
   have a:=λj=>get_set l k j x
   cases j<;>simp[Tr.set,Tr.get,a]
 | .nd d l r, .i k,j,x=>by
   have a:=λj=>get_set r k j x
   cases j<;>simp[Tr.set,Tr.get,a]
def Nd(T:Tr):Sg:=λt=>T.get (ky t)
@[simp] theorem qyU(T:Tr)(t:Nat):Nd T t=T.get (ky t):=i' rfl
@[simp] theorem qtZ(T:Tr)(t:Nat)(d:D):upd (Nd T) t d=Nd (T.set (ky t) d):=by
 funext s;simp only[upd,Nd,get_set];by_cases h:s=t
 ·simp[h]
 ·have:¬ky s=ky t:=λe=>h (qkd e)
  simp[h,this]
def qkz:Nd .nil=λ_=> .any:=by
 funext t;simp[Nd,Tr.get]
@[simp] theorem qry(a:Sg):jr [] a=Nd .nil:=by rw[qkz];rfl
@[simp] theorem qn6(t:Nat)(l:List Nat)(a:Sg):jr (t::l) a=upd (jr l a) t (a t):=i' rfl
@[simp] theorem qDJ(a:Sg):sV [] a=a:=i' rfl
@[simp] theorem qAb(t:Nat)(d:D)(l:List (Nat×D))(a:Sg):sV ((t,d)::l) a=upd (sV l a) t d:=i' rfl
def Mb:Nat->List D->Tr
 | _, []=> .nil
 |n,d::l=>(Mb (n+1) l).set (ky n) d
@[simp] theorem qtk(n:Nat):Mb n []= .nil:=i' rfl
@[simp] theorem qrD(n:Nat)(d:D)(l:List D):Mb n (d::l)=(Mb (n+1) l).set (ky n) d:=i' rfl
def Tv:∀(l:List D) (n t:Nat),(Mb n l).get (ky t)=if n<=t then(l[t -n]?).getD .any else .any
 | [],n,t=>by simp[Mb,Tr.get]
 | d::l,n,t=>by
   rw[Mb,get_set,Tv l (n+1) t];by_cases h:t=n
   ·subst h;simp
   ·have:¬ky t=ky n:=λe=>h (qkd e)
    rw[if_neg this];by_cases h2:n+1<=t
    ·have h3:n<=t:=by omega
     rw[if_pos h2,if_pos h3];have:t -n=(t - (n+1)) +1:=by omega
     rw[this];simp
    ·have h3:¬n<=t:=by omega
     rw[if_neg h2,if_neg h3]
@[simp] theorem qB6(l:List D):dI l=Nd (Mb 0 l):=by
 funext t;simp[dI,Nd,Tv]
@[simp] theorem qEC(id:Nat)(x:Value)(L:D)(T:Tr):qg7 id x L (Nd T)=Nd (T.frz id x L):=by
 funext t;simp only[qg7,Nd];generalize ky t=k
 induction T generalizing k with
 |nil=>simp[Tr.frz,Tr.get,Ne]
 | nd d l r a b=>
   cases k with
   |e=>rfl
   |o k=>exact a k
   |i k=>exact b k
@[simp] theorem qvG(id:Nat)(x:Value)(L:D):Tr.nil.frz id x L= .nil:=i' rfl
@[simp] theorem qyY(id:Nat)(x:Value)(L d:D)(l r:Tr):(Tr.nd d l r).frz id x L= .nd (Ne id x L d) (l.frz id x L) (r.frz id x L):=i' rfl
@[simp] theorem qFf(k:Ky):Tr.nil.get k= .any:=by simp[Tr.get]
@[simp] theorem qFh(d:D)(l r:Tr):(Tr.nd d l r).get .e=d:=i' rfl
@[simp] theorem qFe(d:D)(l r:Tr)(k:Ky):(Tr.nd d l r).get (.o k)=l.get k:=i' rfl
@[simp] theorem qFg(d:D)(l r:Tr)(k:Ky):(Tr.nd d l r).get (.i k)=r.get k:=i' rfl
@[simp] theorem qD2(x:D):Tr.nil.set .e x= .nd x .nil .nil:=i' rfl
@[simp] theorem qD0(k:Ky)(x:D):Tr.nil.set (.o k) x= .nd .any (Tr.set .nil k x) .nil:=i' rfl
@[simp] theorem qD1(k:Ky)(x:D):Tr.nil.set (.i k) x= .nd .any .nil (Tr.set .nil k x):=i' rfl
@[simp] theorem qFd(d:D)(l r:Tr)(x:D):(Tr.nd d l r).set .e x= .nd x l r:=i' rfl
@[simp] theorem qFb(d:D)(l r:Tr)(k:Ky)(x:D):(Tr.nd d l r).set (.o k) x= .nd d (l.set k x) r:=i' rfl
@[simp] theorem qFc(d:D)(l r:Tr)(k:Ky)(x:D):(Tr.nd d l r).set (.i k) x= .nd d l (r.set k x):=i' rfl
inductive KL where
 |n
 |c (a:Nat) (k:Ky) (l:KL)
def qBN:Nat->Nat->KL
 | 0,_=> .n
 |n+1,a=> .c a (qth a a) (qBN n (a+1))
def qyC:KL->Prop
 | .n=>True
 | .c a k l=>ky a=k/\qyC l
def qBM(n:Nat):∀a,qyC (qBN n a):=by induction n<;>simp_all [qBN,qyC,ky]
set_option maxRecDepth 100000 in
@[simp] def qFx:=Eq.mp (by conv=>lhs;(conv=>arg 1;reduce);simp only[qyC]) (qBM 420 0)
@[simp] theorem qyo(H:ab)(i:Nat):bO [] H i=H i:=i' rfl
@[simp] theorem qu2(t i:Nat):Gu (some t) i=(Wu i=Wu t):=i' rfl
@[simp] theorem qu3(i:Nat):Gu none i=False:=i' rfl
@[simp] theorem qCa{i:Nat}(h:i< 990):Wu i=i:=by unfold Wu;rw[if_neg (by omega)]
@[simp] theorem qyq(d:Option Nat)(g:Option (Nat×Bool))(c:COp)(l:List CI)(H:ab)(i:Nat):bO (.op d g c::l) H i=if Gu (CI.op d g c).wid i then none else bO l H i:=i' rfl
@[simp] theorem qyp(a b:Nat)(l:List CI)(H:ab)(i:Nat):bO (.frz a b::l) H i=H i:=i' rfl
@[simp] theorem qAq(a:Option Nat)(b:Option (Nat×Bool))(x:Operand):(CI.op a b (.mv x)).wid=a:=i' rfl
@[simp] theorem qtS(a:Option Nat)(b:Option (Nat×Bool))(c:Operand)(x:Operand)(y:Operand):(CI.op a b (.pick c x y)).wid=a:=i' rfl
@[simp] theorem qsY(a:Option Nat)(b:Option (Nat×Bool))(el:Nat)(z:List Value):(CI.op a b (.alloc el z)).wid=a:=i' rfl
@[simp] theorem qsW(a:Option Nat)(b:Option (Nat×Bool))(z:List Value)(parts:List (Nat×Nat×Operand)):(CI.op a b (.build z parts)).wid=a:=i' rfl
@[simp] theorem qqf(a:Option Nat)(b:Option (Nat×Bool))(el:Nat)(n:Nat)(parts:List Operand):(CI.op a b (.bslice el n parts)).wid=a:=i' rfl
@[simp] theorem qtT(a:Option Nat)(b:Option (Nat×Bool))(agg:Bool)(sz:Nat)(x:Operand):(CI.op a b (.load agg sz x)).wid=a:=i' rfl
@[simp] theorem qpk(d:Option Nat)(g:Option (Nat×Bool))(r sz:Nat)(x y:Operand):(CI.op d g (.store (some r) sz x y)).wid=some r:=i' rfl
@[simp] theorem qsS(a:Option Nat)(b:Option (Nat×Bool))(x:Operand):(CI.op a b (.nilck x)).wid=a:=i' rfl
@[simp] theorem qsX(a:Option Nat)(b:Option (Nat×Bool))(op:BinOp)(x:Operand)(y:Operand):(CI.op a b (.arith op x y)).wid=a:=i' rfl
@[simp] theorem qxg(a:Option Nat)(b:Option (Nat×Bool))(op:BinOp)(x:Operand)(y:Operand):(CI.op a b (.cmp op x y)).wid=a:=i' rfl
@[simp] theorem qxf(a:Option Nat)(b:Option (Nat×Bool))(neg:Bool)(agg:Bool)(ks:List qbE)(x:Operand)(y:Operand):(CI.op a b (.eql neg agg ks x y)).wid=a:=i' rfl
@[simp] theorem qxc(a:Option Nat)(b:Option (Nat×Bool))(x:Operand):(CI.op a b (.not x)).wid=a:=i' rfl
@[simp] theorem qsR(a:Option Nat)(b:Option (Nat×Bool))(n:Nat)(x:Operand)(lo:Option Operand)(hi:Option Operand):(CI.op a b (.slice n x lo hi)).wid=a:=i' rfl
@[simp] theorem qqe(a:Option Nat)(b:Option (Nat×Bool))(x:Operand)(lo:Option Operand)(hi:Option Operand):(CI.op a b (.sslice x lo hi)).wid=a:=i' rfl
@[simp] theorem qsU(a:Option Nat)(b:Option (Nat×Bool))(off:Nat)(x:Operand):(CI.op a b (.faddr off x)).wid=a:=i' rfl
@[simp] theorem qsT(a:Option Nat)(b:Option (Nat×Bool))(n:Nat)(x:Operand)(i:Operand):(CI.op a b (.iaddr n x i)).wid=a:=i' rfl
@[simp] theorem qxe(a:Option Nat)(b:Option (Nat×Bool))(x:Operand)(i:Nat):(CI.op a b (.ext x i)).wid=a:=i' rfl
@[simp] theorem qxd(a:Option Nat)(b:Option (Nat×Bool))(x:Operand):(CI.op a b (.len x)).wid=a:=i' rfl
@[simp] theorem qtR(a:Option Nat)(b:Option (Nat×Bool))(x:Operand):(CI.op a b (.slen x)).wid=a:=i' rfl
@[simp] theorem qAr(a:Option Nat)(b:Option (Nat×Bool))(mx:Bool)(xs:List Operand):(CI.op a b (.mm mx xs)).wid=a:=i' rfl
@[simp] theorem qmG(d:Option Nat)(g:Option (Nat×Bool))(r el n b:Nat)(x y:Operand):(CI.op d g (.append (some r) el n b x y)).wid=some r:=i' rfl
@[simp] theorem qtU(a:Option Nat)(b:Option (Nat×Bool))(f:Nat)(args:List Operand):(CI.op a b (.call f args)).wid=a:=i' rfl
@[simp] theorem qsV(a:Option Nat)(b:Option (Nat×Bool))(r f:Nat)(args:List Operand):(CI.op a b (.callb r f args)).wid=some r:=i' rfl
variable {dq:Prop}
def qq8(s t:Spc):Spc:= .gen (λd ds H K=>s.pt d ds H K\/t.pt d ds H K) λd ds H K a hk h=>h.elim (λh=> .inl (s.mono d ds H K a hk h)) (λh=> .inr (t.mono d ds H K a hk h))
@[simp] theorem qBb(s t:Spc)(d:Nat)(ds:List D)(H:ab)(K:D->ab->Prop):(qq8 s t).pt d ds H K=(s.pt d ds H K\/t.pt d ds H K):=i' rfl
def Om{P:Program}{f:Nat}{s t:Spc}(h1:Tri dq P f s.pt)(h2:Tri dq P f t.pt):Tri dq P f (qq8 s t).pt:=λO tp w vs ds H d K a b c e g h=>h.elim (λh=>h1 O tp w vs ds H d K a b c e g h) (λh=>h2 O tp w vs ds H d K a b c e g h)
section
variable {X Y:Type}[Cod Y]
def qCs(A:fN X)(pre:X->Prop)(post:X->List Y->Prop)(el n:Nat):PT:=λd ds H K=>gK (A.dec ds) λx=>pre x/\∀v l,post x l->K (.own d v) (aj H d (some (.row v el n (l.map enc))))
def qB4(A:fN X)(pre:X->List Y->Prop)(post:X->List Y->List Y->Prop)(el n:Nat):PT:=λd ds H K=>∃id v l a x,ds= .own id v::a/\A.dec a=some x/\H id=some (.row v el n (l.map enc))/\pre x l/\
 ∀v' b,post x l b->K (.own id v') (aj H id (some (.row v' el n (b.map enc))))
def qBY(A:fN X)(pre:X->List Y->Prop)(post:X->List Y->List Y->Prop)(el n:Nat):PT:=λd ds H K=>∃id v l a x,ds= .own id v::a/\A.dec a=some x/\H id=some (.row v el n (l.map enc))/\pre x l/\
 ∀b,post x l b->K (.tup []) (aj H id (some (.row v el n (b.map enc))))
def qgl{o:Option X}{k a:X->Prop}(h:∀x,k x->a x)(ho:gK o k):gK o a:=by
 cases o<;>simp_all
def qor(A:fN X)(pre:X->Prop)(post:X->List Y->Prop)(el n:Nat):qq (qCs A pre post el n):=λd ds H K a hk h=>qgl (λx h=>⟨h.1,λv l hp=>hk _ _ (h.2 v l hp)⟩) h
def qod(A:fN X)(pre:X->List Y->Prop)(post:X->List Y->List Y->Prop)(el n:Nat):qq (qB4 A pre post el n):=λd ds H K c hk ⟨id,v,l,a,x,h1,h2,h3,h4,h5⟩=>⟨id,v,l,a,x,h1,h2,h3,h4,λv' b hp=>hk _ _ (h5 v' b hp)⟩
def qn9(A:fN X)(pre:X->List Y->Prop)(post:X->List Y->List Y->Prop)(el n:Nat):qq (qBY A pre post el n):=λd ds H K c hk ⟨id,v,l,a,x,h1,h2,h3,h4,h5⟩=>⟨id,v,l,a,x,h1,h2,h3,h4,λb hp=>hk _ _ (h5 b hp)⟩
def qtq(A:fN X)(pre:X->Prop)(post:X->List Y->Prop)(el n:Nat):Spc:= .gen _ (qor A pre post el n)
def qu0(A:fN X)(pre:X->List Y->Prop)(post:X->List Y->List Y->Prop)(el n:Nat):Spc:= .gen _ (qod A pre post el n)
def qti(A:fN X)(pre:X->List Y->Prop)(post:X->List Y->List Y->Prop)(el n:Nat):Spc:= .gen _ (qn9 A pre post el n)
@[simp] theorem qrI(A:fN X)(pre:X->Prop)(post:X->List Y->Prop)(el n:Nat)(d:Nat)(ds:List D)(H:ab)(K:D->ab->Prop):(qtq A pre post el n).pt d ds H K=gK (A.dec ds) λx=>pre x/\∀v l,post x l->K (.own d v) (aj H d (some (.row v el n (l.map enc)))):=i' rfl
def qyR(A:fN X)(pre:X->List Y->Prop)(post:X->List Y->List Y->Prop)(el n id:Nat)(v:Value)(ds:List D)(r:Option Res)(H:ab)(K:D->ab->Prop):Prop:=∃l,r=some (.row v el n (l.map enc))/\gK (A.dec ds) λx=>pre x l/\∀v' a,post x l a->K (.own id v') (aj H id (some (.row v' el n (a.map enc))))
def qyO(A:fN X)(pre:X->List Y->Prop)(post:X->List Y->List Y->Prop)(el n id:Nat)(v:Value)(ds:List D)(r:Option Res)(H:ab)(K:D->ab->Prop):Prop:=∃l,r=some (.row v el n (l.map enc))/\gK (A.dec ds) λx=>pre x l/\∀a,post x l a->K (.tup []) (aj H id (some (.row v el n (a.map enc))))
@[congr] theorem qB3{A:fN X}{pre:X->List Y->Prop}{post:X->List Y->List Y->Prop}{el n id:Nat}{v:Value}{ds a:List D}{r r':Option Res}{H:ab}{K:D->ab->Prop}(h1:ds=a)(h2:r=r'):qyR A pre post el n id v ds r H K=qyR A pre post el n id v a r' H K:=by grind
@[congr] theorem qBX{A:fN X}{pre:X->List Y->Prop}{post:X->List Y->List Y->Prop}{el n id:Nat}{v:Value}{ds a:List D}{r r':Option Res}{H:ab}{K:D->ab->Prop}(h1:ds=a)(h2:r=r'):qyO A pre post el n id v ds r H K=qyO A pre post el n id v a r' H K:=by grind
@[simp] theorem qB5(A:fN X)(pre:X->List Y->Prop)(post:X->List Y->List Y->Prop)(el n:Nat)(d i:Nat)(v:Value)(ds:List D)(H:ab)(K:D->ab->Prop):(qu0 A pre post el n).pt d (.own i v::ds) H K=qyR A pre post el n i v ds (H i) H K:=by
 refine propext ⟨λh=>?_,λh=>?_⟩
 ·obtain⟨id,v,l,b,x,h1,h2,h3,h4,h5⟩:=h;cases h1;refine⟨l,h3,?_⟩;rw[h2];exact⟨h4,h5⟩
 ·obtain⟨l,h1,h2⟩:=h;cases a:A.dec ds with
  |none=>rw[a]at h2;exact h2.elim
  |some x=>rw[a]at h2;exact⟨i,v,l,ds,x,rfl,a,h1,h2.1,h2.2⟩
@[simp] theorem qBZ(A:fN X)(pre:X->List Y->Prop)(post:X->List Y->List Y->Prop)(el n:Nat)(d i:Nat)(v:Value)(ds:List D)(H:ab)(K:D->ab->Prop):(qti A pre post el n).pt d (.own i v::ds) H K=qyO A pre post el n i v ds (H i) H K:=by
 refine propext ⟨λh=>?_,λh=>?_⟩
 ·obtain⟨id,v,l,b,x,h1,h2,h3,h4,h5⟩:=h;cases h1;refine⟨l,h3,?_⟩;rw[h2];exact⟨h4,h5⟩
 ·obtain⟨l,h1,h2⟩:=h;cases a:A.dec ds with
  |none=>rw[a]at h2;exact h2.elim
  |some x=>rw[a]at h2;exact⟨i,v,l,ds,x,rfl,a,h1,h2.1,h2.2⟩
@[simp] theorem qEy(A:fN X)(pre:X->List Y->Prop)(post:X->List Y->List Y->Prop)(el n id:Nat)(v:Value)(ds:List D)(l:List Y)(H:ab)(K:D->ab->Prop):qyR A pre post el n id v ds (some (.row v el n (l.map enc))) H K=gK (A.dec ds) λx=>pre x l/\∀v' a,post x l a->K (.own id v') (aj H id (some (.row v' el n (a.map enc)))):=by
 refine propext ⟨λ⟨a,h1,h2⟩=>?_,λh=>⟨l,rfl,h⟩⟩;simp at h1;subst h1;exact h2
@[simp] theorem qEw(A:fN X)(pre:X->List Y->Prop)(post:X->List Y->List Y->Prop)(el n id:Nat)(v:Value)(ds:List D)(l:List Y)(H:ab)(K:D->ab->Prop):qyO A pre post el n id v ds (some (.row v el n (l.map enc))) H K=gK (A.dec ds) λx=>pre x l/\∀a,post x l a->K (.tup []) (aj H id (some (.row v el n (a.map enc)))):=by
 refine propext ⟨λ⟨a,h1,h2⟩=>?_,λh=>⟨l,rfl,h⟩⟩;simp at h1;subst h1;exact h2
def qph(el n:Nat)(q:List Y->Prop)(r:D)(H':ab):Prop:=∃j v l,r= .own j v/\H' j=some (.row v el n (l.map enc))/\q l
def dM{el n:Nat}{q:List Y->Prop}{j:Nat}{v:Value}{H':ab}(l:List Y)(h:H' j=some (.row v el n (l.map enc)))(a:q l):qph el n q (.own j v) H':=⟨j,v,l,rfl,h,a⟩
def qbr(cc:CC)(rs:List ai)(S:Nat->Spc)(A:fN X)(pre:X->Prop)(post:X->List Y->Prop)(el n:Nat):Prop:=
 ∀x,pre x->vc S cc (wC rs λr H'=>qph el n (post x) r H') (dI (A.view x)) dm
def Xm(cc:CC)(rs:List ai)(S:Nat->Spc)(A:fN X)(pre:X->List Y->Prop)(post:X->List Y->List Y->Prop)(el n:Nat):Prop:=
 ∀v l x,pre x l->vc S cc (wC rs λr H'=>qph el n (post x l) r H') (dI (.own 0 v::A.view x)) (aj dm 0 (some (.row v el n (l.map enc))))
variable {P:Program}{S:Nat->Spc}{f:Nat}{im:List Nat}{cc:CC}{rs:List ai}{N:Nat}{A:fN X}{el n:Nat}
theorem DZ{pre:X->Prop}{post:X->List Y->Prop}(p:∀f,Tri dq P f (S f).pt)(h:BA P f im cc rs N)(y:∀x,(A.view x).length<=N)(t:qbr cc rs S A pre post el n):Tri dq P f (qtq A pre post el n).pt:=by
 obtain⟨yH,enter,fn,code,h1,h2,h3,h4,h5⟩:=h;refine nU p yH h1 h2 enter h3 h4 h5 ?_;intro ds H d K b;rw[qrI]at b;cases c:A.dec ds with
 |none=>simp_all
 | some x=>
   rw[c]at b;obtain⟨hp,u⟩:=b;have hl:=A.le ds x c;refine⟨by rw[hl.1];grind,A.view x,dm,id,hl,λi r h=>by simp at h,λi j r s h=>by simp,_,t x hp,?_⟩;rintro r H' ⟨j,v,l,rfl,C,a⟩;refine⟨.own d v,dm,aj H d (some (.row v el n (l.map enc))),λi=>if i=d then some j else none, .own _ _ _,λj q h=>by simp at h,u v l a,λi s hi=>?_,λi E k s q hi w F I=>?_⟩
   ·by_cases e:i=d
    all_goals simp_all
   grind
theorem FN{pre:X->List Y->Prop}{post:X->List Y->List Y->Prop}(u:∀f,Tri dq P f (S f).pt)(h:BA P f im cc rs N)(I:∀x,(A.view x).length+1<=N)(w:Xm cc rs S A pre post el n):Tri dq P f (qu0 A pre post el n).pt:=by
 obtain⟨yH,enter,fn,code,h1,h2,h3,h4,h5⟩:=h;refine nU u yH h1 h2 enter h3 h4 h5 ?_;rintro ds H d K ⟨id,v,l,p,x,rfl,y,hid,hp,C⟩;have hl:=A.le p x y;refine⟨by simp only[qGT];rw[hl.1];grind, .own 0 v::A.view x,aj dm 0 (some (.row v el n (l.map enc))),λ_=>id, .cons (.own _ _ _) hl,λi r h=>?_,λi j r s h E _=>?_,_,w v l x hp,?_⟩;simp_all
 ·have a:i=0:=by
   by_cases e:i=0;omega
   ·simp[aj,e]at h
  have b:j=0:=by
   by_cases e:j=0;omega
   ·simp[aj,e]at E
  omega
 ·rintro r H' ⟨j,v',t,rfl,J,c⟩;refine⟨.own id v',dm,aj H id (some (.row v' el n (t.map enc))),λi=>if i=id then some j else none, .own _ _ _,λj q h=>by simp at h,C v' t c,λi s hi=>?_,λi L k s q hi F M O=>?_⟩
  ·by_cases e:i=id;simp_all;simp_all;omega
  grind
end
def aD{X:Type}(A:fN X):fN (D×X):=⟨λds=>match ds with|d::r=>(A.dec r).map λx=>(d,x)|_=>none,λx=>x.1::A.view x.2,λds x h=>by
 split at h
 ·simp only[qGe]at h;obtain⟨y,a,rfl⟩:=h;exact .cons (.same _) (A.le _ _ a)
 grind⟩
def aE(X:Type)[Cod X]{Y:Type}(A:fN Y):fN (X×Y):=⟨λds=>match ds with|d::r=>(dec d).bind λx=>(A.dec r).map λy=>(x,y)|_=>none,λx=>enc x.1::A.view x.2,λds x h=>by
 split at h
 ·simp only[qF3,qGe]at h;obtain⟨x,a,y,b,rfl⟩:=h;exact .cons (Cod.le _ _ a) (A.le _ _ b)
 grind⟩
@[simp] theorem qsz{X:Type}(A:fN X)(d:D)(r:List D):(aD A).dec (d::r)=(A.dec r).map λx=>(d,x):=i' rfl
@[simp] theorem qAe{X:Type}(A:fN X)(d:D)(x:X):(aD A).view (d,x)=d::A.view x:=i' rfl
@[simp] theorem qDL{X Y:Type}[Cod X](A:fN Y)(d:D)(r:List D):(aE X A).dec (d::r)=(dec d).bind λx=>(A.dec r).map λy=>(x,y):=i' rfl
@[simp] theorem qAd{X Y:Type}[Cod X](A:fN Y)(x:X)(y:Y):(aE X A).view (x,y)=enc x::A.view y:=i' rfl
def FunIs{X Y:Type}[Cod X][Cod Y](S:Nat->Spc)(d:D)(p:X->Y):Prop:=
 ∃g caps a,d= .clo g caps/\S g= .pure a/\∀x:X,a.pre (enc x::caps)/\∀r,a.post (enc x::caps) r->r=enc (p x)
def FunIs.use'{X Y:Type}[Cod X][Cod Y]{S:Nat->Spc}{d:D}{p:X->Y}(h:FunIs S d p)(x:X)(a:Nat)(H:ab)(K:D->ab->Prop)(hk:∀y:Y,(∀q,FunIs S d q->y=q x)->K (enc y) H):DL S d a [enc x] H K:=by
 grind [FunIs,DL,Spc.pt,cD]
def FunIs.useB{X:Type}[Cod X]{S:Nat->Spc}{d:D}{p:X->Bool}(h:FunIs S d p)(x:X){a:Nat}{H:ab}{K:D->ab->Prop}(hk:∀y:Bool,(∀q,FunIs S d q->y=q x)->K (.v (.bool y)) H):DL S d a [enc x] H K:=h.use' x a H K hk
def FunIs.eq{X Y:Type}[Cod X][Cod Y]{S:Nat->Spc}{d:D}{p q:X->Y}(hex:∀g a ds,S g= .pure a->a.pre ds->∃r,a.post ds r)(h:FunIs S d p)(k:FunIs S d q):p=q:=by
 obtain⟨g,caps,a,rfl,h1,h2⟩:=h;obtain⟨l,b,j,e,c,s⟩:=k;cases e;rw[h1]at c;cases c;funext x;obtain⟨r,t⟩:=hex g a _ h1 (h2 x).1;grind [cD]
def qpg(d:D):Prop:=∀(tp I a b:Nat->Prop) (w w':World) (x:Value),R tp I w x d->R a b w' x d
def qrK(v:Value):qpg (.v v):=λtp I a b w w' x h=>by
 cases h with
 |v _ h1 h2=>exact .v _ h1 h2
def qkH{ds:List D}(h:∀d∈ds,qpg d):qpg (.tup ds):=λtp I a l w w' x b=>by
 cases b with
 |tup xs _ hl j=>exact .tup xs ds hl λk x c h1 h2=>h c (qF7 h2) _ _ _ _ _ _ _ (j k x c h1 h2)
section
variable {X Y Z:Type}[Cod Y]
def qDo(A:fN X)(pre:List Y×X->Prop)(er:Z->D)(post:List Y×X->Z->Prop)(el n:Nat):PT:=λd ds H K=>∃id v l a x,ds= .own id v::a/\A.dec a=some x/\H id=some (.row v el n (l.map enc))/\pre (l,x)/\∀z,post (l,x) z->K (er z) H
def qoX(A:fN X)(pre:List Y×X->Prop)(er:Z->D)(post:List Y×X->Z->Prop)(el n:Nat):qq (qDo A pre er post el n):=λd ds H K b hk ⟨id,v,l,a,x,h1,h2,h3,h4,h5⟩=>⟨id,v,l,a,x,h1,h2,h3,h4,λz hz=>hk _ _ (h5 z hz)⟩
def qzX(A:fN X)(pre:List Y×X->Prop)(er:Z->D)(post:List Y×X->Z->Prop)(el n:Nat):Spc:= .gen _ (qoX A pre er post el n)
def qzW(A:fN X)(pre:List Y×X->Prop)(er:Z->D)(post:List Y×X->Z->Prop)(el n:Nat)(v:Value)(ds:List D)(r:Option Res)(H:ab)(K:D->ab->Prop):Prop:=∃l,r=some (.row v el n (l.map enc))/\gK (A.dec ds) λx=>pre (l,x)/\∀z,post (l,x) z->K (er z) H
@[congr] theorem qDn{A:fN X}{pre:List Y×X->Prop}{er:Z->D}{post:List Y×X->Z->Prop}{el n:Nat}{v:Value}{ds a:List D}{r r':Option Res}{H:ab}{K:D->ab->Prop}(h1:ds=a)(h2:r=r'):qzW A pre er post el n v ds r H K=qzW A pre er post el n v a r' H K:=by grind
@[simp] theorem qDp(A:fN X)(pre:List Y×X->Prop)(er:Z->D)(post:List Y×X->Z->Prop)(el n:Nat)(d i:Nat)(v:Value)(ds:List D)(H:ab)(K:D->ab->Prop):(qzX A pre er post el n).pt d (.own i v::ds) H K=qzW A pre er post el n v ds (H i) H K:=by
 refine propext ⟨λh=>?_,λh=>?_⟩
 ·obtain⟨id,v,l,b,x,h1,h2,h3,h4,h5⟩:=h;cases h1;refine⟨l,h3,?_⟩;rw[h2];exact⟨h4,h5⟩
 ·obtain⟨l,h1,h2⟩:=h;cases a:A.dec ds with
  |none=>rw[a]at h2;exact h2.elim
  |some x=>rw[a]at h2;exact⟨i,v,l,ds,x,rfl,a,h1,h2.1,h2.2⟩
@[simp] theorem qE2(A:fN X)(pre:List Y×X->Prop)(er:Z->D)(post:List Y×X->Z->Prop)(el n:Nat)(v:Value)(ds:List D)(l:List Y)(H:ab)(K:D->ab->Prop):qzW A pre er post el n v ds (some (.row v el n (l.map enc))) H K=gK (A.dec ds) λx=>pre (l,x)/\∀z,post (l,x) z->K (er z) H:=by
 refine propext ⟨λ⟨a,h1,h2⟩=>?_,λh=>⟨l,rfl,h⟩⟩;simp at h1;subst h1;exact h2
theorem On{P:Program}{f:Nat}{A:fN X}{pre:List Y×X->Prop}{er:Z->D}{post:List Y×X->Z->Prop}{el n:Nat}(hf:Tri dq P f (ax (aE (List Y) A) pre er post).pt)(hn:n=Cod.wd Y)(p:∀z,qpg (er z)):Tri dq P f (qzX A pre er post el n).pt:=by
 intro O tp w vs ds H d K hO M a hlen t hA;obtain⟨id,v,l,E,x,rfl,hd,hid,hp,hK⟩:=hA;subst hn;cases vs with
 |nil=>grind
 | cons J vs=>
   have Q:J=v:=by
    have:=t 0 J (.own id v) rfl rfl;cases this;rfl
   subst Q
   let L:Nat->Prop:=λb=>O b\/ ∃i r,i≠id/\H i=some r/\r.blk=some b
   have F:∀b,be O tp H w b->be L tp dm w b:=λb hb=>⟨hb.1,λh=>h.elim hb.2.1 λ⟨i,r,_,h1,h2⟩=>hb.2.2.2 ⟨i,r,h1,h2⟩,hb.2.2.1,λ⟨i,r,h1,_⟩=>by simp at h1⟩
   have U:∀y e,R tp (be O tp H w) w y e->R tp (be L tp dm w) w y e:=λy e W=>W.mono (λ_ h=>h) (λb hb=>⟨F b hb,rfl⟩) (λb _=> .refl _ _)
   have hl:R tp (be L tp dm w) w J (.list (Cod.wd Y) (l.map enc)):=OZ (λb hb=>by
    have h1:=a.out id _ b hid hb;refine⟨(a.ok id _ hid).lt hb,λh=>h.elim h1.1 λ⟨i,r,hne,h2,h3⟩=>hne (a.dis _ _ _ _ b h2 hid h3 hb),h1.2,λ⟨i,r,h2,_⟩=>by simp at h2⟩) ((a.ok id _ hid).conv U (λ_ _=>rfl))
   have I:(aE (List Y) A).dec (.list (Cod.wd Y) (l.map enc)::E)=some (l,x):=by simp[hd]
   obtain⟨hce,hc⟩:=hf L tp w (J::vs) (.list (Cod.wd Y) (l.map enc)::E) dm d (λr H'=>∃z,r=er z/\post (l,x) z/\H'=dm)
    (λb hb=>hb.elim (hO b) λ⟨i,r,_,h1,h2⟩=>(a.ok i r h1).lt h2) (M.mono λb ⟨i,r,h,_⟩=>by simp at h) ⟨λi j r s b h=>by simp,λi r b h=>by simp at h,λi r h=>by simp at h⟩ (by omega)
    (λk y e h1 h2=>by
      grind)
    (by rw[lZ,I];exact⟨hp,λz hz=>⟨z,rfl,hz,rfl⟩⟩)
   refine⟨hce,hc.mono ?_⟩;rintro e w' ⟨q,r,H',u,rfl,⟨z,rfl,hz,rfl⟩,t1,t2,t3,hs,ho,hsat',hR⟩;have c:∀b,b<w.heap.size->¬tp b->w'.heap[b]? =w.heap[b]?:=λb hb ht=>hs.same b hb (λ⟨i,r,h,_⟩=>by simp at h) ht
   have C:∀y e,R tp (be O tp H w) w y e->R u (be O u H w') w' y e:=λy e W=>W.mono t1 (λb hb=>⟨⟨qGl hb.1 hs.size,hb.2.1,λh=>by
    rcases t2 b h with h|h
    ·exact hb.2.2.1 h
    ·have:=hb.1;omega,hb.2.2.2⟩,c b hb.1 hb.2.2.1⟩) hs.tapes
   refine⟨q,er z,H,u,rfl,hK z hz,t1,t2,t3,⟨hs.os,hs.tape,hs.output,hs.size,λb hb _ ht=>c b hb ht,hs.tapes,hs.drawn⟩,λb h=> .inl h,⟨a.dis,λi r b h1 h2=>?_,λi r h1=>?_⟩,p z _ _ _ _ _ _ _ hR⟩
   ·have:=a.out i r b h1 h2;refine⟨this.1,λh=>?_⟩;rcases t2 b h with h|h;grind
    ·have:=(a.ok i r h1).lt h2;omega
   ·exact(a.ok i r h1).conv C λb hb=>c b ((a.ok i r h1).lt hb) (a.out i r b h1 hb).2
end
end
section
open Cod (enc dec)
abbrev B:=ByteArray
structure I32 where
 val:Int
deriving DecidableEq
instance:Cod I32 where
 wd:=1
 enc n:= .v (.int .i32 n.val)
 dec| .v (.int .i32 n)=>some ⟨n⟩|_=>none
 kn _:=rfl
 wid _:=rfl
 dec_enc _:=rfl
 le d x h:=by
  split at h;grind [FrzTo];grind
@[simp] theorem qzk(n:I32):enc n= .v (.int .i32 n.val):=i' rfl
@[simp] theorem qAy:Cod.wd I32=1:=i' rfl
@[simp] theorem qzs(n:Int):dec (X:=I32) (.v (.int .i32 n))=some ⟨n⟩:=i' rfl
@[simp] theorem qzc(n:I32):I32.mk n.val=n:=i' rfl
structure U8 where
 val:Int
deriving DecidableEq
instance:Cod U8 where
 wd:=1
 enc n:= .v (.int .u8 n.val)
 dec| .v (.int .u8 n)=>some ⟨n⟩|_=>none
 kn _:=rfl
 wid _:=rfl
 dec_enc _:=rfl
 le d x h:=by
  split at h;grind [FrzTo];grind
@[simp] theorem qCE(n:U8):enc n= .v (.int .u8 n.val):=i' rfl
@[simp] theorem qCP(n:Int):dec (X:=U8) (.v (.int .u8 n))=some ⟨n⟩:=i' rfl
@[simp] theorem qCy(n:U8):U8.mk n.val=n:=i' rfl
structure Pair where
 nm:B
 vl:B
deriving DecidableEq
instance:Cod Pair where
 wd:=2
 enc s:= .agg [enc s.nm,enc s.vl]
 dec| .agg [a,b]=>(dec a).bind λa=>(dec b).bind λb=>some ⟨a,b⟩|_=>none
 kn _:=rfl
 wid _:=rfl
 dec_enc s:=by simp
 le d x h:=by
  split at h;grind [FrzTo,Option.bind_eq_some_iff,Cod.le];grind
@[simp] theorem qvR(s:Pair):(Pair.mk s.nm s.vl)=s:=i' rfl
@[simp] theorem qvX(s:Pair):enc s= .agg [enc s.nm,enc s.vl]:=i' rfl
@[simp] theorem qxl:Cod.wd Pair=2:=i' rfl
@[simp] theorem qv7(a b:D):dec (X:=Pair) (.agg [a,b])=((dec a).bind λa=>(dec b).bind λb=>some ⟨a,b⟩):=i' rfl
structure Attr where
 nm:B
 st:Bool
deriving DecidableEq
instance:Cod Attr where
 wd:=2
 enc s:= .agg [enc s.nm,enc s.st]
 dec| .agg [a,b]=>(dec a).bind λa=>(dec b).bind λb=>some ⟨a,b⟩|_=>none
 kn _:=rfl
 wid _:=rfl
 dec_enc s:=by simp
 le d x h:=by
  split at h;grind [FrzTo,Option.bind_eq_some_iff,Cod.le];grind
@[simp] theorem qvU(s:Attr):(Attr.mk s.nm s.st)=s:=i' rfl
@[simp] theorem qv0(s:Attr):enc s= .agg [enc s.nm,enc s.st]:=i' rfl
@[simp] theorem qxq:Cod.wd Attr=2:=i' rfl
@[simp] theorem qv9(a b:D):dec (X:=Attr) (.agg [a,b])=((dec a).bind λa=>(dec b).bind λb=>some ⟨a,b⟩):=i' rfl
structure Span where
 b:Int
 e:Int
deriving DecidableEq
instance:Cod Span where
 wd:=2
 enc s:= .agg [enc s.b,enc s.e]
 dec| .agg [a,c]=>(dec a).bind λa=>(dec c).bind λc=>some ⟨a,c⟩|_=>none
 kn _:=rfl
 wid _:=rfl
 dec_enc s:=by simp
 le d x h:=by
  split at h;grind [FrzTo,Option.bind_eq_some_iff,Cod.le];grind
@[simp] theorem qvQ(s:Span):(Span.mk s.b s.e)=s:=i' rfl
@[simp] theorem qvW(s:Span):enc s= .agg [enc s.b,enc s.e]:=i' rfl
@[simp] theorem qxk:Cod.wd Span=2:=i' rfl
@[simp] theorem qv6(a b:D):dec (X:=Span) (.agg [a,b])=((dec a).bind λa=>(dec b).bind λb=>some ⟨a,b⟩):=i' rfl
structure uz where
 nm:B
 b:Int
 e:Int
 kv:List Pair
deriving DecidableEq
instance:Cod uz where
 wd:=4
 enc s:= .agg [enc s.nm,enc s.b,enc s.e,enc s.kv]
 dec| .agg [a,c,j,k]=>(dec a).bind λa=>(dec c).bind λc=>(dec j).bind λj=>(dec k).bind λk=>some ⟨a,c,j,k⟩|_=>none
 kn _:=rfl
 wid _:=rfl
 dec_enc s:=by simp
 le d x h:=by
  split at h;grind [FrzTo,Option.bind_eq_some_iff,Cod.le];grind
@[simp] theorem qvV(s:uz):enc s= .agg [enc s.nm,enc s.b,enc s.e,enc s.kv]:=i' rfl
@[simp] theorem qxj:Cod.wd uz=4:=i' rfl
@[simp] theorem qv5(a b c d:D):dec (X:=uz) (.agg [a,b,c,d])=((dec a).bind λa=>(dec b).bind λb=>(dec c).bind λc=>(dec d).bind λd=>some ⟨a,b,c,d⟩):=i' rfl
structure Region where
 ty:B
 b:Int
 e:Int
 kv:List Pair
deriving DecidableEq
instance:Cod Region where
 wd:=4
 enc s:= .agg [enc s.ty,enc s.b,enc s.e,enc s.kv]
 dec| .agg [a,c,j,k]=>(dec a).bind λa=>(dec c).bind λc=>(dec j).bind λj=>(dec k).bind λk=>some ⟨a,c,j,k⟩|_=>none
 kn _:=rfl
 wid _:=rfl
 dec_enc s:=by simp
 le d x h:=by
  split at h;grind [FrzTo,Option.bind_eq_some_iff,Cod.le];grind
@[simp] theorem qrO(s:Region):(Region.mk s.ty s.b s.e s.kv)=s:=i' rfl
@[simp] theorem qrR(s:Region):enc s= .agg [enc s.ty,enc s.b,enc s.e,enc s.kv]:=i' rfl
@[simp] theorem qs0:Cod.wd Region=4:=i' rfl
@[simp] theorem qr6(a b c d:D):dec (X:=Region) (.agg [a,b,c,d])=((dec a).bind λa=>(dec b).bind λb=>(dec c).bind λc=>(dec d).bind λd=>some ⟨a,b,c,d⟩):=i' rfl
structure zM where
 lb:B
 b:Int
 e:Int
 par:Int
deriving DecidableEq
instance:Cod zM where
 wd:=4
 enc s:= .agg [enc s.lb,enc s.b,enc s.e,enc s.par]
 dec| .agg [a,c,j,k]=>(dec a).bind λa=>(dec c).bind λc=>(dec j).bind λj=>(dec k).bind λk=>some ⟨a,c,j,k⟩|_=>none
 kn _:=rfl
 wid _:=rfl
 dec_enc s:=by simp
 le d x h:=by
  split at h;grind [FrzTo,Option.bind_eq_some_iff,Cod.le];grind
@[simp] theorem qvY(s:zM):enc s= .agg [enc s.lb,enc s.b,enc s.e,enc s.par]:=i' rfl
@[simp] theorem qxm:Cod.wd zM=4:=i' rfl
structure Corpus where
 attrs:List Attr
 toks:List (List B)
 texts:List uz
 regs:List Region
 nodes:List zM
 heads:List Int
 rels:List B
deriving DecidableEq
instance:Cod Corpus where
 wd:=7
 enc s:= .agg [enc s.attrs,enc s.toks,enc s.texts,enc s.regs,enc s.nodes,enc s.heads,enc s.rels]
 dec| .agg [a,b,c,j,k,l,p]=>(dec a).bind λa=>(dec b).bind λb=>(dec c).bind λc=>(dec j).bind λj=>(dec k).bind λk=>(dec l).bind λl=>(dec p).bind λp=>some ⟨a,b,c,j,k,l,p⟩|_=>none
 kn _:=rfl
 wid _:=rfl
 dec_enc s:=by simp
 le d x h:=by
  split at h;grind [FrzTo,Option.bind_eq_some_iff,Cod.le];grind
@[simp] theorem qrP(s:Corpus):(Corpus.mk s.attrs s.toks s.texts s.regs s.nodes s.heads s.rels)=s:=i' rfl
@[simp] theorem qrS(s:Corpus):enc s= .agg [enc s.attrs,enc s.toks,enc s.texts,enc s.regs,enc s.nodes,enc s.heads,enc s.rels]:=i' rfl
@[simp] theorem qr7(a b c d h j k:D):dec (X:=Corpus) (.agg [a,b,c,d,h,j,k])=((dec a).bind λa=>(dec b).bind λb=>(dec c).bind λc=>(dec d).bind λd=>(dec h).bind λh=>(dec j).bind λj=>(dec k).bind λk=>some ⟨a,b,c,d,h,j,k⟩):=i' rfl
structure yE where
 r:I32
 pos:Int
 sz:Int
 ok:Bool
deriving DecidableEq
instance:Cod yE where
 wd:=4
 enc s:= .agg [enc s.r,enc s.pos,enc s.sz,enc s.ok]
 dec| .agg [a,b,c,j]=>(dec a).bind λa=>(dec b).bind λb=>(dec c).bind λc=>(dec j).bind λj=>some ⟨a,b,c,j⟩|_=>none
 kn _:=rfl
 wid _:=rfl
 dec_enc s:=by simp
 le d x h:=by
  split at h;grind [FrzTo,Option.bind_eq_some_iff,Cod.le];grind
@[simp] theorem qrQ(s:yE):enc s= .agg [enc s.r,enc s.pos,enc s.sz,enc s.ok]:=i' rfl
@[simp] theorem qsZ:Cod.wd yE=4:=i' rfl
structure Cond where
 op:Int
 name:B
 arg:B
 val:B
 lab:B
 fold:Bool
 kids:List Cond
mutual
def WQ:Cond->D
 | .mk op n a v l f ks=> .agg [enc op,enc n,enc a,enc v,enc l,enc f, .list 7 (Dz ks)]
def Dz:List Cond->List D
 | []=>[]
 |k::ks=>WQ k::Dz ks
end
mutual
def R8:D->Option Cond
 | .agg [b,c,d,h,j,k,p]=>(dec b).bind λop=>(dec c).bind λn=>(dec d).bind λa=>(dec h).bind λv=>(dec j).bind λl=>(dec k).bind λf=>(qaU p).bind λks=>some (.mk op n a v l f ks)
 | _=>none
def qaU:D->Option (List Cond)
 | .list n es=>if n=7 then Jo es else none
 | .v (.slice none 0 0)=>some []
 | _=>none
def Jo:List D->Option (List Cond)
 | []=>some []
 |d::ds=>(R8 d).bind λx=>(Jo ds).bind λxs=>some (x::xs)
end
theorem Ll:∀l:List Cond,Dz l=l.map WQ
 | []=>rfl
 | _::l=>by rw[Dz,Ll l];rfl
theorem qfb:∀c:Cond,(WQ c).kn=true
 | .mk .. =>rfl
theorem qaL:∀c:Cond,(WQ c).cells.length=7
 | .mk .. =>rfl
mutual
def qaZ:∀c:Cond,R8 (WQ c)=some c
 | .mk op n a v l f ks=>by
   have h:qaU (.list 7 (Dz ks))=some ks:=by rw[qaU,if_pos rfl];exact TK ks
   simp_all [WQ,R8]
def TK:∀l:List Cond,Jo (Dz l)=some l
 | []=>by rfl
 |c::l=>by simp only[Dz,Jo,qaZ c,TK l,qGt]
end
mutual
def qfh:∀(d:D) (c:Cond),R8 d=some c->FrzTo dm d (WQ c)
 | .agg [j,k,p,q,r,s,b],c,h=>by
   simp only[R8,qF3,qGh]at h;obtain⟨op,h0,n,h1,a,h2,v,h3,l,h4,f,h5,ks,h6,rfl⟩:=h;rw[WQ];exact LeL.agg (.cons (Cod.le _ _ h0) (.cons (Cod.le _ _ h1) (.cons (Cod.le _ _ h2) (.cons (Cod.le _ _ h3) (.cons (Cod.le _ _ h4) (.cons (Cod.le _ _ h5) (.cons (qff b ks h6) .nil)))))))
def qff:∀(d:D) (l:List Cond),qaU d=some l->FrzTo dm d (.list 7 (Dz l))
 | .list n es,l,h=>by
   simp only[qaU]at h;split at h
   ·rename_i hn;subst hn;have hl:=qaY es l h;refine .list hl.1 (λe he=>?_) hl.2;grind [Ll,qfb,qaL]
   grind
 | .v (.slice none 0 0),l,h=>by
   simp only[qaU,qGh]at h;subst h;exact .nil _
def qaY:∀(es:List D) (l:List Cond),Jo es=some l->LeL es (Dz l)
 | [],l,h=>by
   simp only[Jo,qGh]at h;subst h;exact .nil
 | d::ds,l,h=>by
   simp only[Jo,qF3,qGh]at h;obtain⟨x,h1,xs,h2,rfl⟩:=h;rw[Dz];exact .cons (qfh d x h1) (qaY ds xs h2)
end
instance:Cod Cond where
 wd:=7
 enc:=WQ
 dec:=R8
 kn:=qfb
 wid:=qaL
 dec_enc:=qaZ
 le:=qfh
def TF(ks:List Cond):D.list 7 (Dz ks)=enc ks:=by rw[Ll];rfl
theorem qaG(op:Int)(n a v l:B)(f:Bool)(ks:List Cond):enc (Cond.mk op n a v l f ks)= .agg [enc op,enc n,enc a,enc v,enc l,enc f,enc ks]:=by
 rw[<-TF];rfl
structure Pat where
 op:Int
 cond:Cond
 lab:B
 reg:B
 mn:Int
 mx:Int
 kids:List Pat
def GV:Cond->List D
 | .mk op n a v l f ks=>[enc op,enc n,enc a,enc v,enc l,enc f,enc ks]
def Qs:∀c:Cond,(GV c).length=7
 | .mk .. =>rfl
mutual
def R7:Pat->D
 | .mk op c l r mn mx ks=> .agg (enc op::(GV c++ [enc l,enc r,enc mn,enc mx, .list 13 (Dx ks)]))
def Dx:List Pat->List D
 | []=>[]
 |k::ks=>R7 k::Dx ks
end
mutual
def qaT:D->Option Pat
 | .agg [a,b,d,h,j,k,p,q,s,t,u,w,x]=>(dec a).bind λop=>(dec (D.agg [b,d,h,j,k,p,q])).bind λc=>(dec s).bind λl=>(dec t).bind λr=>(dec u).bind λmn=>(dec w).bind λmx=>(Mf x).bind λks=>some (.mk op c l r mn mx ks)
 | _=>none
def Mf:D->Option (List Pat)
 | .list n es=>if n=13 then Jm es else none
 | .v (.slice none 0 0)=>some []
 | _=>none
def Jm:List D->Option (List Pat)
 | []=>some []
 |d::ds=>(qaT d).bind λx=>(Jm ds).bind λxs=>some (x::xs)
end
theorem Lj:∀l:List Pat,Dx l=l.map R7
 | []=>rfl
 | _::l=>by rw[Dx,Lj l];rfl
theorem qe9:∀c:Pat,(R7 c).kn=true
 | .mk .. =>rfl
theorem qaJ:∀c:Pat,(R7 c).cells.length=13
 | .mk op c l r mn mx ks=>by simp[R7,D.cells,Qs]
mutual
def qaS:∀c:Pat,qaT (R7 c)=some c
 | .mk op (.mk b n a v cl f d) l r mn mx ks=>by
   have h:Mf (.list 13 (Dx ks))=some ks:=by rw[Mf,if_pos rfl];exact TI ks
   have hc:dec (D.agg [enc b,enc n,enc a,enc v,enc cl,enc f,enc d])=some (Cond.mk b n a v cl f d):=by grind [qaG,Cod.dec_enc]
   simp_all [R7,GV,qaT]
def TI:∀l:List Pat,Jm (Dx l)=some l
 | []=>by rfl
 |c::l=>by simp only[Dx,Jm,qaS c,TI l,qGt]
end
def qhf{d j k p q r b:D}{c:Cond}(h:dec (D.agg [d,j,k,p,q,r,b])=some c):LeL [d,j,k,p,q,r,b] (GV c):=by
 have s:R8 (D.agg [d,j,k,p,q,r,b])=some c:=h;simp only[R8,qF3,qGh]at s;obtain⟨op,h0,n,h1,a,h2,v,h3,l,h4,f,h5,ks,h6,rfl⟩:=s;have hk:=qff b ks h6;rw[TF]at hk;exact .cons (Cod.le _ _ h0) (.cons (Cod.le _ _ h1) (.cons (Cod.le _ _ h2) (.cons (Cod.le _ _ h3) (.cons (Cod.le _ _ h4) (.cons (Cod.le _ _ h5) (.cons hk .nil))))))
def LeL.append{a b c d:List D}(h:LeL a b)(k:LeL c d):LeL (a++c) (b++d):=by
 refine⟨by grind [LeL],λi x y j l=>?_⟩;rw[List.getElem?_append]at j l;by_cases hi:i<a.length
 ·rw[if_pos hi]at j;rw[if_pos (by grind [LeL])]at l;grind [LeL]
 ·rw[if_neg hi]at j;rw[if_neg (by grind [LeL]),<-h.1]at l;grind [LeL]
mutual
def qfe:∀(d:D) (c:Pat),qaT d=some c->FrzTo dm d (R7 c)
 | .agg [b,j,k,p,q,s,t,u,w,x,y,A,a],c,h=>by
   simp only[qaT,qF3,qGh]at h;obtain⟨op,h0,c,h1,l,h2,r,h3,mn,h4,mx,h5,ks,h6,rfl⟩:=h;rw[R7];exact LeL.agg (.cons (Cod.le _ _ h0) ((qhf h1).append (.cons (Cod.le _ _ h2) (.cons (Cod.le _ _ h3) (.cons (Cod.le _ _ h4) (.cons (Cod.le _ _ h5) (.cons (qlf a ks h6) .nil)))))))
def qlf:∀(d:D) (l:List Pat),Mf d=some l->FrzTo dm d (.list 13 (Dx l))
 | .list n es,l,h=>by
   simp only[Mf]at h;split at h
   ·rename_i hn;subst hn;have hl:=qaR es l h;refine .list hl.1 (λe he=>?_) hl.2;grind [Lj,qe9,qaJ]
   grind
 | .v (.slice none 0 0),l,h=>by
   simp only[Mf,qGh]at h;subst h;exact .nil _
def qaR:∀(es:List D) (l:List Pat),Jm es=some l->LeL es (Dx l)
 | [],l,h=>by
   simp only[Jm,qGh]at h;subst h;exact .nil
 | d::ds,l,h=>by
   simp only[Jm,qF3,qGh]at h;obtain⟨x,h1,xs,h2,rfl⟩:=h;rw[Dx];exact .cons (qfe d x h1) (qaR ds xs h2)
end
instance:Cod Pat where
 wd:=13
 enc:=R7
 dec:=qaT
 kn:=qe9
 wid:=qaJ
 dec_enc:=qaS
 le:=qfe
def qhb(ks:List Pat):D.list 13 (Dx ks)=enc ks:=by rw[Lj];rfl
def qe6(op:Int)(c:Cond)(l r:B)(mn mx:Int)(ks:List Pat):enc (Pat.mk op c l r mn mx ks)= .agg (enc op::(GV c++ [enc l,enc r,enc mn,enc mx,enc ks])):=by
 rw[<-qhb];rfl
def Qm:∀es:List D,Jo es=es.mapM (dec (X:=Cond))
 | []=>by rfl
 | d::es=>by
   rw[Jo,qGM,Qm es];rfl
def qoI:∀d:D,qaU d=dec (X:=List Cond) d:=λd=>by
 unfold qaU;split
 ·rename_i n es;show _=if n=7 then es.mapM (dec (X:=Cond))else none
  rw[Qm]
 ·rfl
 ·rename_i h1 h2;show _=(match d with
   | .list n es=>if n=7 then es.mapM (dec (X:=Cond))else none
   | .v (.slice none 0 0)=>some []
   | _=>none)
  simp
def Qk:∀es:List D,Jm es=es.mapM (dec (X:=Pat))
 | []=>by rfl
 | d::es=>by
   rw[Jm,qGM,Qk es];rfl
def qlg:∀d:D,Mf d=dec (X:=List Pat) d:=λd=>by
 unfold Mf;split
 ·rename_i n es;show _=if n=13 then es.mapM (dec (X:=Pat))else none
  rw[Qk]
 ·rfl
 ·rename_i h1 h2;show _=(match d with
   | .list n es=>if n=13 then es.mapM (dec (X:=Pat))else none
   | .v (.slice none 0 0)=>some []
   | _=>none)
  simp
@[simp] theorem Jk(s:Cond):Cond.mk s.op s.name s.arg s.val s.lab s.fold s.kids=s:=by cases s;rfl
@[simp] theorem qk2(s:Cond):enc s= .agg [enc s.op,enc s.name,enc s.arg,enc s.val,enc s.lab,enc s.fold,enc s.kids]:=by cases s;exact qaG ..
@[simp] theorem qxp:Cod.wd Cond=7:=i' rfl
@[simp] theorem qlc(a b c d h j k:D):dec (X:=Cond) (.agg [a,b,c,d,h,j,k])=((dec a).bind λa=>(dec b).bind λb=>(dec c).bind λc=>(dec d).bind λd=>(dec h).bind λh=>(dec j).bind λj=>(dec k).bind λk=>some ⟨a,b,c,d,h,j,k⟩):=by
 show R8 _=_;simp only[R8,qoI]
@[simp] theorem qoz(s:Pat):Pat.mk s.op s.cond s.lab s.reg s.mn s.mx s.kids=s:=by cases s;rfl
@[simp] theorem qe7(s:Pat):enc s= .agg [enc s.op,enc s.cond.op,enc s.cond.name,enc s.cond.arg,enc s.cond.val,enc s.cond.lab,enc s.cond.fold,enc s.cond.kids,enc s.lab,enc s.reg,enc s.mn,enc s.mx,enc s.kids]:=by
 obtain⟨op,⟨a,b,c,d,e,f,g⟩,l,r,mn,mx,ks⟩:=s;exact qe6 ..
@[simp] theorem qAA:Cod.wd Pat=13:=i' rfl
@[simp] theorem qzw(a b c d h j k l p q r s t:D):dec (X:=Pat) (.agg [a,b,c,d,h,j,k,l,p,q,r,s,t])=
 ((dec a).bind λa=>(dec b).bind λb=>(dec c).bind λc=>(dec d).bind λd=>(dec h).bind λh=>(dec j).bind λj=>(dec k).bind λk=>(dec l).bind λl=>
   (dec p).bind λp=>(dec q).bind λq=>(dec r).bind λr=>(dec s).bind λs=>(dec t).bind λt=>some ⟨a,⟨b,c,d,h,j,k,l⟩,p,q,r,s,t⟩):=by
 show qaT _=_;simp only[qaT,qlg,qlc,Option.bind_assoc,qGt]
end
end Go.Gv
