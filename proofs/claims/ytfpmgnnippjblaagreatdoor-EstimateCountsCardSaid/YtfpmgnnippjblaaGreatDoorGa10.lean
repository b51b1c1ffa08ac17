/- T12 -/
import Derived.Test.YtfpmgnnippjblaaGreatDoorGa09
set_option linter.all false
namespace Go.Gv
section
open Cod (enc dec)
variable {dq:Prop}
structure fm (X:Type) where
 dec:List D->Option X
 view:X->List D
 le:∀ds x,dec ds=some x->LeL ds (view x)
def aA{X Y:Type}(A:fm X)(pre:X->Prop)(er:Y->D)(post:X->Y->Prop):Spc:=qfB A.dec pre λx r=>∃y,r=er y/\post x y
def ga{X:Type}(o:Option X)(k:X->Prop):Prop:=match o with|some x=>k x|none=>False
@[congr] theorem qtE{X:Type}{o a:Option X}{k:X->Prop}(h:o=a):ga o k=ga a k:=by grind
@[simp] theorem qwA{X:Type}(x:X)(k:X->Prop):ga (some x) k=k x:=i' rfl
@[simp] theorem qwB{X:Type}(k:X->Prop):ga none k=False:=i' rfl
@[simp] theorem pm{X Y:Type}(A:fm X)(pre:X->Prop)(er:Y->D)(post:X->Y->Prop)(d:Nat)(ds:List D)(H:ab)(K:D->ab->Prop):
 (aA A pre er post).pt d ds H K=ga (A.dec ds) λx=>pre x/\∀y,post x y->K (er y) H:=by
 refine propext ⟨λh=>?_,λh=>?_⟩
 ·obtain⟨⟨x,h1,h2⟩,h3⟩:=h;rw[h1];refine⟨h2,λy b=>h3 _ λj a _=>?_⟩;rw[h1]at a;cases a;exact⟨y,rfl,b⟩
 ·cases c:A.dec ds with
  |none=>rw[c]at h;exact h.elim
  | some x=>
    rw[c]at h;refine qeq x c h.1 ?_;rintro r ⟨y,rfl,b⟩;exact h.2 y b
@[simp] theorem qtb{X Y:Type}(A:fm X)(pre:X->Prop)(er:Y->D)(post:X->Y->Prop)(dst:Option Nat)(ds:List D)(H:ab)(K:D->ab->Prop):
 qcP dst (aA A pre er post) ds H K=ga (A.dec ds) λx=>pre x/\∀y,post x y->K (er y) H:=pm A pre er post 0 ds H K
def Fin{Y:Type}(er:Y->D)(q:Y->Prop)(r:D)(H':ab):Prop:=∃y,FrzTo H' r (er y)/\q y
def br{Y:Type}{er:Y->D}{q:Y->Prop}{r:D}{H':ab}(y:Y)(h:FrzTo H' r (er y))(a:q y):Fin er q r H':=⟨y,h,a⟩
@[simp] theorem qus(q:Int->Prop)(n:Int)(H':ab):Fin enc q (.v (.int .i64 n)) H'=q n:=by
 simp[Fin,qkv]
@[simp] theorem qrj(q:Bool->Prop)(n:Bool)(H':ab):Fin enc q (.v (.bool n)) H'=q n:=by
 refine propext ⟨λ⟨y,h1,h2⟩=>?_,λh=>⟨n, .same _,h⟩⟩;rw[qg3,qre]at h1;cases h1;exact h2
@[simp] theorem qur(q:ByteArray->Prop)(n:ByteArray)(H':ab):Fin enc q (.v (.string n)) H'=q n:=by
 refine propext ⟨λ⟨y,h1,h2⟩=>?_,λh=>⟨n, .same _,h⟩⟩;rw[qku,qre]at h1;cases h1;exact h2
def aq{X Y:Type}(cc:CC)(rs:List ai)(S:Nat->Spc)(A:fm X)(pre:X->Prop)(er:Y->D)(post:X->Y->Prop):Prop:=
 ∀x,pre x->vc S cc (uL rs λr H'=>Fin er (post x) r H') (dr (A.view x)) cX
theorem aZ{P:Program}{S:Nat->Spc}{f:Nat}{im:List Nat}{cc:CC}{rs:List ai}{N:Nat}{X Y:Type}{A:fm X}{pre:X->Prop}{er:Y->D}{post:X->Y->Prop}
 (a:∀f,Tri dq P f (S f).pt) (h:zF P f im cc rs N) (b:∀x,(A.view x).length<=N) (c:aq cc rs S A pre er post):Tri dq P f (aA A pre er post).pt:=
 qev a h A.le b λx hp=>by
  refine xS cc _ _ (λe σ H h=>?_) (c x hp);cases e with
  |ex i=>exact h
  | _=>
    simp only[uL]at h ⊢;have key:∀(rs:List ai) (F G:List D->Prop),(∀ds,F ds->G ds)->xi rs σ H F->xi rs σ H G:=by
     intro rs
     induction rs with
     |nil=>simp_all
     | cons r rs j=>
       intro F G d h;cases r<;>grind [xi,JI]
    exact key rs _ _ (λds ⟨y,h1,h2⟩=>⟨_,h1,y,rfl,h2⟩) h
def ac{P:Program}{S:Nat->Spc}{f:Nat}{im:List Nat}{cc:CC}{rs:List ai}{N:Nat}{X Y:Type}{A:fm X}{pre:X->Prop}{er:Y->D}{post:X->Y->Prop}
 (a:∀f,Tri dq P f (S f).pt) (h:zF P f im cc rs N) (b:aq cc rs S A pre er post) (c:∀x,(A.view x).length<=N:=by exactλ_=>qBg rfl):Tri dq P f (aA A pre er post).pt:=aZ a h c b
def kP {P : Program} {f : Nat} {fn : Func} {c : Code} (h : P.funcs[f]? = some fn) (hn : (fn.name == "runtime.NumGoroutine") = false) (hb : fn.body = some c) : eE P f := by
 intro args w
 have hn' : ¬ fn.name = "runtime.NumGoroutine" := by grind
 simp_all [callFunc]
def qlL{P:Program}{f:Nat}{im:List Nat}{cc:CC}{rs:List ai}{N:Nat}(wJ:P.follows .mixedOrders=true)
 (h : ((P.funcs[f]?).bind fun g => if g.name == "runtime.NumGoroutine" then none else g.body.bind fun c => (ay P im g.ntmps c).bind fun cc => (g.results.toList.mapM (fa P)).bind fun rs => some (g.ntmps, cc, rs)) = some (N, bz cc, rs)) : zF P f im cc rs N := by
 cases hf:P.funcs[f]? with
 |none=>grind
 | some fn=>
   rw[hf]at h;simp only[qBz]at h;split at h;grind
   ·rename_i hn;simp only[qBb,qBq,Prod.mk.injEq]at h;obtain⟨c,hb,q,hq,r,hr,rfl,rfl,rfl⟩:=h;exact⟨wJ,kP hf (by grind) hb,fn,c,hf,hb,rfl,hq,hr⟩
def a0:fm Unit:=⟨qnW,λ_=>[],qAB⟩
def a1(X:Type)[Cod X]:fm X:=⟨qnV,λx=>[enc x],qAA⟩
def a2(X Y:Type)[Cod X][Cod Y]:fm (X×Y):=⟨qnU,λx=>[enc x.1,enc x.2],qAz⟩
def a3(X Y Z:Type)[Cod X][Cod Y][Cod Z]:fm (X×Y×Z):=⟨qnT,λx=>[enc x.1,enc x.2.1,enc x.2.2],qAy⟩
def a4(X Y Z W:Type)[Cod X][Cod Y][Cod Z][Cod W]:fm (X×Y×Z×W):=⟨qnS,λx=>[enc x.1,enc x.2.1,enc x.2.2.1,enc x.2.2.2],qAx⟩
def aT{X:Type}(A:fm X):fm (List Int×X):=⟨λds=>match ds with| .tape L::r=>(A.dec r).map λx=>(L,x)|_=>none,λx=> .tape x.1::A.view x.2,λds x h=>by
 split at h
 ·simp only[qBk]at h;obtain⟨y,a,rfl⟩:=h;exact .cons (.same _) (A.le _ _ a)
 grind⟩
@[simp] theorem qy0:a0.dec []=some ():=i' rfl
@[simp] theorem qol{X:Type}[Cod X](a:D):(a1 X).dec [a]=dec a:=i' rfl
@[simp] theorem qok{X Y:Type}[Cod X][Cod Y](a b:D):(a2 X Y).dec [a,b]=(dec a).bind λx=>(dec b).bind λy=>some (x,y):=i' rfl
@[simp] theorem qyZ{X Y Z:Type}[Cod X][Cod Y][Cod Z](a b c:D):(a3 X Y Z).dec [a,b,c]=(dec a).bind λx=>(dec b).bind λy=>(dec c).bind λz=>some (x,y,z):=i' rfl
@[simp] theorem qyX{X Y Z W:Type}[Cod X][Cod Y][Cod Z][Cod W](a b c d:D):(a4 X Y Z W).dec [a,b,c,d]=(dec a).bind λx=>(dec b).bind λy=>(dec c).bind λz=>(dec d).bind λw=>some (x,y,z,w):=i' rfl
@[simp] theorem qyV{X:Type}(A:fm X)(L:List Int)(r:List D):(aT A).dec (.tape L::r)=(A.dec r).map λx=>(L,x):=i' rfl
@[simp] theorem qvF(x:Unit):a0.view x=[]:=i' rfl
@[simp] theorem qvE{X:Type}[Cod X](x:X):(a1 X).view x=[enc x]:=i' rfl
@[simp] theorem qvD{X Y:Type}[Cod X][Cod Y](x:X)(y:Y):(a2 X Y).view (x,y)=[enc x,enc y]:=i' rfl
@[simp] theorem qvC{X Y Z:Type}[Cod X][Cod Y][Cod Z](x:X)(y:Y)(z:Z):(a3 X Y Z).view (x,y,z)=[enc x,enc y,enc z]:=i' rfl
@[simp] theorem qvB{X Y Z W:Type}[Cod X][Cod Y][Cod Z][Cod W](x:X)(y:Y)(z:Z)(w:W):(a4 X Y Z W).view (x,y,z,w)=[enc x,enc y,enc z,enc w]:=i' rfl
@[simp] theorem qvw{X:Type}(A:fm X)(L:List Int)(x:X):(aT A).view (L,x)= .tape L::A.view x:=i' rfl
attribute [simp] Cod.dec_enc
@[simp] theorem qx7(n:Int):dec (X:=Int) (.v (.int .i64 n))=some n:=i' rfl
@[simp] theorem quW(n:Bool):dec (X:=Bool) (.v (.bool n))=some n:=i' rfl
@[simp] theorem qx5(n:ByteArray):dec (X:=ByteArray) (.v (.string n))=some n:=i' rfl
@[simp] theorem qx6{X:Type}[Cod X]:dec (X:=List X) (.v (.slice none 0 0))=some []:=i' rfl
@[simp] theorem quV{X:Type}[Cod X](n:Nat)(es:List D):dec (X:=List X) (.list n es)=if n=Cod.wd X then es.mapM (dec (X:=X))else none:=i' rfl
attribute [simp] Gx
@[simp] theorem qoW{X:Type}[Cod X](l:List X):l.mapM (dec (X:=X) ∘enc)=some l:=by
 have:=Gx l;rwa [List.mapM_map]at this
def lH{Y Z:Type}[Cod Y][Cod Z](p:Y×Z):D:= .tup [enc p.1,enc p.2]
def qlN{Y Z W:Type}[Cod Y][Cod Z][Cod W](p:Y×Z×W):D:= .tup [enc p.1,enc p.2.1,enc p.2.2]
def Tw(_:Unit):D:= .tup []
@[simp] theorem qzR{Y Z:Type}[Cod Y][Cod Z](y:Y)(z:Z):lH (y,z)= .tup [enc y,enc z]:=i' rfl
@[simp] theorem qzQ{Y Z W:Type}[Cod Y][Cod Z][Cod W](y:Y)(z:Z)(w:W):qlN (y,z,w)= .tup [enc y,enc z,enc w]:=i' rfl
@[simp] theorem quu{Y Z:Type}[Cod Y][Cod Z](q:Y×Z->Prop)(a b:D)(H':ab):Fin lH q (.tup [a,b]) H'=∃y z,FrzTo H' a (enc y)/\FrzTo H' b (enc z)/\q (y,z):=by
 refine propext ⟨λ⟨⟨y,z⟩,h1,h2⟩=>?_,λ⟨y,z,h1,h2,h3⟩=>⟨(y,z),qkd h1 h2,h3⟩⟩;cases h1 with
 |same=>exact⟨y,z, .same _, .same _,h2⟩
 |tup hl h=>exact⟨y,z,h 0 _ _ rfl rfl,h 1 _ _ rfl rfl,h2⟩
@[simp] theorem qut{Y Z W:Type}[Cod Y][Cod Z][Cod W](q:Y×Z×W->Prop)(a b c:D)(H':ab):Fin qlN q (.tup [a,b,c]) H'=∃y z w,FrzTo H' a (enc y)/\FrzTo H' b (enc z)/\FrzTo H' c (enc w)/\q (y,z,w):=by
 refine propext ⟨λ⟨⟨y,z,w⟩,h1,h2⟩=>?_,λ⟨y,z,w,h1,h2,h3,h4⟩=>⟨(y,z,w),qkc h1 h2 h3,h4⟩⟩;cases h1 with
 |same=>exact⟨y,z,w, .same _, .same _, .same _,h2⟩
 |tup hl h=>exact⟨y,z,w,h 0 _ _ rfl rfl,h 1 _ _ rfl rfl,h 2 _ _ rfl rfl,h2⟩
@[simp] theorem qzS(u:Unit):Tw u= .tup []:=i' rfl
def rC:List (Nat×D)->Sg->Sg
 | [],σ=>σ
 |(t,d)::l,σ=>upd (rC l σ) t d
def gk:List (Nat×Res)->ab->ab
 | [],H=>H
 |(i,r)::l,H=>ak (gk l H) i (some r)
def qad(σ:Sg):rC [] σ=σ:=i' rfl
@[simp] theorem qog(H:ab):gk [] H=H:=i' rfl
@[simp] theorem qyT(i:Nat)(r:Res)(l:List (Nat×Res))(H:ab):gk ((i,r)::l) H=ak (gk l H) i (some r):=i' rfl
def vw(ks:List Nat)(σ a:Sg):Prop:=∀t∈ks,a t=σ t
def zV(hk:List Nat)(H H':ab):Prop:=∀i∈hk,H' i=H i
@[simp] theorem qw7(σ a:Sg):vw [] σ a=True:=by simp[vw]
@[simp] theorem qw8(t:Nat)(ks:List Nat)(σ a:Sg):vw (t::ks) σ a=(a t=σ t/\vw ks σ a):=by simp[vw]
@[simp] theorem qt2(σ a:ab):zV [] σ a=True:=by simp[zV]
@[simp] theorem qt3(t:Nat)(ks:List Nat)(σ a:ab):zV (t::ks) σ a=(a t=σ t/\zV ks σ a):=by simp[zV]
def Nb(ks:List Nat)(σ:Sg)(t:Nat):iF ks σ t=if t∈ks then σ t else .any:=by
 induction ks with
 |nil=>rfl
 | cons s ks a=>
   rw[qnh];grind [upd]
theorem Nc(ks:List Nat)(σ:ab)(t:Nat):iG ks σ t=if t∈ks then σ t else none:=by
 induction ks with
 |nil=>simp
 | cons s ks a=>
   rw[qjX];grind [ak]
def qk8{σ b:Sg}{H H':ab}(h1:∀t,Yl (σ t) (b t))(h2:∀i r,H' i=some r->H i=some r\/isNilRow r):Wk σ H b H':=by
 intro E a w c;obtain⟨d,h,tp,j,k⟩:=c;have hm:=j.sub h2;exact⟨d,h,tp,hm.1,λt=>qlT (h1 t) (hm.2 _ _ (k t))⟩
theorem Vf(d:D):Yl d d:=by simp
theorem E7{a σ:Sg}{c H:ab}{ks hk:List Nat}{b:List (Nat×D)}{hp:List (Nat×Res)}(h1:mH b σ)(h2:vw ks a σ)(h3:sE hp H)(h4:zV hk c H):
 Wk σ H (rC b (iF ks a)) (gk hp (iG hk c)):=by
 refine qk8 (λt=>?_) (λi r=>?_)
 ·induction b with
  | nil=>
    rw[qad,Nb];split
    ·rename_i h;rw[<-h2 t h];simp
    simp
  | cons p b j=>
    obtain⟨s,d⟩:=p;simp only[rC,upd];grind [mH]
 ·induction hp with
  | nil=>
    rw[qog,Nc];grind [zV]
  | cons p hp j=>
    obtain⟨s,d⟩:=p;simp only[gk,ak];grind [sE]
def PA(a:Sg)(b:ab)(ks hk:List Nat)(c:List (Nat×D))(hp:List (Nat×Res))(σ:Sg)(H:ab):Prop:=mH c σ/\vw ks a σ/\sE hp H/\zV hk b H
@[simp] theorem qvn(a:Sg)(b:ab)(ks hk:List Nat)(c:List (Nat×D))(hp:List (Nat×Res))(σ:Sg)(H:ab):PA a b ks hk c hp σ H=(mH c σ/\vw ks a σ/\sE hp H/\zV hk b H):=i' rfl
def qck{X:Type}(P:X->Prop)(B:X->Sg->ab->Prop)(m:X->Nat)(x:X)(K:Ex->Sg->ab->Prop):Ex->Sg->ab->Prop:=λe a H'=>match e with
 | .norm=>∃y,P y/\B y a H'/\m y<m x
 |e=>K e a H'
@[simp ↓] theorem qvP{X:Type}(P:X->Prop)(B:X->Sg->ab->Prop)(m:X->Nat)(x:X)(K:Ex->Sg->ab->Prop)(a:Sg)(H':ab):qck P B m x K .norm a H'=∃y,P y/\B y a H'/\m y<m x:=i' rfl
@[simp ↓] theorem qvN{X:Type}(P:X->Prop)(B:X->Sg->ab->Prop)(m:X->Nat)(x:X)(K:Ex->Sg->ab->Prop)(i:Nat)(a:Sg)(H':ab):qck P B m x K (.ex i) a H'=K (.ex i) a H':=i' rfl
@[simp ↓] theorem qvO{X:Type}(P:X->Prop)(B:X->Sg->ab->Prop)(m:X->Nat)(x:X)(K:Ex->Sg->ab->Prop)(a:Sg)(H':ab):qck P B m x K .ret a H'=K .ret a H':=i' rfl
section
variable {S:Nat->Spc}{K:Ex->Sg->ab->Prop}{σ:Sg}{H:ab}
def qel{X:Type}(ks hk:List Nat)(P:X->Prop)(a:X->List (Nat×D))(hp:X->List (Nat×Res))(m:X->Nat)(c:X){k:Nat}{b:CC}(h0:P c)(hs:mH (a c) σ)(hh:sE (hp c) H)
 (d:∀x,P x->vc S b (qck P (λy=>PA σ H ks hk (a y) (hp y)) m x K) (rC (a x) (iF ks σ)) (gk (hp x) (iG hk H))):vc S (.loop k b) K σ H:=by
 rw[TB];refine⟨⟨X,P,λx=>rC (a x) (iF ks σ),λx=>gk (hp x) (iG hk H),m⟩,⟨c,h0,E7 hs (λ_ _=>rfl) hh (λ_ _=>rfl)⟩,λx j=>xS b _ _ (λe l H' h=>?_) (d x j)⟩;cases e with
 | norm=>
   obtain⟨y,h1,h2,h3⟩:=h;exact⟨y,h1,E7 h2.1 h2.2.1 h2.2.2.1 h2.2.2.2,h3⟩
 |ex i=>exact h
 |ret=>exact h
def aF{X:Type}(ks hk:List Nat)(P:X->Prop)(a:X->List (Nat×D))(hp:X->List (Nat×Res))(m:X->Nat)(c:X){k:Nat}{b:CC}(h0:P c)
 (d:∀x,P x->vc S b (qck P (λy=>PA σ H ks hk (a y) (hp y)) m x K) (rC (a x) (iF ks σ)) (gk (hp x) (iG hk H))) (hs:mH (a c) σ:=by simp) (hh:sE (hp c) H:=by simp):vc S (.loop k b) K σ H:=
 qel ks hk P a hp m c h0 hs hh d
def Zw(Q:Sg->ab->Prop)(K:Ex->Sg->ab->Prop):Ex->Sg->ab->Prop:=λe a H'=>match e with
 | .norm=>Q a H'
 |e=>K e a H'
@[simp ↓] theorem qwR(Q:Sg->ab->Prop)(a:Sg)(H':ab):Zw Q K .norm a H'=Q a H':=i' rfl
@[simp ↓] theorem qwQ(Q:Sg->ab->Prop)(a:Sg)(H':ab):Zw Q K .ret a H'=K .ret a H':=i' rfl
def Y9(k:Nat)(a b:CC):CC:= .seq a (.cut k b)
def ba{X:Type}(ks hk:List Nat)(P:X->Prop)(d:X->List (Nat×D))(hp:X->List (Nat×Res)){k:Nat}{a b:CC}
 (j:vc S a (Zw (λc H'=>∃x,P x/\PA σ H ks hk (d x) (hp x) c H') K) σ H)
 (hb:∀x,P x->vc S b K (rC (d x) (iF ks σ)) (gk (hp x) (iG hk H))):vc S (Y9 k a b) K σ H:=by
 unfold Y9;rw[qbL];refine xS a _ _ (λe c H' h=>?_) j;cases e with
 | norm=>
   obtain⟨x,h1,h2⟩:=h;grind [PA,TA,qlP,E7]
 |ex i=>exact h
 |ret=>exact h
def uX(id i n c a:Nat)(body:CC)(b:Nat):CC:=
 .block id (.loop 0 (.seq (.reg [.op (some c) none (.cmp .lss (.tmp i) (.tmp n))]) (.seq (.ite (.tmp c) .skip (.exit id)) (.seq (.block a (.cut 0 body)) (.reg [.op (some b) none (.arith .add (.tmp i) (.const (.int .i64 1))), .op (some i) none (.mv (.tmp b))])))))
def qfr{X:Type}(id b i n:Nat)(len:Nat)(B:X->Sg->ab->Prop)(P:X->Prop)(k:Nat)(K:Ex->Sg->ab->Prop):Ex->Sg->ab->Prop:=λe a H'=>match e with
 | .norm=>a i= .v (.int .i64 k)/\a n= .v (.int .i64 len)/\∃y,P y/\B y a H'
 | .ex j=>if j=b then a i= .v (.int .i64 k)/\a n= .v (.int .i64 len)/\∃y,P y/\B y a H' else if j=id then K .norm a H' else K (.ex j) a H'
 | .ret=>K .ret a H'
@[simp ↓] theorem qwo{X:Type}(id b i n:Nat)(len:Nat)(B:X->Sg->ab->Prop)(P:X->Prop)(k:Nat)(a:Sg)(H':ab):qfr id b i n len B P k K .norm a H'=(a i= .v (.int .i64 k)/\a n= .v (.int .i64 len)/\∃y,P y/\B y a H'):=i' rfl
@[simp ↓] theorem qwm{X:Type}(id b i n:Nat)(len:Nat)(B:X->Sg->ab->Prop)(P:X->Prop)(k j:Nat)(a:Sg)(H':ab):qfr id b i n len B P k K (.ex j) a H'=(if j=b then a i= .v (.int .i64 k)/\a n= .v (.int .i64 len)/\∃y,P y/\B y a H' else if j=id then K .norm a H' else K (.ex j) a H'):=i' rfl
@[simp ↓] theorem qwn{X:Type}(id b i n:Nat)(len:Nat)(B:X->Sg->ab->Prop)(P:X->Prop)(k:Nat)(a:Sg)(H':ab):qfr id b i n len B P k K .ret a H'=K .ret a H':=i' rfl
def Ei{t:Nat}{d:D} :∀{a:List (Nat×D)} {σ:Sg},(∀p∈a,p.1≠t)->mH a σ->mH a (upd σ t d)
 | [],_,_,_=>trivial
 | (s,e)::a,σ,h,hm=>by
  refine⟨?_,Ei (λp hp=>h p (by grind)) hm.2⟩;simp_all [upd]
def Qv{t:Nat}{d:D}{ks:List Nat}{a σ:Sg}(h:t∉ks)(hk:vw ks a σ):vw ks a (upd σ t d):=λs hs=>by
 have:s≠t:=λe=>h (e ▸hs)
 simp only[upd,this,if_false];exact hk s hs
theorem UT{X:Type}(ks hk:List Nat)(len:Nat)(P:Nat->X->Prop)(q:X->List (Nat×D))(hp:X->List (Nat×Res))(w:X){id i n c u b:Nat}{body:CC}
 (hi:σ i= .v (.int .i64 0)) (hn:σ n= .v (.int .i64 len)) (hlen:(len:Int)<=9223372036854775807) (hd:([i,n,c,b] ++ks).Nodup) (J:∀x,∀p∈q x,p.1∉ [i,n,c,b])
 (h0:P 0 w) (hs:mH (q w) σ) (hh:sE (hp w) H)
 (Y:∀k x,k<len->P k x->vc S body (qfr id u i n len (λy=>PA σ H ks hk (q y) (hp y)) (P (k+1)) k K) (rC ((i, .v (.int .i64 k))::(n, .v (.int .i64 len))::q x) (iF ks σ)) (gk (hp x) (iG hk H)))
 (he:∀x,P len x->K .norm (upd (rC ((i, .v (.int .i64 len))::(n, .v (.int .i64 len))::q x) (iF ks σ)) c (.v (.bool false))) (gk (hp x) (iG hk H))):vc S (uX id i n c u body b) K σ H:=by
 have ne:i≠n/\i≠c/\i≠b/\n≠c/\n≠b/\c≠b/\i∉ks/\n∉ks/\c∉ks/\b∉ks:=by
  grind
 obtain⟨Q,Z,n3,n4,n5,n6,m1,m2,m3,m4⟩:=ne;have L:∀x t,t∈ [i,n,c,b]->∀p∈q x,p.1≠t:=λx t ht p hp e=>J x p hp (e ▸ht)
 let st:Nat×X->Sg:=λx=>rC ((i, .v (.int .i64 x.1))::(n, .v (.int .i64 len))::q x.2) (iF ks σ)
 let A:Nat×X->ab:=λx=>gk (hp x.2) (iG hk H)
 have r:∀(k:Nat) (y:X) (a:Sg) (H':ab),a i= .v (.int .i64 k)->a n= .v (.int .i64 len)->PA σ H ks hk (q y) (hp y) a H'->Wk a H' (st (k,y)) (A (k,y)):=by
  intro k y a H' I U ⟨b1,b2,b3,b4⟩;grind [mH,E7,Vf]
 unfold uX;rw[TC,TB];refine⟨⟨Nat×X,λx=>x.1<=len/\P x.1 x.2,st,A,λx=>len -x.1⟩,⟨(0,w),⟨qBB _,h0⟩,r 0 w σ H hi hn ⟨hs,λ_ _=>rfl,hh,λ_ _=>rfl⟩⟩,?_⟩;rintro⟨k,x⟩ ⟨M,W⟩;have si:st (k,x) i= .v (.int .i64 k):=by simp[st,rC,upd]
 have sN:st (k,x) n= .v (.int .i64 len):=by
  have:¬n=i:=λe=>Q e.symm
  simp[st,rC,upd,this]
 let C:qou:=⟨Nat×X,λx=>x.1<=len/\P x.1 x.2,st,A,λx=>len -x.1⟩
 change vc S _ (qc9 C (k,x) (qdQ id K)) (st (k,x)) (A (k,x));rw[qbL,qlO,qng,qr0];simp only[qep,si,sN,qn1,true_and,qhx,qn2];rw[qlG,TA,qbL,qrC];have sc:ev (fj (st (k,x)) (some c) (.v (.bool (decide ((k:Int)<len))))) (.tmp c)= .v (.bool (decide ((k:Int)<len))):=by simp[upd]
 rw[sc,qnH];refine⟨λN=>?_,λO=>?_⟩
 ·have E:k < len:=by simpa using N
  rw[qnD,TA,qbL,TC,qlP];refine⟨st (k,x),A (k,x),qk8 (λt=>?_) (λ_ _ h=> .inl h),?_⟩
  ·rw[YO,qpE];split
   ·rename_i e;subst e;have I:st (k,x) t= .any:=by
     have hsl:∀(l:List (Nat×D)),(∀p∈l,p.1≠t)->rC l (iF ks σ) t= .any:=by
      intro l
      induction l with
      |nil=>intro _;rw[qad,Nb,if_neg m3]
      | cons p l ih=>
        obtain⟨s,d⟩:=p;intro h;have:¬t=s:=λe=>h (s,d) (by simp) e.symm
        simp only[rC,upd,this,if_false];exact ih λp hp=>h p (by simp[hp])
     have h1:¬t=i:=λe=>Z e.symm
     have h2:¬t=n:=λe=>n4 e.symm
     simp only[st,rC,upd,h1,h2,if_false];exact hsl _ (L x t (by simp))
    rw[I];exact trivial
   ·exact Vf _
  ·refine xS body _ _ (λe a H' h=>?_) (Y k x E W);have wK:∀a H',(a i= .v (.int .i64 k)/\a n= .v (.int .i64 len)/\∃y,P (k+1) y/\PA σ H ks hk (q y) (hp y) a H')->
    Za S (.reg [.op (some b) none (.arith .add (.tmp i) (.const (.int .i64 1))), .op (some i) none (.mv (.tmp b))]) (qc9 C (k,x) (qdQ id K)) .norm a H':=by
    intro a H' ⟨I,U,y,hy,hb⟩;rw[TA,qlO,qng,qkL];simp only[qep,qi1,qpC,I,qhO,qjZ,true_and,qdT,InR];refine⟨by omega,?_⟩;rw[qng,qym];dsimp only;rw[qlG];simp only[qep,YO];rw[qnG];refine⟨(k+1,y),⟨by show k+1<=len;omega,hy⟩,r (k+1) y _ _ ?_ ?_ ?_,by show len - (k+1)<len -k;omega⟩
    ·simp[upd]
    ·have h1:¬n=i:=λe=>Q e.symm
     simp[upd,h1,n5,U]
    ·exact⟨Ei (L y i (by simp)) (Ei (L y b (by simp)) hb.1),Qv m1 (Qv m4 hb.2.1),hb.2.2.1,hb.2.2.2⟩
   cases e with
   |norm=>rw[qnJ];exact wK a H' h
   | ret=>
     rw[qg8,qnE,qnF,qg8];exact h
   | ex j=>
     rw[Z1];have h:if j=u then a i= .v (.int .i64 k)/\a n= .v (.int .i64 len)/\∃y,P (k+1) y/\PA σ H ks hk (q y) (hp y) a H' else if j=id then K .norm a H' else K (.ex j) a H':=h
     split
     ·rename_i e;rw[if_pos e]at h;exact wK a H' h
     ·rename_i e;rw[if_neg e]at h;rw[qg6,qg7,Z1];exact h
 ·have F:k=len:=by
   have:¬((k:Int)<len):=by simpa using O
   have:k<=len:=M;omega
  subst F;rw[qnI,qg6,qg7,Z1,if_pos rfl];have:decide ((k:Int)<k)=false:=by simp
  rw[this];exact he x W
theorem ah{X:Type}(ks hk:List Nat)(len:Nat)(P:Nat->X->Prop)(a:X->List (Nat×D))(hp:X->List (Nat×Res))(d:X){id i n c b h:Nat}{body:CC}
 (h0:P 0 d)
 (l:∀k x,k<len->P k x->vc S body (qfr id b i n len (λy=>PA σ H ks hk (a y) (hp y)) (P (k+1)) k K) (rC ((i, .v (.int .i64 k))::(n, .v (.int .i64 len))::a x) (iF ks σ)) (gk (hp x) (iG hk H)))
 (he:∀x,P len x->K .norm (upd (rC ((i, .v (.int .i64 len))::(n, .v (.int .i64 len))::a x) (iF ks σ)) c (.v (.bool false))) (gk (hp x) (iG hk H))) (hi:σ i= .v (.int .i64 0):=by simp) (hn:σ n= .v (.int .i64 len):=by simp) (hlen:(len:Int)<=9223372036854775807:=by omega) (q:([i,n,c,h] ++ks).Nodup:=by simp) (j:∀x,∀p∈a x,p.1∉ [i,n,c,h]:=by simp) (hs:mH (a d) σ:=by simp) (hh:sE (hp d) H:=by simp):vc S (uX id i n c b body h) K σ H:=
 UT ks hk len P a hp d hi hn hlen q j h0 hs hh l he
end
end
section
open Cod (enc dec)
theorem cS{X:Type}[Cod X]{x y:X}(h:enc x=enc y):x=y:=by
 have:=congrArg (dec (X:=X)) h;simpa using this
@[simp] theorem qxT{X:Type}[Cod X](l a:List X):(l.map enc=a.map enc)=(l=a):=by
 refine propext ⟨λh=>?_,λh=>h ▸rfl⟩
 induction l generalizing a with
 | nil=>cases a with
   |nil=>rfl
   |cons y a=>simp at h
 | cons x l b=>cases a with
   |nil=>simp at h
   | cons y a=>
     simp only[qBZ,qB6]at h;rw[cS h.1,b _ h.2]
def jp{X:Type}[Cod X](l:List X)(i:Nat)(x:X):(l.map enc).set i (enc x)=(l.set i x).map enc:=by
 rw[qDm]
def TS{X:Type}[Cod X](l:List X)(x:X):l.map enc++ [enc x]=(l++ [x]).map enc:=by simp
def fM{X:Type}[Cod X]{H:ab}{id n:Nat}{v:Value}{l:List X}(el:Nat)(h:H id=some (.row v el n (l.map enc)))(hn:n=Cod.wd X:=by rfl):FrzTo H (.own id v) (.list n (l.map enc)):=by
 subst hn;exact qdx h
inductive Ky where
 |e
 |o (k:Ky)
 |i (k:Ky)
deriving DecidableEq
inductive Tr where
 |nil
 |nd (d:D) (l r:Tr)
def Tr.get:Tr->Ky->D
 | .nil,_=> .any
 | .nd d _ _, .e=>d
 | .nd _ l _, .o k=>l.get k
 | .nd _ _ r, .i k=>r.get k
def Tr.set:Tr->Ky->D->Tr
 | .nil, .e,x=> .nd x .nil .nil
 | .nil, .o k,x=> .nd .any (Tr.set .nil k x) .nil
 | .nil, .i k,x=> .nd .any .nil (Tr.set .nil k x)
 | .nd _ l r, .e,x=> .nd x l r
 | .nd d l r, .o k,x=> .nd d (l.set k x) r
 | .nd d l r, .i k,x=> .nd d l (r.set k x)
noncomputable def Tr.frz(id:Nat)(x:Value)(L:D):Tr->Tr
 | .nil=> .nil
 | .nd d l r=> .nd (KT id x L d) (l.frz id x L) (r.frz id x L)
def qoY:Nat->Nat->Ky
 | 0,_=> .e
 |f+1,n=>if n=0 then .e else if(n -1) % 2=0 then .o (qoY f ((n -1) /2))else .i (qoY f ((n -1) /2))
def ky(n:Nat):Ky:=qoY n n
def Ky.val:Ky->Nat
 | .e=>0
 | .o k=>2*k.val+1
 | .i k=>2*k.val+2
def Lk:∀(f n:Nat),n<=f->(qoY f n).val=n
 | 0,n,h=>by
   have:n=0:=by omega
   subst this;rfl
 | f+1,n,h=>by
   unfold qoY;split
   ·rename_i e;subst e;rfl
   ·split
    ·simp only[Ky.val];rw[Lk f _ (by omega)];omega
    ·simp only[Ky.val];rw[Lk f _ (by omega)];omega
def qgg{m n:Nat}(h:ky m=ky n):m=n:=by
 have h1:=Lk m m (qBj _);have h2:=Lk n n (qBj _);unfold ky at h;rw[h]at h1;exact h1.symm.trans h2
def get_set:∀(T:Tr) (k j:Ky) (x:D),(T.set k x).get j=if j=k then x else T.get j
 | .nil, .e,j,x=>by cases j<;>simp[Tr.set,Tr.get]
 | .nil, .o k,j,x=>by
   have a:=λj=>get_set .nil k j x
   cases j<;>simp[Tr.set,Tr.get,a]
 | .nil, .i k,j,x=>by
   have a:=λj=>get_set .nil k j x
   cases j<;>simp[Tr.set,Tr.get,a]
 | .nd d l r, .e,j,x=>by cases j<;>simp[Tr.set,Tr.get]
 | .nd d l r, .o k,j,x=>by
   have a:=λj=>get_set l k j x
   cases j<;>simp[Tr.set,Tr.get,a]
 | .nd d l r, .i k,j,x=>by
   have a:=λj=>get_set r k j x
   cases j<;>simp[Tr.set,Tr.get,a]
def KS(T:Tr):Sg:=λt=>T.get (ky t)
@[simp] theorem quh(T:Tr)(t:Nat):KS T t=T.get (ky t):=i' rfl
@[simp] theorem qpD(T:Tr)(t:Nat)(d:D):upd (KS T) t d=KS (T.set (ky t) d):=by
 funext s;simp only[upd,KS,get_set];by_cases h:s=t
 ·simp[h]
 ·have:¬ky s=ky t:=λe=>h (qgg e)
  simp[h,this]
def qgB:KS .nil=λ_=> .any:=by
 funext t;simp[KS,Tr.get]
@[simp] theorem qni(a:Sg):iF [] a=KS .nil:=by rw[qgB];rfl
@[simp] theorem qjY(t:Nat)(l:List Nat)(a:Sg):iF (t::l) a=upd (iF l a) t (a t):=i' rfl
@[simp] theorem qyU(a:Sg):rC [] a=a:=i' rfl
@[simp] theorem qvx(t:Nat)(d:D)(l:List (Nat×D))(a:Sg):rC ((t,d)::l) a=upd (rC l a) t d:=i' rfl
def JS:Nat->List D->Tr
 | _, []=> .nil
 |n,d::l=>(JS (n+1) l).set (ky n) d
@[simp] theorem qo0(n:Nat):JS n []= .nil:=i' rfl
@[simp] theorem qnn(n:Nat)(d:D)(l:List D):JS n (d::l)=(JS (n+1) l).set (ky n) d:=i' rfl
def Qw:∀(l:List D) (n t:Nat),(JS n l).get (ky t)=if n<=t then(l[t -n]?).getD .any else .any
 | [],n,t=>by simp[JS,Tr.get]
 | d::l,n,t=>by
   rw[JS,get_set,Qw l (n+1) t];by_cases h:t=n
   ·subst h;simp
   ·have:¬ky t=ky n:=λe=>h (qgg e)
    rw[if_neg this];by_cases h2:n+1<=t
    ·have h3:n<=t:=by omega
     rw[if_pos h2,if_pos h3];have:t -n=(t - (n+1)) +1:=by omega
     rw[this];simp
    ·have h3:¬n<=t:=by omega
     rw[if_neg h2,if_neg h3]
@[simp] theorem qxk(l:List D):dr l=KS (JS 0 l):=by
 funext t;simp[dr,KS,Qw]
@[simp] theorem qzK(id:Nat)(x:Value)(L:D)(T:Tr):qdz id x L (KS T)=KS (T.frz id x L):=by
 funext t;simp only[qdz,KS];generalize ky t=k
 induction T generalizing k with
 |nil=>simp[Tr.frz,Tr.get,KT]
 | nd d l r a b=>
   cases k with
   |e=>rfl
   |o k=>exact a k
   |i k=>exact b k
@[simp] theorem qrh(id:Nat)(x:Value)(L:D):Tr.nil.frz id x L= .nil:=i' rfl
@[simp] theorem qul(id:Nat)(x:Value)(L d:D)(l r:Tr):(Tr.nd d l r).frz id x L= .nd (KT id x L d) (l.frz id x L) (r.frz id x L):=i' rfl
@[simp] theorem qAm(k:Ky):Tr.nil.get k= .any:=by simp[Tr.get]
@[simp] theorem qAo(d:D)(l r:Tr):(Tr.nd d l r).get .e=d:=i' rfl
@[simp] theorem qAl(d:D)(l r:Tr)(k:Ky):(Tr.nd d l r).get (.o k)=l.get k:=i' rfl
@[simp] theorem qAn(d:D)(l r:Tr)(k:Ky):(Tr.nd d l r).get (.i k)=r.get k:=i' rfl
@[simp] theorem qzc(x:D):Tr.nil.set .e x= .nd x .nil .nil:=i' rfl
@[simp] theorem qza(k:Ky)(x:D):Tr.nil.set (.o k) x= .nd .any (Tr.set .nil k x) .nil:=i' rfl
@[simp] theorem qzb(k:Ky)(x:D):Tr.nil.set (.i k) x= .nd .any .nil (Tr.set .nil k x):=i' rfl
@[simp] theorem qAk(d:D)(l r:Tr)(x:D):(Tr.nd d l r).set .e x= .nd x l r:=i' rfl
@[simp] theorem qAi(d:D)(l r:Tr)(k:Ky)(x:D):(Tr.nd d l r).set (.o k) x= .nd d (l.set k x) r:=i' rfl
@[simp] theorem qAj(d:D)(l r:Tr)(k:Ky)(x:D):(Tr.nd d l r).set (.i k) x= .nd d l (r.set k x):=i' rfl
inductive KL where
 |n
 |c (a:Nat) (k:Ky) (l:KL)
def qw0:Nat->Nat->KL
 | 0,_=> .n
 |n+1,a=> .c a (qoY a a) (qw0 n (a+1))
def qt0:KL->Prop
 | .n=>True
 | .c a k l=>ky a=k/\qt0 l
def qwZ(n:Nat):∀a,qt0 (qw0 n a):=by induction n<;>simp_all [qw0,qt0,ky]
set_option maxRecDepth 100000 in
@[simp] def qAE:=Eq.mp (by conv=>lhs;(conv=>arg 1;reduce);simp only[qt0]) (qwZ 420 0)
@[simp] theorem qtM(H:ab)(i:Nat):bE [] H i=H i:=i' rfl
@[simp] theorem qqD(t i:Nat):En (some t) i=(Td i=Td t):=i' rfl
@[simp] theorem qqE(i:Nat):En none i=False:=i' rfl
@[simp] theorem qxo{i:Nat}(h:i< 990):Td i=i:=by unfold Td;rw[if_neg (by omega)]
@[simp] theorem qtO(d:Option Nat)(g:Option (Nat×Bool))(c:COp)(l:List CI)(H:ab)(i:Nat):bE (.op d g c::l) H i=if En (CI.op d g c).wid i then none else bE l H i:=i' rfl
@[simp] theorem qtN(a b:Nat)(l:List CI)(H:ab)(i:Nat):bE (.frz a b::l) H i=H i:=i' rfl
@[simp] theorem qvL(a:Option Nat)(b:Option (Nat×Bool))(x:Operand):(CI.op a b (.mv x)).wid=a:=i' rfl
@[simp] theorem qpw(a:Option Nat)(b:Option (Nat×Bool))(c:Operand)(x:Operand)(y:Operand):(CI.op a b (.pick c x y)).wid=a:=i' rfl
@[simp] theorem qoF(a:Option Nat)(b:Option (Nat×Bool))(el:Nat)(z:List Value):(CI.op a b (.alloc el z)).wid=a:=i' rfl
@[simp] theorem qoD(a:Option Nat)(b:Option (Nat×Bool))(z:List Value)(parts:List (Nat×Nat×Operand)):(CI.op a b (.build z parts)).wid=a:=i' rfl
@[simp] theorem ql9(a:Option Nat)(b:Option (Nat×Bool))(el:Nat)(n:Nat)(parts:List Operand):(CI.op a b (.bslice el n parts)).wid=a:=i' rfl
@[simp] theorem qpx(a:Option Nat)(b:Option (Nat×Bool))(agg:Bool)(sz:Nat)(x:Operand):(CI.op a b (.load agg sz x)).wid=a:=i' rfl
@[simp] theorem qk9(d:Option Nat)(g:Option (Nat×Bool))(r sz:Nat)(x y:Operand):(CI.op d g (.store (some r) sz x y)).wid=some r:=i' rfl
@[simp] theorem qoz(a:Option Nat)(b:Option (Nat×Bool))(x:Operand):(CI.op a b (.nilck x)).wid=a:=i' rfl
@[simp] theorem qoE(a:Option Nat)(b:Option (Nat×Bool))(op:BinOp)(x:Operand)(y:Operand):(CI.op a b (.arith op x y)).wid=a:=i' rfl
@[simp] theorem qsN(a:Option Nat)(b:Option (Nat×Bool))(op:BinOp)(x:Operand)(y:Operand):(CI.op a b (.cmp op x y)).wid=a:=i' rfl
@[simp] theorem qsM(a:Option Nat)(b:Option (Nat×Bool))(neg:Bool)(agg:Bool)(ks:List Yt)(x:Operand)(y:Operand):(CI.op a b (.eql neg agg ks x y)).wid=a:=i' rfl
@[simp] theorem qoy(a:Option Nat)(b:Option (Nat×Bool))(n:Nat)(x:Operand)(lo:Option Operand)(hi:Option Operand):(CI.op a b (.slice n x lo hi)).wid=a:=i' rfl
@[simp] theorem ql8(a:Option Nat)(b:Option (Nat×Bool))(x:Operand)(lo:Option Operand)(hi:Option Operand):(CI.op a b (.sslice x lo hi)).wid=a:=i' rfl
@[simp] theorem qoB(a:Option Nat)(b:Option (Nat×Bool))(off:Nat)(x:Operand):(CI.op a b (.faddr off x)).wid=a:=i' rfl
@[simp] theorem qoA(a:Option Nat)(b:Option (Nat×Bool))(n:Nat)(x:Operand)(i:Operand):(CI.op a b (.iaddr n x i)).wid=a:=i' rfl
@[simp] theorem qsL(a:Option Nat)(b:Option (Nat×Bool))(x:Operand)(i:Nat):(CI.op a b (.ext x i)).wid=a:=i' rfl
@[simp] theorem qsK(a:Option Nat)(b:Option (Nat×Bool))(x:Operand):(CI.op a b (.len x)).wid=a:=i' rfl
@[simp] theorem qpv(a:Option Nat)(b:Option (Nat×Bool))(x:Operand):(CI.op a b (.slen x)).wid=a:=i' rfl
@[simp] theorem qvM(a:Option Nat)(b:Option (Nat×Bool))(mx:Bool)(xs:List Operand):(CI.op a b (.mm mx xs)).wid=a:=i' rfl
@[simp] theorem qiC(d:Option Nat)(g:Option (Nat×Bool))(r el n b:Nat)(x y:Operand):(CI.op d g (.append (some r) el n b x y)).wid=some r:=i' rfl
@[simp] theorem qpy(a:Option Nat)(b:Option (Nat×Bool))(f:Nat)(args:List Operand):(CI.op a b (.call f args)).wid=a:=i' rfl
@[simp] theorem qoC(a:Option Nat)(b:Option (Nat×Bool))(r f:Nat)(args:List Operand):(CI.op a b (.callb r f args)).wid=some r:=i' rfl
variable {dq:Prop}
def qmW(s t:Spc):Spc:= .gen (λd ds H K=>s.pt d ds H K\/t.pt d ds H K) λd ds H K a hk h=>h.elim (λh=> .inl (s.mono d ds H K a hk h)) (λh=> .inr (t.mono d ds H K a hk h))
@[simp] theorem qwz(s t:Spc)(d:Nat)(ds:List D)(H:ab)(K:D->ab->Prop):(qmW s t).pt d ds H K=(s.pt d ds H K\/t.pt d ds H K):=i' rfl
def LP{P:Program}{f:Nat}{s t:Spc}(h1:Tri dq P f s.pt)(h2:Tri dq P f t.pt):Tri dq P f (qmW s t).pt:=λO tp w vs ds H d K a b c e g h=>h.elim (λh=>h1 O tp w vs ds H d K a b c e g h) (λh=>h2 O tp w vs ds H d K a b c e g h)
section
variable {X Y:Type}[Cod Y]
def qxG(A:fm X)(pre:X->Prop)(post:X->List Y->Prop)(el n:Nat):PT:=λd ds H K=>ga (A.dec ds) λx=>pre x/\∀v l,post x l->K (.own d v) (ak H d (some (.row v el n (l.map enc))))
def qxi(A:fm X)(pre:X->List Y->Prop)(post:X->List Y->List Y->Prop)(el n:Nat):PT:=λd ds H K=>∃id v l a x,ds= .own id v::a/\A.dec a=some x/\H id=some (.row v el n (l.map enc))/\pre x l/\
 ∀v' b,post x l b->K (.own id v') (ak H id (some (.row v' el n (b.map enc))))
def qxb(A:fm X)(pre:X->List Y->Prop)(post:X->List Y->List Y->Prop)(el n:Nat):PT:=λd ds H K=>∃id v l a x,ds= .own id v::a/\A.dec a=some x/\H id=some (.row v el n (l.map enc))/\pre x l/\
 ∀b,post x l b->K (.tup []) (ak H id (some (.row v el n (b.map enc))))
def qcT{o:Option X}{k a:X->Prop}(h:∀x,k x->a x)(ho:ga o k):ga o a:=by
 cases o<;>simp_all
def qkj(A:fm X)(pre:X->Prop)(post:X->List Y->Prop)(el n:Nat):sD (qxG A pre post el n):=λd ds H K a hk h=>qcT (λx h=>⟨h.1,λv l hp=>hk _ _ (h.2 v l hp)⟩) h
def qj5(A:fm X)(pre:X->List Y->Prop)(post:X->List Y->List Y->Prop)(el n:Nat):sD (qxi A pre post el n):=λd ds H K c hk ⟨id,v,l,a,x,h1,h2,h3,h4,h5⟩=>⟨id,v,l,a,x,h1,h2,h3,h4,λv' b hp=>hk _ _ (h5 v' b hp)⟩
def qj1(A:fm X)(pre:X->List Y->Prop)(post:X->List Y->List Y->Prop)(el n:Nat):sD (qxb A pre post el n):=λd ds H K c hk ⟨id,v,l,a,x,h1,h2,h3,h4,h5⟩=>⟨id,v,l,a,x,h1,h2,h3,h4,λb hp=>hk _ _ (h5 b hp)⟩
def qo6(A:fm X)(pre:X->Prop)(post:X->List Y->Prop)(el n:Nat):Spc:= .gen _ (qkj A pre post el n)
def qqB(A:fm X)(pre:X->List Y->Prop)(post:X->List Y->List Y->Prop)(el n:Nat):Spc:= .gen _ (qj5 A pre post el n)
def qoZ(A:fm X)(pre:X->List Y->Prop)(post:X->List Y->List Y->Prop)(el n:Nat):Spc:= .gen _ (qj1 A pre post el n)
@[simp] theorem qns(A:fm X)(pre:X->Prop)(post:X->List Y->Prop)(el n:Nat)(d:Nat)(ds:List D)(H:ab)(K:D->ab->Prop):(qo6 A pre post el n).pt d ds H K=ga (A.dec ds) λx=>pre x/\∀v l,post x l->K (.own d v) (ak H d (some (.row v el n (l.map enc)))):=i' rfl
def que(A:fm X)(pre:X->List Y->Prop)(post:X->List Y->List Y->Prop)(el n id:Nat)(v:Value)(ds:List D)(r:Option Res)(H:ab)(K:D->ab->Prop):Prop:=∃l,r=some (.row v el n (l.map enc))/\ga (A.dec ds) λx=>pre x l/\∀v' a,post x l a->K (.own id v') (ak H id (some (.row v' el n (a.map enc))))
def qub(A:fm X)(pre:X->List Y->Prop)(post:X->List Y->List Y->Prop)(el n id:Nat)(v:Value)(ds:List D)(r:Option Res)(H:ab)(K:D->ab->Prop):Prop:=∃l,r=some (.row v el n (l.map enc))/\ga (A.dec ds) λx=>pre x l/\∀a,post x l a->K (.tup []) (ak H id (some (.row v el n (a.map enc))))
@[congr] theorem qxh{A:fm X}{pre:X->List Y->Prop}{post:X->List Y->List Y->Prop}{el n id:Nat}{v:Value}{ds a:List D}{r r':Option Res}{H:ab}{K:D->ab->Prop}(h1:ds=a)(h2:r=r'):que A pre post el n id v ds r H K=que A pre post el n id v a r' H K:=by grind
@[congr] theorem qxa{A:fm X}{pre:X->List Y->Prop}{post:X->List Y->List Y->Prop}{el n id:Nat}{v:Value}{ds a:List D}{r r':Option Res}{H:ab}{K:D->ab->Prop}(h1:ds=a)(h2:r=r'):qub A pre post el n id v ds r H K=qub A pre post el n id v a r' H K:=by grind
@[simp] theorem qxj(A:fm X)(pre:X->List Y->Prop)(post:X->List Y->List Y->Prop)(el n:Nat)(d i:Nat)(v:Value)(ds:List D)(H:ab)(K:D->ab->Prop):(qqB A pre post el n).pt d (.own i v::ds) H K=que A pre post el n i v ds (H i) H K:=by
 refine propext ⟨λh=>?_,λh=>?_⟩
 ·obtain⟨id,v,l,b,x,h1,h2,h3,h4,h5⟩:=h;cases h1;refine⟨l,h3,?_⟩;rw[h2];exact⟨h4,h5⟩
 ·obtain⟨l,h1,h2⟩:=h;cases a:A.dec ds with
  |none=>rw[a]at h2;exact h2.elim
  |some x=>rw[a]at h2;exact⟨i,v,l,ds,x,rfl,a,h1,h2.1,h2.2⟩
@[simp] theorem qxc(A:fm X)(pre:X->List Y->Prop)(post:X->List Y->List Y->Prop)(el n:Nat)(d i:Nat)(v:Value)(ds:List D)(H:ab)(K:D->ab->Prop):(qoZ A pre post el n).pt d (.own i v::ds) H K=qub A pre post el n i v ds (H i) H K:=by
 refine propext ⟨λh=>?_,λh=>?_⟩
 ·obtain⟨id,v,l,b,x,h1,h2,h3,h4,h5⟩:=h;cases h1;refine⟨l,h3,?_⟩;rw[h2];exact⟨h4,h5⟩
 ·obtain⟨l,h1,h2⟩:=h;cases a:A.dec ds with
  |none=>rw[a]at h2;exact h2.elim
  |some x=>rw[a]at h2;exact⟨i,v,l,ds,x,rfl,a,h1,h2.1,h2.2⟩
@[simp] theorem qzG(A:fm X)(pre:X->List Y->Prop)(post:X->List Y->List Y->Prop)(el n id:Nat)(v:Value)(ds:List D)(l:List Y)(H:ab)(K:D->ab->Prop):que A pre post el n id v ds (some (.row v el n (l.map enc))) H K=ga (A.dec ds) λx=>pre x l/\∀v' a,post x l a->K (.own id v') (ak H id (some (.row v' el n (a.map enc)))):=by
 refine propext ⟨λ⟨a,h1,h2⟩=>?_,λh=>⟨l,rfl,h⟩⟩;simp at h1;subst h1;exact h2
@[simp] theorem qzE(A:fm X)(pre:X->List Y->Prop)(post:X->List Y->List Y->Prop)(el n id:Nat)(v:Value)(ds:List D)(l:List Y)(H:ab)(K:D->ab->Prop):qub A pre post el n id v ds (some (.row v el n (l.map enc))) H K=ga (A.dec ds) λx=>pre x l/\∀a,post x l a->K (.tup []) (ak H id (some (.row v el n (a.map enc)))):=by
 refine propext ⟨λ⟨a,h1,h2⟩=>?_,λh=>⟨l,rfl,h⟩⟩;simp at h1;subst h1;exact h2
def qk7(el n:Nat)(q:List Y->Prop)(r:D)(H':ab):Prop:=∃j v l,r= .own j v/\H' j=some (.row v el n (l.map enc))/\q l
def du{el n:Nat}{q:List Y->Prop}{j:Nat}{v:Value}{H':ab}(l:List Y)(h:H' j=some (.row v el n (l.map enc)))(a:q l):qk7 el n q (.own j v) H':=⟨j,v,l,rfl,h,a⟩
def Yj(cc:CC)(rs:List ai)(S:Nat->Spc)(A:fm X)(pre:X->Prop)(post:X->List Y->Prop)(el n:Nat):Prop:=
 ∀x,pre x->vc S cc (uL rs λr H'=>qk7 el n (post x) r H') (dr (A.view x)) cX
def TU(cc:CC)(rs:List ai)(S:Nat->Spc)(A:fm X)(pre:X->List Y->Prop)(post:X->List Y->List Y->Prop)(el n:Nat):Prop:=
 ∀v l x,pre x l->vc S cc (uL rs λr H'=>qk7 el n (post x l) r H') (dr (.own 0 v::A.view x)) (ak cX 0 (some (.row v el n (l.map enc))))
variable {P:Program}{S:Nat->Spc}{f:Nat}{im:List Nat}{cc:CC}{rs:List ai}{N:Nat}{A:fm X}{el n:Nat}
theorem BY{pre:X->Prop}{post:X->List Y->Prop}(p:∀f,Tri dq P f (S f).pt)(h:zF P f im cc rs N)(y:∀x,(A.view x).length<=N)(t:Yj cc rs S A pre post el n):Tri dq P f (qo6 A pre post el n).pt:=by
 obtain⟨wJ,enter,fn,code,h1,h2,h3,h4,h5⟩:=h;refine mJ p wJ h1 h2 enter h3 h4 h5 ?_;intro ds H d K b;rw[qns]at b;cases c:A.dec ds with
 |none=>simp_all
 | some x=>
   rw[c]at b;obtain⟨hp,u⟩:=b;have hl:=A.le ds x c;refine⟨by rw[hl.1];grind,A.view x,cX,id,hl,λi r h=>by simp at h,λi j r s h=>by simp,_,t x hp,?_⟩;rintro r H' ⟨j,v,l,rfl,C,a⟩;refine⟨.own d v,cX,ak H d (some (.row v el n (l.map enc))),λi=>if i=d then some j else none, .own _ _ _,λj q h=>by simp at h,u v l a,λi s hi=>?_,λi E k s q hi w F I=>?_⟩
   ·by_cases e:i=d
    all_goals simp_all
   grind
theorem DK{pre:X->List Y->Prop}{post:X->List Y->List Y->Prop}(u:∀f,Tri dq P f (S f).pt)(h:zF P f im cc rs N)(I:∀x,(A.view x).length+1<=N)(w:TU cc rs S A pre post el n):Tri dq P f (qqB A pre post el n).pt:=by
 obtain⟨wJ,enter,fn,code,h1,h2,h3,h4,h5⟩:=h;refine mJ u wJ h1 h2 enter h3 h4 h5 ?_;rintro ds H d K ⟨id,v,l,p,x,rfl,y,hid,hp,C⟩;have hl:=A.le p x y;refine⟨by simp only[qB2];rw[hl.1];grind, .own 0 v::A.view x,ak cX 0 (some (.row v el n (l.map enc))),λ_=>id, .cons (.own _ _ _) hl,λi r h=>?_,λi j r s h E _=>?_,_,w v l x hp,?_⟩;simp_all
 ·have a:i=0:=by
   by_cases e:i=0;omega
   ·simp[ak,e]at h
  have b:j=0:=by
   by_cases e:j=0;omega
   ·simp[ak,e]at E
  omega
 ·rintro r H' ⟨j,v',t,rfl,J,c⟩;refine⟨.own id v',cX,ak H id (some (.row v' el n (t.map enc))),λi=>if i=id then some j else none, .own _ _ _,λj q h=>by simp at h,C v' t c,λi s hi=>?_,λi L k s q hi F M O=>?_⟩
  ·by_cases e:i=id;simp_all;simp_all;omega
  grind
end
def aD{X:Type}(A:fm X):fm (D×X):=⟨λds=>match ds with|d::r=>(A.dec r).map λx=>(d,x)|_=>none,λx=>x.1::A.view x.2,λds x h=>by
 split at h
 ·simp only[qBk]at h;obtain⟨y,a,rfl⟩:=h;exact .cons (.same _) (A.le _ _ a)
 grind⟩
def aE(X:Type)[Cod X]{Y:Type}(A:fm Y):fm (X×Y):=⟨λds=>match ds with|d::r=>(dec d).bind λx=>(A.dec r).map λy=>(x,y)|_=>none,λx=>enc x.1::A.view x.2,λds x h=>by
 split at h
 ·simp only[qBb,qBk]at h;obtain⟨x,a,y,b,rfl⟩:=h;exact .cons (Cod.le _ _ a) (A.le _ _ b)
 grind⟩
@[simp] theorem qoh{X:Type}(A:fm X)(d:D)(r:List D):(aD A).dec (d::r)=(A.dec r).map λx=>(d,x):=i' rfl
@[simp] theorem qvA{X:Type}(A:fm X)(d:D)(x:X):(aD A).view (d,x)=d::A.view x:=i' rfl
@[simp] theorem qyW{X Y:Type}[Cod X](A:fm Y)(d:D)(r:List D):(aE X A).dec (d::r)=(dec d).bind λx=>(A.dec r).map λy=>(x,y):=i' rfl
@[simp] theorem qvz{X Y:Type}[Cod X](A:fm Y)(x:X)(y:Y):(aE X A).view (x,y)=enc x::A.view y:=i' rfl
def FunIs{X Y:Type}[Cod X][Cod Y](S:Nat->Spc)(d:D)(p:X->Y):Prop:=
 ∃g caps a,d= .clo g caps/\S g= .pure a/\∀x:X,a.pre (enc x::caps)/\∀r,a.post (enc x::caps) r->r=enc (p x)
def FunIs.use'{X Y:Type}[Cod X][Cod Y]{S:Nat->Spc}{d:D}{p:X->Y}(h:FunIs S d p)(x:X)(a:Nat)(H:ab)(K:D->ab->Prop)(hk:∀y:Y,(∀q,FunIs S d q->y=q x)->K (enc y) H):BJ S d a [enc x] H K:=by
 grind [FunIs,BJ,Spc.pt,cS]
def FunIs.useB{X:Type}[Cod X]{S:Nat->Spc}{d:D}{p:X->Bool}(h:FunIs S d p)(x:X){a:Nat}{H:ab}{K:D->ab->Prop}(hk:∀y:Bool,(∀q,FunIs S d q->y=q x)->K (.v (.bool y)) H):BJ S d a [enc x] H K:=h.use' x a H K hk
def FunIs.eq{X Y:Type}[Cod X][Cod Y]{S:Nat->Spc}{d:D}{p q:X->Y}(hex:∀g a ds,S g= .pure a->a.pre ds->∃r,a.post ds r)(h:FunIs S d p)(k:FunIs S d q):p=q:=by
 obtain⟨g,caps,a,rfl,h1,h2⟩:=h;obtain⟨l,b,j,e,c,s⟩:=k;cases e;rw[h1]at c;cases c;funext x;obtain⟨r,t⟩:=hex g a _ h1 (h2 x).1;grind [cS]
def qk6(d:D):Prop:=∀(tp I a b:Nat->Prop) (w w':World) (x:Value),R tp I w x d->R a b w' x d
def qnt(v:Value):qk6 (.v v):=λtp I a b w w' x h=>by
 cases h with
 |v _ h1 h2=>exact .v _ h1 h2
def qgJ{ds:List D}(h:∀d∈ds,qk6 d):qk6 (.tup ds):=λtp I a l w w' x b=>by
 cases b with
 |tup xs _ hl j=>exact .tup xs ds hl λk x c h1 h2=>h c (qBf h2) _ _ _ _ _ _ _ (j k x c h1 h2)
section
variable {X Y Z:Type}[Cod Y]
def qyz(A:fm X)(pre:List Y×X->Prop)(er:Z->D)(post:List Y×X->Z->Prop)(el n:Nat):PT:=λd ds H K=>∃id v l a x,ds= .own id v::a/\A.dec a=some x/\H id=some (.row v el n (l.map enc))/\pre (l,x)/\∀z,post (l,x) z->K (er z) H
def qkO(A:fm X)(pre:List Y×X->Prop)(er:Z->D)(post:List Y×X->Z->Prop)(el n:Nat):sD (qyz A pre er post el n):=λd ds H K b hk ⟨id,v,l,a,x,h1,h2,h3,h4,h5⟩=>⟨id,v,l,a,x,h1,h2,h3,h4,λz hz=>hk _ _ (h5 z hz)⟩
def qvj(A:fm X)(pre:List Y×X->Prop)(er:Z->D)(post:List Y×X->Z->Prop)(el n:Nat):Spc:= .gen _ (qkO A pre er post el n)
def qvi(A:fm X)(pre:List Y×X->Prop)(er:Z->D)(post:List Y×X->Z->Prop)(el n:Nat)(v:Value)(ds:List D)(r:Option Res)(H:ab)(K:D->ab->Prop):Prop:=∃l,r=some (.row v el n (l.map enc))/\ga (A.dec ds) λx=>pre (l,x)/\∀z,post (l,x) z->K (er z) H
@[congr] theorem qyy{A:fm X}{pre:List Y×X->Prop}{er:Z->D}{post:List Y×X->Z->Prop}{el n:Nat}{v:Value}{ds a:List D}{r r':Option Res}{H:ab}{K:D->ab->Prop}(h1:ds=a)(h2:r=r'):qvi A pre er post el n v ds r H K=qvi A pre er post el n v a r' H K:=by grind
@[simp] theorem qyA(A:fm X)(pre:List Y×X->Prop)(er:Z->D)(post:List Y×X->Z->Prop)(el n:Nat)(d i:Nat)(v:Value)(ds:List D)(H:ab)(K:D->ab->Prop):(qvj A pre er post el n).pt d (.own i v::ds) H K=qvi A pre er post el n v ds (H i) H K:=by
 refine propext ⟨λh=>?_,λh=>?_⟩
 ·obtain⟨id,v,l,b,x,h1,h2,h3,h4,h5⟩:=h;cases h1;refine⟨l,h3,?_⟩;rw[h2];exact⟨h4,h5⟩
 ·obtain⟨l,h1,h2⟩:=h;cases a:A.dec ds with
  |none=>rw[a]at h2;exact h2.elim
  |some x=>rw[a]at h2;exact⟨i,v,l,ds,x,rfl,a,h1,h2.1,h2.2⟩
@[simp] theorem qz9(A:fm X)(pre:List Y×X->Prop)(er:Z->D)(post:List Y×X->Z->Prop)(el n:Nat)(v:Value)(ds:List D)(l:List Y)(H:ab)(K:D->ab->Prop):qvi A pre er post el n v ds (some (.row v el n (l.map enc))) H K=ga (A.dec ds) λx=>pre (l,x)/\∀z,post (l,x) z->K (er z) H:=by
 refine propext ⟨λ⟨a,h1,h2⟩=>?_,λh=>⟨l,rfl,h⟩⟩;simp at h1;subst h1;exact h2
theorem LQ{P:Program}{f:Nat}{A:fm X}{pre:List Y×X->Prop}{er:Z->D}{post:List Y×X->Z->Prop}{el n:Nat}(hf:Tri dq P f (aA (aE (List Y) A) pre er post).pt)(hn:n=Cod.wd Y)(p:∀z,qk6 (er z)):Tri dq P f (qvj A pre er post el n).pt:=by
 intro O tp w vs ds H d K hO M a hlen t hA;obtain⟨id,v,l,E,x,rfl,hd,hid,hp,hK⟩:=hA;subst hn;cases vs with
 |nil=>grind
 | cons J vs=>
   have Q:J=v:=by
    have:=t 0 J (.own id v) rfl rfl;cases this;rfl
   subst Q
   let L:Nat->Prop:=λb=>O b\/ ∃i r,i≠id/\H i=some r/\r.blk=some b
   have F:∀b,aW O tp H w b->aW L tp cX w b:=λb hb=>⟨hb.1,λh=>h.elim hb.2.1 λ⟨i,r,_,h1,h2⟩=>hb.2.2.2 ⟨i,r,h1,h2⟩,hb.2.2.1,λ⟨i,r,h1,_⟩=>by simp at h1⟩
   have U:∀y e,R tp (aW O tp H w) w y e->R tp (aW L tp cX w) w y e:=λy e W=>W.mono (λ_ h=>h) (λb hb=>⟨F b hb,rfl⟩) (λb _=> .refl _ _)
   have hl:R tp (aW L tp cX w) w J (.list (Cod.wd Y) (l.map enc)):=Mp (λb hb=>by
    have h1:=a.out id _ b hid hb;refine⟨(a.ok id _ hid).lt hb,λh=>h.elim h1.1 λ⟨i,r,hne,h2,h3⟩=>hne (a.dis _ _ _ _ b h2 hid h3 hb),h1.2,λ⟨i,r,h2,_⟩=>by simp at h2⟩) ((a.ok id _ hid).conv U (λ_ _=>rfl))
   have I:(aE (List Y) A).dec (.list (Cod.wd Y) (l.map enc)::E)=some (l,x):=by simp[hd]
   obtain⟨hce,hc⟩:=hf L tp w (J::vs) (.list (Cod.wd Y) (l.map enc)::E) cX d (λr H'=>∃z,r=er z/\post (l,x) z/\H'=cX)
    (λb hb=>hb.elim (hO b) λ⟨i,r,_,h1,h2⟩=>(a.ok i r h1).lt h2) (M.mono λb ⟨i,r,h,_⟩=>by simp at h) ⟨λi j r s b h=>by simp,λi r b h=>by simp at h,λi r h=>by simp at h⟩ (by omega)
    (λk y e h1 h2=>by
      grind)
    (by rw[pm,I];exact⟨hp,λz hz=>⟨z,rfl,hz,rfl⟩⟩)
   refine⟨hce,hc.mono ?_⟩;rintro e w' ⟨q,r,H',u,rfl,⟨z,rfl,hz,rfl⟩,t1,t2,t3,hs,ho,hsat',hR⟩;have c:∀b,b<w.heap.size->¬tp b->w'.heap[b]? =w.heap[b]?:=λb hb ht=>hs.same b hb (λ⟨i,r,h,_⟩=>by simp at h) ht
   have C:∀y e,R tp (aW O tp H w) w y e->R u (aW O u H w') w' y e:=λy e W=>W.mono t1 (λb hb=>⟨⟨qBu hb.1 hs.size,hb.2.1,λh=>by
    rcases t2 b h with h|h
    ·exact hb.2.2.1 h
    ·have:=hb.1;omega,hb.2.2.2⟩,c b hb.1 hb.2.2.1⟩) hs.tapes
   refine⟨q,er z,H,u,rfl,hK z hz,t1,t2,t3,⟨hs.os,hs.tape,hs.output,hs.size,λb hb _ ht=>c b hb ht,hs.tapes,hs.drawn⟩,λb h=> .inl h,⟨a.dis,λi r b h1 h2=>?_,λi r h1=>?_⟩,p z _ _ _ _ _ _ _ hR⟩
   ·have:=a.out i r b h1 h2;refine⟨this.1,λh=>?_⟩;rcases t2 b h with h|h;grind
    ·have:=(a.ok i r h1).lt h2;omega
   ·exact(a.ok i r h1).conv C λb hb=>c b ((a.ok i r h1).lt hb) (a.out i r b h1 hb).2
end
end
section
open Cod (enc dec)
abbrev B:=ByteArray
structure I32 where
 val:Int
deriving DecidableEq
instance:Cod I32 where
 wd:=1
 enc n:= .v (.int .i32 n.val)
 dec| .v (.int .i32 n)=>some ⟨n⟩|_=>none
 kn _:=rfl
 wid _:=rfl
 dec_enc _:=rfl
 le d x h:=by
  split at h;grind [FrzTo];grind
@[simp] theorem quI(n:I32):enc n= .v (.int .i32 n.val):=i' rfl
@[simp] theorem qvT:Cod.wd I32=1:=i' rfl
@[simp] theorem quQ(n:Int):dec (X:=I32) (.v (.int .i32 n))=some ⟨n⟩:=i' rfl
@[simp] theorem quA(n:I32):I32.mk n.val=n:=i' rfl
structure U8 where
 val:Int
deriving DecidableEq
instance:Cod U8 where
 wd:=1
 enc n:= .v (.int .u8 n.val)
 dec| .v (.int .u8 n)=>some ⟨n⟩|_=>none
 kn _:=rfl
 wid _:=rfl
 dec_enc _:=rfl
 le d x h:=by
  split at h;grind [FrzTo];grind
@[simp] theorem qxS(n:U8):enc n= .v (.int .u8 n.val):=i' rfl
@[simp] theorem qx3(n:Int):dec (X:=U8) (.v (.int .u8 n))=some ⟨n⟩:=i' rfl
@[simp] theorem qxM(n:U8):U8.mk n.val=n:=i' rfl
structure Pair where
 nm:B
 vl:B
deriving DecidableEq
instance:Cod Pair where
 wd:=2
 enc s:= .agg [enc s.nm,enc s.vl]
 dec| .agg [a,b]=>(dec a).bind λa=>(dec b).bind λb=>some ⟨a,b⟩|_=>none
 kn _:=rfl
 wid _:=rfl
 dec_enc s:=by simp
 le d x h:=by
  split at h;grind [FrzTo,Option.bind_eq_some_iff,Cod.le];grind
@[simp] theorem qrs(s:Pair):(Pair.mk s.nm s.vl)=s:=i' rfl
@[simp] theorem qry(s:Pair):enc s= .agg [enc s.nm,enc s.vl]:=i' rfl
@[simp] theorem qsS:Cod.wd Pair=2:=i' rfl
@[simp] theorem qrH(a b:D):dec (X:=Pair) (.agg [a,b])=((dec a).bind λa=>(dec b).bind λb=>some ⟨a,b⟩):=i' rfl
structure Attr where
 nm:B
 st:Bool
deriving DecidableEq
instance:Cod Attr where
 wd:=2
 enc s:= .agg [enc s.nm,enc s.st]
 dec| .agg [a,b]=>(dec a).bind λa=>(dec b).bind λb=>some ⟨a,b⟩|_=>none
 kn _:=rfl
 wid _:=rfl
 dec_enc s:=by simp
 le d x h:=by
  split at h;grind [FrzTo,Option.bind_eq_some_iff,Cod.le];grind
@[simp] theorem qrv(s:Attr):(Attr.mk s.nm s.st)=s:=i' rfl
@[simp] theorem qrB(s:Attr):enc s= .agg [enc s.nm,enc s.st]:=i' rfl
@[simp] theorem qsX:Cod.wd Attr=2:=i' rfl
@[simp] theorem qrJ(a b:D):dec (X:=Attr) (.agg [a,b])=((dec a).bind λa=>(dec b).bind λb=>some ⟨a,b⟩):=i' rfl
structure Span where
 b:Int
 e:Int
deriving DecidableEq
instance:Cod Span where
 wd:=2
 enc s:= .agg [enc s.b,enc s.e]
 dec| .agg [a,c]=>(dec a).bind λa=>(dec c).bind λc=>some ⟨a,c⟩|_=>none
 kn _:=rfl
 wid _:=rfl
 dec_enc s:=by simp
 le d x h:=by
  split at h;grind [FrzTo,Option.bind_eq_some_iff,Cod.le];grind
@[simp] theorem qrr(s:Span):(Span.mk s.b s.e)=s:=i' rfl
@[simp] theorem qrx(s:Span):enc s= .agg [enc s.b,enc s.e]:=i' rfl
@[simp] theorem qsR:Cod.wd Span=2:=i' rfl
@[simp] theorem qrG(a b:D):dec (X:=Span) (.agg [a,b])=((dec a).bind λa=>(dec b).bind λb=>some ⟨a,b⟩):=i' rfl
structure BV where
 nm:B
 b:Int
 e:Int
 kv:List Pair
deriving DecidableEq
instance:Cod BV where
 wd:=4
 enc s:= .agg [enc s.nm,enc s.b,enc s.e,enc s.kv]
 dec| .agg [a,c,j,k]=>(dec a).bind λa=>(dec c).bind λc=>(dec j).bind λj=>(dec k).bind λk=>some ⟨a,c,j,k⟩|_=>none
 kn _:=rfl
 wid _:=rfl
 dec_enc s:=by simp
 le d x h:=by
  split at h;grind [FrzTo,Option.bind_eq_some_iff,Cod.le];grind
@[simp] theorem qrw(s:BV):enc s= .agg [enc s.nm,enc s.b,enc s.e,enc s.kv]:=i' rfl
@[simp] theorem qsQ:Cod.wd BV=4:=i' rfl
structure Region where
 ty:B
 b:Int
 e:Int
 kv:List Pair
deriving DecidableEq
instance:Cod Region where
 wd:=4
 enc s:= .agg [enc s.ty,enc s.b,enc s.e,enc s.kv]
 dec| .agg [a,c,j,k]=>(dec a).bind λa=>(dec c).bind λc=>(dec j).bind λj=>(dec k).bind λk=>some ⟨a,c,j,k⟩|_=>none
 kn _:=rfl
 wid _:=rfl
 dec_enc s:=by simp
 le d x h:=by
  split at h;grind [FrzTo,Option.bind_eq_some_iff,Cod.le];grind
@[simp] theorem qnx(s:Region):(Region.mk s.ty s.b s.e s.kv)=s:=i' rfl
@[simp] theorem qnA(s:Region):enc s= .agg [enc s.ty,enc s.b,enc s.e,enc s.kv]:=i' rfl
@[simp] theorem qoH:Cod.wd Region=4:=i' rfl
@[simp] theorem qnP(a b c d:D):dec (X:=Region) (.agg [a,b,c,d])=((dec a).bind λa=>(dec b).bind λb=>(dec c).bind λc=>(dec d).bind λd=>some ⟨a,b,c,d⟩):=i' rfl
structure xO where
 lb:B
 b:Int
 e:Int
 par:Int
deriving DecidableEq
instance:Cod xO where
 wd:=4
 enc s:= .agg [enc s.lb,enc s.b,enc s.e,enc s.par]
 dec| .agg [a,c,j,k]=>(dec a).bind λa=>(dec c).bind λc=>(dec j).bind λj=>(dec k).bind λk=>some ⟨a,c,j,k⟩|_=>none
 kn _:=rfl
 wid _:=rfl
 dec_enc s:=by simp
 le d x h:=by
  split at h;grind [FrzTo,Option.bind_eq_some_iff,Cod.le];grind
@[simp] theorem qrz(s:xO):enc s= .agg [enc s.lb,enc s.b,enc s.e,enc s.par]:=i' rfl
@[simp] theorem qsT:Cod.wd xO=4:=i' rfl
structure Corpus where
 attrs:List Attr
 toks:List (List B)
 texts:List BV
 regs:List Region
 nodes:List xO
 heads:List Int
 rels:List B
deriving DecidableEq
instance:Cod Corpus where
 wd:=7
 enc s:= .agg [enc s.attrs,enc s.toks,enc s.texts,enc s.regs,enc s.nodes,enc s.heads,enc s.rels]
 dec| .agg [a,b,c,j,k,l,p]=>(dec a).bind λa=>(dec b).bind λb=>(dec c).bind λc=>(dec j).bind λj=>(dec k).bind λk=>(dec l).bind λl=>(dec p).bind λp=>some ⟨a,b,c,j,k,l,p⟩|_=>none
 kn _:=rfl
 wid _:=rfl
 dec_enc s:=by simp
 le d x h:=by
  split at h;grind [FrzTo,Option.bind_eq_some_iff,Cod.le];grind
@[simp] theorem qny(s:Corpus):(Corpus.mk s.attrs s.toks s.texts s.regs s.nodes s.heads s.rels)=s:=i' rfl
@[simp] theorem qnB(s:Corpus):enc s= .agg [enc s.attrs,enc s.toks,enc s.texts,enc s.regs,enc s.nodes,enc s.heads,enc s.rels]:=i' rfl
@[simp] theorem qnQ(a b c d h j k:D):dec (X:=Corpus) (.agg [a,b,c,d,h,j,k])=((dec a).bind λa=>(dec b).bind λb=>(dec c).bind λc=>(dec d).bind λd=>(dec h).bind λh=>(dec j).bind λj=>(dec k).bind λk=>some ⟨a,b,c,d,h,j,k⟩):=i' rfl
structure wG where
 r:I32
 pos:Int
 sz:Int
 ok:Bool
deriving DecidableEq
instance:Cod wG where
 wd:=4
 enc s:= .agg [enc s.r,enc s.pos,enc s.sz,enc s.ok]
 dec| .agg [a,b,c,j]=>(dec a).bind λa=>(dec b).bind λb=>(dec c).bind λc=>(dec j).bind λj=>some ⟨a,b,c,j⟩|_=>none
 kn _:=rfl
 wid _:=rfl
 dec_enc s:=by simp
 le d x h:=by
  split at h;grind [FrzTo,Option.bind_eq_some_iff,Cod.le];grind
@[simp] theorem qnz(s:wG):enc s= .agg [enc s.r,enc s.pos,enc s.sz,enc s.ok]:=i' rfl
@[simp] theorem qoG:Cod.wd wG=4:=i' rfl
structure Cond where
 op:Int
 name:B
 arg:B
 val:B
 lab:B
 fold:Bool
 kids:List Cond
mutual
def Tz:Cond->D
 | .mk op n a v l f ks=> .agg [enc op,enc n,enc a,enc v,enc l,enc f, .list 7 (BB ks)]
def BB:List Cond->List D
 | []=>[]
 |k::ks=>Tz k::BB ks
end
mutual
def Pn:D->Option Cond
 | .agg [b,c,d,h,j,k,p]=>(dec b).bind λop=>(dec c).bind λn=>(dec d).bind λa=>(dec h).bind λv=>(dec j).bind λl=>(dec k).bind λf=>(XA p).bind λks=>some (.mk op n a v l f ks)
 | _=>none
def XA:D->Option (List Cond)
 | .list n es=>if n=7 then G9 es else none
 | .v (.slice none 0 0)=>some []
 | _=>none
def G9:List D->Option (List Cond)
 | []=>some []
 |d::ds=>(Pn d).bind λx=>(G9 ds).bind λxs=>some (x::xs)
end
theorem I5:∀l:List Cond,BB l=l.map Tz
 | []=>rfl
 | _::l=>by rw[BB,I5 l];rfl
theorem qbK:∀c:Cond,(Tz c).kn=true
 | .mk .. =>rfl
theorem Xq:∀c:Cond,(Tz c).cells.length=7
 | .mk .. =>rfl
mutual
def XF:∀c:Cond,Pn (Tz c)=some c
 | .mk op n a v l f ks=>by
   have h:XA (.list 7 (BB ks))=some ks:=by rw[XA,if_pos rfl];exact QK ks
   simp_all [Tz,Pn]
def QK:∀l:List Cond,G9 (BB l)=some l
 | []=>by rfl
 |c::l=>by simp only[BB,G9,XF c,QK l,qBz]
end
mutual
def qbQ:∀(d:D) (c:Cond),Pn d=some c->FrzTo cX d (Tz c)
 | .agg [j,k,p,q,r,s,b],c,h=>by
   simp only[Pn,qBb,qBq]at h;obtain⟨op,h0,n,h1,a,h2,v,h3,l,h4,f,h5,ks,h6,rfl⟩:=h;rw[Tz];exact LeL.agg (.cons (Cod.le _ _ h0) (.cons (Cod.le _ _ h1) (.cons (Cod.le _ _ h2) (.cons (Cod.le _ _ h3) (.cons (Cod.le _ _ h4) (.cons (Cod.le _ _ h5) (.cons (qbO b ks h6) .nil)))))))
def qbO:∀(d:D) (l:List Cond),XA d=some l->FrzTo cX d (.list 7 (BB l))
 | .list n es,l,h=>by
   simp only[XA]at h;split at h
   ·rename_i hn;subst hn;have hl:=XE es l h;refine .list hl.1 (λe he=>?_) hl.2;grind [I5,qbK,Xq]
   grind
 | .v (.slice none 0 0),l,h=>by
   simp only[XA,qBq]at h;subst h;exact .nil _
def XE:∀(es:List D) (l:List Cond),G9 es=some l->LeL es (BB l)
 | [],l,h=>by
   simp only[G9,qBq]at h;subst h;exact .nil
 | d::ds,l,h=>by
   simp only[G9,qBb,qBq]at h;obtain⟨x,h1,xs,h2,rfl⟩:=h;rw[BB];exact .cons (qbQ d x h1) (XE ds xs h2)
end
instance:Cod Cond where
 wd:=7
 enc:=Tz
 dec:=Pn
 kn:=qbK
 wid:=Xq
 dec_enc:=XF
 le:=qbQ
def QG(ks:List Cond):D.list 7 (BB ks)=enc ks:=by rw[I5];rfl
theorem Xl(op:Int)(n a v l:B)(f:Bool)(ks:List Cond):enc (Cond.mk op n a v l f ks)= .agg [enc op,enc n,enc a,enc v,enc l,enc f,enc ks]:=by
 rw[<-QG];rfl
structure Pat where
 op:Int
 cond:Cond
 lab:B
 reg:B
 mn:Int
 mx:Int
 kids:List Pat
def EI:Cond->List D
 | .mk op n a v l f ks=>[enc op,enc n,enc a,enc v,enc l,enc f,enc ks]
def NI:∀c:Cond,(EI c).length=7
 | .mk .. =>rfl
mutual
def Pm:Pat->D
 | .mk op c l r mn mx ks=> .agg (enc op::(EI c++ [enc l,enc r,enc mn,enc mx, .list 13 (Bz ks)]))
def Bz:List Pat->List D
 | []=>[]
 |k::ks=>Pm k::Bz ks
end
mutual
def Xz:D->Option Pat
 | .agg [a,b,d,h,j,k,p,q,s,t,u,w,x]=>(dec a).bind λop=>(dec (D.agg [b,d,h,j,k,p,q])).bind λc=>(dec s).bind λl=>(dec t).bind λr=>(dec u).bind λmn=>(dec w).bind λmx=>(JW x).bind λks=>some (.mk op c l r mn mx ks)
 | _=>none
def JW:D->Option (List Pat)
 | .list n es=>if n=13 then G7 es else none
 | .v (.slice none 0 0)=>some []
 | _=>none
def G7:List D->Option (List Pat)
 | []=>some []
 |d::ds=>(Xz d).bind λx=>(G7 ds).bind λxs=>some (x::xs)
end
theorem I3:∀l:List Pat,Bz l=l.map Pm
 | []=>rfl
 | _::l=>by rw[Bz,I3 l];rfl
theorem qbI:∀c:Pat,(Pm c).kn=true
 | .mk .. =>rfl
theorem Xo:∀c:Pat,(Pm c).cells.length=13
 | .mk op c l r mn mx ks=>by simp[Pm,D.cells,NI]
mutual
def Xy:∀c:Pat,Xz (Pm c)=some c
 | .mk op (.mk b n a v cl f d) l r mn mx ks=>by
   have h:JW (.list 13 (Bz ks))=some ks:=by rw[JW,if_pos rfl];exact QI ks
   have hc:dec (D.agg [enc b,enc n,enc a,enc v,enc cl,enc f,enc d])=some (Cond.mk b n a v cl f d):=by grind [Xl,Cod.dec_enc]
   simp_all [Pm,EI,Xz]
def QI:∀l:List Pat,G7 (Bz l)=some l
 | []=>by rfl
 |c::l=>by simp only[Bz,G7,Xy c,QI l,qBz]
end
def qdI{d j k p q r b:D}{c:Cond}(h:dec (D.agg [d,j,k,p,q,r,b])=some c):LeL [d,j,k,p,q,r,b] (EI c):=by
 have s:Pn (D.agg [d,j,k,p,q,r,b])=some c:=h;simp only[Pn,qBb,qBq]at s;obtain⟨op,h0,n,h1,a,h2,v,h3,l,h4,f,h5,ks,h6,rfl⟩:=s;have hk:=qbO b ks h6;rw[QG]at hk;exact .cons (Cod.le _ _ h0) (.cons (Cod.le _ _ h1) (.cons (Cod.le _ _ h2) (.cons (Cod.le _ _ h3) (.cons (Cod.le _ _ h4) (.cons (Cod.le _ _ h5) (.cons hk .nil))))))
def LeL.append{a b c d:List D}(h:LeL a b)(k:LeL c d):LeL (a++c) (b++d):=by
 refine⟨by grind [LeL],λi x y j l=>?_⟩;rw[List.getElem?_append]at j l;by_cases hi:i<a.length
 ·rw[if_pos hi]at j;rw[if_pos (by grind [LeL])]at l;grind [LeL]
 ·rw[if_neg hi]at j;rw[if_neg (by grind [LeL]),<-h.1]at l;grind [LeL]
mutual
def qbN:∀(d:D) (c:Pat),Xz d=some c->FrzTo cX d (Pm c)
 | .agg [b,j,k,p,q,s,t,u,w,x,y,A,a],c,h=>by
   simp only[Xz,qBb,qBq]at h;obtain⟨op,h0,c,h1,l,h2,r,h3,mn,h4,mx,h5,ks,h6,rfl⟩:=h;rw[Pm];exact LeL.agg (.cons (Cod.le _ _ h0) ((qdI h1).append (.cons (Cod.le _ _ h2) (.cons (Cod.le _ _ h3) (.cons (Cod.le _ _ h4) (.cons (Cod.le _ _ h5) (.cons (qhh a ks h6) .nil)))))))
def qhh:∀(d:D) (l:List Pat),JW d=some l->FrzTo cX d (.list 13 (Bz l))
 | .list n es,l,h=>by
   simp only[JW]at h;split at h
   ·rename_i hn;subst hn;have hl:=Xx es l h;refine .list hl.1 (λe he=>?_) hl.2;grind [I3,qbI,Xo]
   grind
 | .v (.slice none 0 0),l,h=>by
   simp only[JW,qBq]at h;subst h;exact .nil _
def Xx:∀(es:List D) (l:List Pat),G7 es=some l->LeL es (Bz l)
 | [],l,h=>by
   simp only[G7,qBq]at h;subst h;exact .nil
 | d::ds,l,h=>by
   simp only[G7,qBb,qBq]at h;obtain⟨x,h1,xs,h2,rfl⟩:=h;rw[Bz];exact .cons (qbN d x h1) (Xx ds xs h2)
end
instance:Cod Pat where
 wd:=13
 enc:=Pm
 dec:=Xz
 kn:=qbI
 wid:=Xo
 dec_enc:=Xy
 le:=qbN
def qdE(ks:List Pat):D.list 13 (Bz ks)=enc ks:=by rw[I3];rfl
def qbF(op:Int)(c:Cond)(l r:B)(mn mx:Int)(ks:List Pat):enc (Pat.mk op c l r mn mx ks)= .agg (enc op::(EI c++ [enc l,enc r,enc mn,enc mx,enc ks])):=by
 rw[<-qdE];rfl
def ND:∀es:List D,G9 es=es.mapM (dec (X:=Cond))
 | []=>by rfl
 | d::es=>by
   rw[G9,qBS,ND es];rfl
def qkz:∀d:D,XA d=dec (X:=List Cond) d:=λd=>by
 unfold XA;split
 ·rename_i n es;show _=if n=7 then es.mapM (dec (X:=Cond))else none
  rw[ND]
 ·rfl
 ·rename_i h1 h2;show _=(match d with
   | .list n es=>if n=7 then es.mapM (dec (X:=Cond))else none
   | .v (.slice none 0 0)=>some []
   | _=>none)
  simp
def NB:∀es:List D,G7 es=es.mapM (dec (X:=Pat))
 | []=>by rfl
 | d::es=>by
   rw[G7,qBS,NB es];rfl
def qhi:∀d:D,JW d=dec (X:=List Pat) d:=λd=>by
 unfold JW;split
 ·rename_i n es;show _=if n=13 then es.mapM (dec (X:=Pat))else none
  rw[NB]
 ·rfl
 ·rename_i h1 h2;show _=(match d with
   | .list n es=>if n=13 then es.mapM (dec (X:=Pat))else none
   | .v (.slice none 0 0)=>some []
   | _=>none)
  simp
@[simp] theorem G6(s:Cond):Cond.mk s.op s.name s.arg s.val s.lab s.fold s.kids=s:=by cases s;rfl
@[simp] theorem qg4(s:Cond):enc s= .agg [enc s.op,enc s.name,enc s.arg,enc s.val,enc s.lab,enc s.fold,enc s.kids]:=by cases s;exact Xl ..
@[simp] theorem qsW:Cod.wd Cond=7:=i' rfl
@[simp] theorem qhe(a b c d h j k:D):dec (X:=Cond) (.agg [a,b,c,d,h,j,k])=((dec a).bind λa=>(dec b).bind λb=>(dec c).bind λc=>(dec d).bind λd=>(dec h).bind λh=>(dec j).bind λj=>(dec k).bind λk=>some ⟨a,b,c,d,h,j,k⟩):=by
 show Pn _=_;simp only[Pn,qkz]
@[simp] theorem qkr(s:Pat):Pat.mk s.op s.cond s.lab s.reg s.mn s.mx s.kids=s:=by cases s;rfl
@[simp] theorem qbG(s:Pat):enc s= .agg [enc s.op,enc s.cond.op,enc s.cond.name,enc s.cond.arg,enc s.cond.val,enc s.cond.lab,enc s.cond.fold,enc s.cond.kids,enc s.lab,enc s.reg,enc s.mn,enc s.mx,enc s.kids]:=by
 obtain⟨op,⟨a,b,c,d,e,f,g⟩,l,r,mn,mx,ks⟩:=s;exact qbF ..
@[simp] theorem qvV:Cod.wd Pat=13:=i' rfl
@[simp] theorem quU(a b c d h j k l p q r s t:D):dec (X:=Pat) (.agg [a,b,c,d,h,j,k,l,p,q,r,s,t])=
 ((dec a).bind λa=>(dec b).bind λb=>(dec c).bind λc=>(dec d).bind λd=>(dec h).bind λh=>(dec j).bind λj=>(dec k).bind λk=>(dec l).bind λl=>
   (dec p).bind λp=>(dec q).bind λq=>(dec r).bind λr=>(dec s).bind λs=>(dec t).bind λt=>some ⟨a,⟨b,c,d,h,j,k,l⟩,p,q,r,s,t⟩):=by
 show Xz _=_;simp only[Xz,qhi,qhe,Option.bind_assoc,qBz]
end
end Go.Gv
