/- T12 -/
import Derived.Test.YtnffegdacbdhmaaGreatDoorGe09
set_option linter.all false
namespace Go.Gv
section
open Cod (enc dec)
variable {dq:Prop}
structure dP (X:Type) where
 dec:List D->Option X
 view:X->List D
 le:∀ds x,dec ds=some x->LeL ds (view x)
def aG{X Y:Type}(A:dP X)(pre:X->Prop)(er:Y->D)(post:X->Y->Prop):Spc:=qi9 A.dec pre λx r=>∃y,r=er y/\post x y
def eL{X:Type}(o:Option X)(k:X->Prop):Prop:=match o with|some x=>k x|none=>False
@[congr] theorem qxC{X:Type}{o a:Option X}{k:X->Prop}(h:o=a):eL o k=eL a k:=by grind
@[simp] theorem qAP{X:Type}(x:X)(k:X->Prop):eL (some x) k=k x:=i' rfl
@[simp] theorem qAQ{X:Type}(k:X->Prop):eL none k=False:=i' rfl
@[simp] theorem mO{X Y:Type}(A:dP X)(pre:X->Prop)(er:Y->D)(post:X->Y->Prop)(d:Nat)(ds:List D)(H:ab)(K:D->ab->Prop):
 (aG A pre er post).pt d ds H K=eL (A.dec ds) λx=>pre x/\∀y,post x y->K (er y) H:=by
 refine propext ⟨λh=>?_,λh=>?_⟩
 ·obtain⟨⟨x,h1,h2⟩,h3⟩:=h;rw[h1];refine⟨h2,λy b=>h3 _ λj a _=>?_⟩;rw[h1]at a;cases a;exact⟨y,rfl,b⟩
 ·cases c:A.dec ds with
  |none=>rw[c]at h;exact h.elim
  | some x=>
    rw[c]at h;refine qhD x c h.1 ?_;rintro r ⟨y,rfl,b⟩;exact h.2 y b
@[simp] theorem qw7{X Y:Type}(A:dP X)(pre:X->Prop)(er:Y->D)(post:X->Y->Prop)(dst:Option Nat)(ds:List D)(H:ab)(K:D->ab->Prop):
 qfV dst (aG A pre er post) ds H K=eL (A.dec ds) λx=>pre x/\∀y,post x y->K (er y) H:=mO A pre er post 0 ds H K
def Fin{Y:Type}(er:Y->D)(q:Y->Prop)(r:D)(H':ab):Prop:=∃y,FrzTo H' r (er y)/\q y
def aL{Y:Type}{er:Y->D}{q:Y->Prop}{r:D}{H':ab}(y:Y)(h:FrzTo H' r (er y))(a:q y):Fin er q r H':=⟨y,h,a⟩
@[simp] theorem qyA(q:Int->Prop)(n:Int)(H':ab):Fin enc q (.v (.int .i64 n)) H'=q n:=by
 simp[Fin,qoA]
@[simp] theorem qvp(q:Bool->Prop)(n:Bool)(H':ab):Fin enc q (.v (.bool n)) H'=q n:=by
 refine propext ⟨λ⟨y,h1,h2⟩=>?_,λh=>⟨n, .same _,h⟩⟩;rw[qkJ,qvk]at h1;cases h1;exact h2
@[simp] theorem qyz(q:ByteArray->Prop)(n:ByteArray)(H':ab):Fin enc q (.v (.string n)) H'=q n:=by
 refine propext ⟨λ⟨y,h1,h2⟩=>?_,λh=>⟨n, .same _,h⟩⟩;rw[qoz,qvk]at h1;cases h1;exact h2
def ak{X Y:Type}(cc:CC)(rs:List aj)(S:Nat->Spc)(A:dP X)(pre:X->Prop)(er:Y->D)(post:X->Y->Prop):Prop:=
 ∀x,pre x->vc S cc (vE rs λr H'=>Fin er (post x) r H') (dR (A.view x)) bS
theorem ck{P:Program}{S:Nat->Spc}{f:Nat}{im:List Nat}{cc:CC}{rs:List aj}{N:Nat}{X Y:Type}{A:dP X}{pre:X->Prop}{er:Y->D}{post:X->Y->Prop}
 (a:∀f,Tri dq P f (S f).pt) (h:zY P f im cc rs N) (b:∀x,(A.view x).length<=N) (c:ak cc rs S A pre er post):Tri dq P f (aG A pre er post).pt:=
 qhK a h A.le b λx hp=>by
  refine AV cc _ _ (λe σ H h=>?_) (c x hp);cases e with
  |ex i=>exact h
  | _=>
    simp only[vE]at h ⊢;have key:∀(rs:List aj) (F G:List D->Prop),(∀ds,F ds->G ds)->Bm rs σ H F->Bm rs σ H G:=by
     intro rs
     induction rs with
     |nil=>simp_all
     | cons r rs j=>
       intro F G d h;cases r<;>grind [Bm,LR]
    exact key rs _ _ (λds ⟨y,h1,h2⟩=>⟨_,h1,y,rfl,h2⟩) h
def ac{P:Program}{S:Nat->Spc}{f:Nat}{im:List Nat}{cc:CC}{rs:List aj}{N:Nat}{X Y:Type}{A:dP X}{pre:X->Prop}{er:Y->D}{post:X->Y->Prop}
 (a:∀f,Tri dq P f (S f).pt) (h:zY P f im cc rs N) (b:ak cc rs S A pre er post) (c:∀x,(A.view x).length<=N:=by exactλ_=>qFJ rfl):Tri dq P f (aG A pre er post).pt:=ck a h c b
def fu {P : Program} {f : Nat} {fn : Func} {c : Code} (h : P.funcs[f]? = some fn) (hn : (fn.name == "runtime.NumGoroutine") = false) (hb : fn.body = some c) : dc P f := by
 intro args w
 have hn' : ¬ fn.name = "runtime.NumGoroutine" := by grind
 simp_all [callFunc]
def qvn{P:Program}{f:Nat}{im:List Nat}{cc:CC}{rs:List aj}{N:Nat}(zq:P.follows .mixedOrders=true)
 (h : ((P.funcs[f]?).bind fun g => if g.name == "runtime.NumGoroutine" then none else g.body.bind fun c => (aI P im g.ntmps c).bind fun cc => (g.results.toList.mapM (hZ P)).bind fun rs => some (g.ntmps, cc, rs)) = some (N, bP cc, rs)) : zY P f im cc rs N := by
 cases hf:P.funcs[f]? with
 |none=>grind
 | some fn=>
   rw[hf]at h;simp only[qF1]at h;split at h;grind
   ·rename_i hn;simp only[qFF,qFV,qHY]at h;obtain⟨c,hb,q,hq,r,hr,rfl,rfl,rfl⟩:=h;exact⟨zq,fu hf (by grind) hb,fn,c,hf,hb,rfl,hq,hr⟩
def a0:dP Unit:=⟨qsi,λ_=>[],qFj⟩
def a1(X:Type)[Cod X]:dP X:=⟨qsh,λx=>[enc x],qFi⟩
def a2(X Y:Type)[Cod X][Cod Y]:dP (X×Y):=⟨qsg,λx=>[enc x.1,enc x.2],qFh⟩
def a3(X Y Z:Type)[Cod X][Cod Y][Cod Z]:dP (X×Y×Z):=⟨qsf,λx=>[enc x.1,enc x.2.1,enc x.2.2],qFg⟩
def a4(X Y Z W:Type)[Cod X][Cod Y][Cod Z][Cod W]:dP (X×Y×Z×W):=⟨qse,λx=>[enc x.1,enc x.2.1,enc x.2.2.1,enc x.2.2.2],qFf⟩
def aT{X:Type}(A:dP X):dP (List Int×X):=⟨λds=>match ds with| .tape L::r=>(A.dec r).map λx=>(L,x)|_=>none,λx=> .tape x.1::A.view x.2,λds x h=>by
 split at h
 ·simp only[qFR]at h;obtain⟨y,a,rfl⟩:=h;exact .cons (.same _) (A.le _ _ a)
 grind⟩
@[simp] theorem qDu:a0.dec []=some ():=i' rfl
@[simp] theorem qsD{X:Type}[Cod X](a:D):(a1 X).dec [a]=dec a:=i' rfl
@[simp] theorem qcS{X Y:Type}[Cod X][Cod Y](a b:D):(a2 X Y).dec [a,b]=(dec a).bind λx=>(dec b).bind λy=>some (x,y):=i' rfl
@[simp] theorem qDt{X Y Z:Type}[Cod X][Cod Y][Cod Z](a b c:D):(a3 X Y Z).dec [a,b,c]=(dec a).bind λx=>(dec b).bind λy=>(dec c).bind λz=>some (x,y,z):=i' rfl
@[simp] theorem qDs{X Y Z W:Type}[Cod X][Cod Y][Cod Z][Cod W](a b c d:D):(a4 X Y Z W).dec [a,b,c,d]=(dec a).bind λx=>(dec b).bind λy=>(dec c).bind λz=>(dec d).bind λw=>some (x,y,z,w):=i' rfl
@[simp] theorem qDq{X:Type}(A:dP X)(L:List Int)(r:List D):(aT A).dec (.tape L::r)=(A.dec r).map λx=>(L,x):=i' rfl
@[simp] theorem qzY(x:Unit):a0.view x=[]:=i' rfl
@[simp] theorem qzX{X:Type}[Cod X](x:X):(a1 X).view x=[enc x]:=i' rfl
@[simp] theorem qzW{X Y:Type}[Cod X][Cod Y](x:X)(y:Y):(a2 X Y).view (x,y)=[enc x,enc y]:=i' rfl
@[simp] theorem qzV{X Y Z:Type}[Cod X][Cod Y][Cod Z](x:X)(y:Y)(z:Z):(a3 X Y Z).view (x,y,z)=[enc x,enc y,enc z]:=i' rfl
@[simp] theorem qzU{X Y Z W:Type}[Cod X][Cod Y][Cod Z][Cod W](x:X)(y:Y)(z:Z)(w:W):(a4 X Y Z W).view (x,y,z,w)=[enc x,enc y,enc z,enc w]:=i' rfl
@[simp] theorem qzP{X:Type}(A:dP X)(L:List Int)(x:X):(aT A).view (L,x)= .tape L::A.view x:=i' rfl
attribute [simp] Cod.dec_enc
@[simp] theorem qCu(n:Int):dec (X:=Int) (.v (.int .i64 n))=some n:=i' rfl
@[simp] theorem qy9(n:Bool):dec (X:=Bool) (.v (.bool n))=some n:=i' rfl
@[simp] theorem qCs(n:ByteArray):dec (X:=ByteArray) (.v (.string n))=some n:=i' rfl
@[simp] theorem qCt{X:Type}[Cod X]:dec (X:=List X) (.v (.slice none 0 0))=some []:=i' rfl
@[simp] theorem qy8{X:Type}[Cod X](n:Nat)(es:List D):dec (X:=List X) (.list n es)=if n=Cod.wd X then es.mapM (dec (X:=X))else none:=i' rfl
attribute [simp] Jc
@[simp] theorem qth{X:Type}[Cod X](l:List X):l.mapM (dec (X:=X) ∘enc)=some l:=by
 have:=Jc l;rwa [List.mapM_map]at this
def kZ{Y Z:Type}[Cod Y][Cod Z](p:Y×Z):D:= .tup [enc p.1,enc p.2]
def qow{Y Z W:Type}[Cod Y][Cod Z][Cod W](p:Y×Z×W):D:= .tup [enc p.1,enc p.2.1,enc p.2.2]
def Wh(_:Unit):D:= .tup []
@[simp] theorem qvB{Y Z:Type}[Cod Y][Cod Z](y:Y)(z:Z):kZ (y,z)= .tup [enc y,enc z]:=i' rfl
@[simp] theorem qEx{Y Z W:Type}[Cod Y][Cod Z][Cod W](y:Y)(z:Z)(w:W):qow (y,z,w)= .tup [enc y,enc z,enc w]:=i' rfl
@[simp] theorem qyC{Y Z:Type}[Cod Y][Cod Z](q:Y×Z->Prop)(a b:D)(H':ab):Fin kZ q (.tup [a,b]) H'=∃y z,FrzTo H' a (enc y)/\FrzTo H' b (enc z)/\q (y,z):=by
 refine propext ⟨λ⟨⟨y,z⟩,h1,h2⟩=>?_,λ⟨y,z,h1,h2,h3⟩=>⟨(y,z),qoj h1 h2,h3⟩⟩;cases h1 with
 |same=>exact⟨y,z, .same _, .same _,h2⟩
 |tup hl h=>exact⟨y,z,h 0 _ _ rfl rfl,h 1 _ _ rfl rfl,h2⟩
@[simp] theorem qyB{Y Z W:Type}[Cod Y][Cod Z][Cod W](q:Y×Z×W->Prop)(a b c:D)(H':ab):Fin qow q (.tup [a,b,c]) H'=∃y z w,FrzTo H' a (enc y)/\FrzTo H' b (enc z)/\FrzTo H' c (enc w)/\q (y,z,w):=by
 refine propext ⟨λ⟨⟨y,z,w⟩,h1,h2⟩=>?_,λ⟨y,z,w,h1,h2,h3,h4⟩=>⟨(y,z,w),qoi h1 h2 h3,h4⟩⟩;cases h1 with
 |same=>exact⟨y,z,w, .same _, .same _, .same _,h2⟩
 |tup hl h=>exact⟨y,z,w,h 0 _ _ rfl rfl,h 1 _ _ rfl rfl,h 2 _ _ rfl rfl,h2⟩
@[simp] theorem qEy(u:Unit):Wh u= .tup []:=i' rfl
def um:List (Nat×D)->Sg->Sg
 | [],σ=>σ
 |(t,d)::l,σ=>upd (um l σ) t d
def gS:List (Nat×Res)->ab->ab
 | [],H=>H
 |(i,r)::l,H=>ai (gS l H) i (some r)
def qcR(σ:Sg):um [] σ=σ:=i' rfl
@[simp] theorem qsC(H:ab):gS [] H=H:=i' rfl
@[simp] theorem qDo(i:Nat)(r:Res)(l:List (Nat×Res))(H:ab):gS ((i,r)::l) H=ai (gS l H) i (some r):=i' rfl
def yH(ks:List Nat)(σ a:Sg):Prop:=∀t∈ks,a t=σ t
def CM(hk:List Nat)(H H':ab):Prop:=∀i∈hk,H' i=H i
@[simp] theorem qBC(σ a:Sg):yH [] σ a=True:=by simp[yH]
@[simp] theorem qBD(t:Nat)(ks:List Nat)(σ a:Sg):yH (t::ks) σ a=(a t=σ t/\yH ks σ a):=by simp[yH]
@[simp] theorem qyc(σ a:ab):CM [] σ a=True:=by simp[CM]
@[simp] theorem qyd(t:Nat)(ks:List Nat)(σ a:ab):CM (t::ks) σ a=(a t=σ t/\CM ks σ a):=by simp[CM]
def PQ(ks:List Nat)(σ:Sg)(t:Nat):jK ks σ t=if t∈ks then σ t else .any:=by
 induction ks with
 |nil=>rfl
 | cons s ks a=>
   rw[qrJ];grind [upd]
theorem PR(ks:List Nat)(σ:ab)(t:Nat):jL ks σ t=if t∈ks then σ t else none:=by
 induction ks with
 |nil=>simp
 | cons s ks a=>
   rw[qn2];grind [ai]
def qph{σ b:Sg}{H H':ab}(h1:∀t,WL (σ t) (b t))(h2:∀i r,H' i=some r->H i=some r\/isNilRow r):Wk σ H b H':=by
 intro E a w c;obtain⟨d,h,tp,j,k⟩:=c;have hm:=j.sub h2;exact⟨d,h,tp,hm.1,λt=>qpW (h1 t) (hm.2 _ _ (k t))⟩
theorem X6(d:D):WL d d:=by simp
theorem Hv{a σ:Sg}{c H:ab}{ks hk:List Nat}{b:List (Nat×D)}{hp:List (Nat×Res)}(h1:pr b σ)(h2:yH ks a σ)(h3:vt hp H)(h4:CM hk c H):
 Wk σ H (um b (jK ks a)) (gS hp (jL hk c)):=by
 refine qph (λt=>?_) (λi r=>?_)
 ·induction b with
  | nil=>
    rw[qcR,PQ];split
    ·rename_i h;rw[<-h2 t h];simp
    simp
  | cons p b j=>
    obtain⟨s,d⟩:=p;simp only[um,upd];grind [pr]
 ·induction hp with
  | nil=>
    rw[qsC,PR];grind [CM]
  | cons p hp j=>
    obtain⟨s,d⟩:=p;simp only[gS,ai];grind [vt]
def Sa(a:Sg)(b:ab)(ks hk:List Nat)(c:List (Nat×D))(hp:List (Nat×Res))(σ:Sg)(H:ab):Prop:=pr c σ/\yH ks a σ/\vt hp H/\CM hk b H
@[simp] theorem qzF(a:Sg)(b:ab)(ks hk:List Nat)(c:List (Nat×D))(hp:List (Nat×Res))(σ:Sg)(H:ab):Sa a b ks hk c hp σ H=(pr c σ/\yH ks a σ/\vt hp H/\CM hk b H):=i' rfl
def qfd{X:Type}(P:X->Prop)(B:X->Sg->ab->Prop)(m:X->Nat)(x:X)(K:Ex->Sg->ab->Prop):Ex->Sg->ab->Prop:=λe a H'=>match e with
 | .norm=>∃y,P y/\B y a H'/\m y<m x
 |e=>K e a H'
@[simp ↓] theorem qz7{X:Type}(P:X->Prop)(B:X->Sg->ab->Prop)(m:X->Nat)(x:X)(K:Ex->Sg->ab->Prop)(a:Sg)(H':ab):qfd P B m x K .norm a H'=∃y,P y/\B y a H'/\m y<m x:=i' rfl
@[simp ↓] theorem qz5{X:Type}(P:X->Prop)(B:X->Sg->ab->Prop)(m:X->Nat)(x:X)(K:Ex->Sg->ab->Prop)(i:Nat)(a:Sg)(H':ab):qfd P B m x K (.ex i) a H'=K (.ex i) a H':=i' rfl
@[simp ↓] theorem qz6{X:Type}(P:X->Prop)(B:X->Sg->ab->Prop)(m:X->Nat)(x:X)(K:Ex->Sg->ab->Prop)(a:Sg)(H':ab):qfd P B m x K .ret a H'=K .ret a H':=i' rfl
section
variable {S:Nat->Spc}{K:Ex->Sg->ab->Prop}{σ:Sg}{H:ab}
def nD{X:Type}(ks hk:List Nat)(P:X->Prop)(a:X->List (Nat×D))(hp:X->List (Nat×Res))(m:X->Nat)(c:X){k:Nat}{b:CC}(h0:P c)(hs:pr (a c) σ)(hh:vt (hp c) H)
 (d:∀x,P x->vc S b (qfd P (λy=>Sa σ H ks hk (a y) (hp y)) m x K) (um (a x) (jK ks σ)) (gS (hp x) (jL hk H))):vc S (.loop k b) K σ H:=by
 rw[Wo];refine⟨⟨X,P,λx=>um (a x) (jK ks σ),λx=>gS (hp x) (jL hk H),m⟩,⟨c,h0,Hv hs (λ_ _=>rfl) hh (λ_ _=>rfl)⟩,λx j=>AV b _ _ (λe l H' h=>?_) (d x j)⟩;cases e with
 | norm=>
   obtain⟨y,h1,h2,h3⟩:=h;exact⟨y,h1,Hv h2.1 h2.2.1 h2.2.2.1 h2.2.2.2,h3⟩
 |ex i=>exact h
 |ret=>exact h
def au{X:Type}(ks hk:List Nat)(P:X->Prop)(a:X->List (Nat×D))(hp:X->List (Nat×Res))(m:X->Nat)(c:X){k:Nat}{b:CC}(h0:P c)
 (d:∀x,P x->vc S b (qfd P (λy=>Sa σ H ks hk (a y) (hp y)) m x K) (um (a x) (jK ks σ)) (gS (hp x) (jL hk H))) (hs:pr (a c) σ:=by simp) (hh:vt (hp c) H:=by simp):vc S (.loop k b) K σ H:=
 nD ks hk P a hp m c h0 hs hh d
def Zg(Q:Sg->ab->Prop)(K:Ex->Sg->ab->Prop):Ex->Sg->ab->Prop:=λe a H'=>match e with
 | .norm=>Q a H'
 |e=>K e a H'
@[simp ↓] theorem qBi(Q:Sg->ab->Prop)(a:Sg)(H':ab):Zg Q K .norm a H'=Q a H':=i' rfl
@[simp ↓] theorem qBg(Q:Sg->ab->Prop)(i:Nat)(a:Sg)(H':ab):Zg Q K (.ex i) a H'=K (.ex i) a H':=i' rfl
@[simp ↓] theorem qBh(Q:Sg->ab->Prop)(a:Sg)(H':ab):Zg Q K .ret a H'=K .ret a H':=i' rfl
def MJ(k:Nat)(a b:CC):CC:= .seq a (.cut k b)
def aS{X:Type}(ks hk:List Nat)(P:X->Prop)(d:X->List (Nat×D))(hp:X->List (Nat×Res)){k:Nat}{a b:CC}
 (j:vc S a (Zg (λc H'=>∃x,P x/\Sa σ H ks hk (d x) (hp x) c H') K) σ H)
 (hb:∀x,P x->vc S b K (um (d x) (jK ks σ)) (gS (hp x) (jL hk H))):vc S (MJ k a b) K σ H:=by
 unfold MJ;rw[Z1];refine AV a _ _ (λe c H' h=>?_) j;cases e with
 | norm=>
   obtain⟨x,h1,h2⟩:=h;grind [Sa,Wn,qkO,Hv]
 |ex i=>exact h
 |ret=>exact h
def gd(id i n c a:Nat)(body:CC)(b:Nat):CC:=
 .block id (.loop 0 (.seq (.reg [.op (some c) none (.cmp .lss (.tmp i) (.tmp n))]) (.seq (.ite (.tmp c) .skip (.exit id)) (.seq (.block a (.cut 0 body)) (.reg [.op (some b) none (.arith .add (.tmp i) (.const (.int .i64 1))), .op (some i) none (.mv (.tmp b))])))))
def qiX{X:Type}(id b i n:Nat)(len:Nat)(B:X->Sg->ab->Prop)(P:X->Prop)(k:Nat)(K:Ex->Sg->ab->Prop):Ex->Sg->ab->Prop:=λe a H'=>match e with
 | .norm=>a i= .v (.int .i64 k)/\a n= .v (.int .i64 len)/\∃y,P y/\B y a H'
 | .ex j=>if j=b then a i= .v (.int .i64 k)/\a n= .v (.int .i64 len)/\∃y,P y/\B y a H' else if j=id then K .norm a H' else K (.ex j) a H'
 | .ret=>K .ret a H'
@[simp ↓] theorem qAA{X:Type}(id b i n:Nat)(len:Nat)(B:X->Sg->ab->Prop)(P:X->Prop)(k:Nat)(a:Sg)(H':ab):qiX id b i n len B P k K .norm a H'=(a i= .v (.int .i64 k)/\a n= .v (.int .i64 len)/\∃y,P y/\B y a H'):=i' rfl
@[simp ↓] theorem qAy{X:Type}(id b i n:Nat)(len:Nat)(B:X->Sg->ab->Prop)(P:X->Prop)(k j:Nat)(a:Sg)(H':ab):qiX id b i n len B P k K (.ex j) a H'=(if j=b then a i= .v (.int .i64 k)/\a n= .v (.int .i64 len)/\∃y,P y/\B y a H' else if j=id then K .norm a H' else K (.ex j) a H'):=i' rfl
@[simp ↓] theorem qAz{X:Type}(id b i n:Nat)(len:Nat)(B:X->Sg->ab->Prop)(P:X->Prop)(k:Nat)(a:Sg)(H':ab):qiX id b i n len B P k K .ret a H'=K .ret a H':=i' rfl
def G2{t:Nat}{d:D} :∀{a:List (Nat×D)} {σ:Sg},(∀p∈a,p.1≠t)->pr a σ->pr a (upd σ t d)
 | [],_,_,_=>trivial
 | (s,e)::a,σ,h,hm=>by
  refine⟨?_,G2 (λp hp=>h p (by grind)) hm.2⟩;simp_all [upd]
def Ti{t:Nat}{d:D}{ks:List Nat}{a σ:Sg}(h:t∉ks)(hk:yH ks a σ):yH ks a (upd σ t d):=λs hs=>by
 have:s≠t:=λe=>h (e ▸hs)
 simp only[upd,this,if_false];exact hk s hs
theorem Dg{X:Type}(ks hk:List Nat)(len:Nat)(P:Nat->X->Prop)(q:X->List (Nat×D))(hp:X->List (Nat×Res))(w:X){id i n c u b:Nat}{body:CC}
 (hi:σ i= .v (.int .i64 0)) (hn:σ n= .v (.int .i64 len)) (hlen:(len:Int)<=9223372036854775807) (hd:([i,n,c,b] ++ks).Nodup) (J:∀x,∀p∈q x,p.1∉ [i,n,c,b])
 (h0:P 0 w) (hs:pr (q w) σ) (hh:vt (hp w) H)
 (Y:∀k x,k<len->P k x->vc S body (qiX id u i n len (λy=>Sa σ H ks hk (q y) (hp y)) (P (k+1)) k K) (um ((i, .v (.int .i64 k))::(n, .v (.int .i64 len))::q x) (jK ks σ)) (gS (hp x) (jL hk H)))
 (he:∀x,P len x->K .norm (upd (um ((i, .v (.int .i64 len))::(n, .v (.int .i64 len))::q x) (jK ks σ)) c (.v (.bool false))) (gS (hp x) (jL hk H))):vc S (gd id i n c u body b) K σ H:=by
 have ne:i≠n/\i≠c/\i≠b/\n≠c/\n≠b/\c≠b/\i∉ks/\n∉ks/\c∉ks/\b∉ks:=by
  grind
 obtain⟨Q,Z,n3,n4,n5,n6,m1,m2,m3,m4⟩:=ne;have L:∀x t,t∈ [i,n,c,b]->∀p∈q x,p.1≠t:=λx t ht p hp e=>J x p hp (e ▸ht)
 let st:Nat×X->Sg:=λx=>um ((i, .v (.int .i64 x.1))::(n, .v (.int .i64 len))::q x.2) (jK ks σ)
 let A:Nat×X->ab:=λx=>gS (hp x.2) (jL hk H)
 have r:∀(k:Nat) (y:X) (a:Sg) (H':ab),a i= .v (.int .i64 k)->a n= .v (.int .i64 len)->Sa σ H ks hk (q y) (hp y) a H'->Wk a H' (st (k,y)) (A (k,y)):=by
  intro k y a H' I U ⟨b1,b2,b3,b4⟩;grind [pr,Hv,X6]
 unfold gd;rw[Wp,Wo];refine⟨⟨Nat×X,λx=>x.1<=len/\P x.1 x.2,st,A,λx=>len -x.1⟩,⟨(0,w),⟨qF3 _,h0⟩,r 0 w σ H hi hn ⟨hs,λ_ _=>rfl,hh,λ_ _=>rfl⟩⟩,?_⟩;rintro⟨k,x⟩ ⟨M,W⟩;have si:st (k,x) i= .v (.int .i64 k):=by simp[st,um,upd]
 have sN:st (k,x) n= .v (.int .i64 len):=by
  have:¬n=i:=λe=>Q e.symm
  simp[st,um,upd,this]
 let C:qsP:=⟨Nat×X,λx=>x.1<=len/\P x.1 x.2,st,A,λx=>len -x.1⟩
 change vc S _ (qgk C (k,x) (qg4 id K)) (st (k,x)) (A (k,x));rw[Z1,qpQ,qrG,qv6];simp only[qhB,si,sN,qsn,true_and,qlk,qso];rw[qpN,Wn,Z1,qvI];have sc:ev (gx (st (k,x)) (some c) (.v (.bool (decide ((k:Int)<len))))) (.tmp c)= .v (.bool (decide ((k:Int)<len))):=by simp[upd]
 rw[sc,qr6];refine⟨λN=>?_,λO=>?_⟩
 ·have E:k < len:=by simpa using N
  rw[qr2,Wn,Z1,Wp,qkO];refine⟨st (k,x),A (k,x),qph (λt=>?_) (λ_ _ h=> .inl h),?_⟩
  ·rw[qbk,qt7];split
   ·rename_i e;subst e;have I:st (k,x) t= .any:=by
     have hsl:∀(l:List (Nat×D)),(∀p∈l,p.1≠t)->um l (jK ks σ) t= .any:=by
      intro l
      induction l with
      |nil=>intro _;rw[qcR,PQ,if_neg m3]
      | cons p l ih=>
        obtain⟨s,d⟩:=p;intro h;have:¬t=s:=λe=>h (s,d) (by simp) e.symm
        simp only[um,upd,this,if_false];exact ih λp hp=>h p (by simp[hp])
     have h1:¬t=i:=λe=>Z e.symm
     have h2:¬t=n:=λe=>n4 e.symm
     simp only[st,um,upd,h1,h2,if_false];exact hsl _ (L x t (by simp))
    rw[I];exact trivial
   ·exact X6 _
  ·refine AV body _ _ (λe a H' h=>?_) (Y k x E W);have fin:∀a H',(a i= .v (.int .i64 k)/\a n= .v (.int .i64 len)/\∃y,P (k+1) y/\Sa σ H ks hk (q y) (hp y) a H')->
    Yl S (.reg [.op (some b) none (.arith .add (.tmp i) (.const (.int .i64 1))), .op (some i) none (.mv (.tmp b))]) (qgk C (k,x) (qg4 id K)) .norm a H':=by
    intro a H' ⟨I,U,y,hy,hb⟩;rw[Wn,qpQ,qrG,qoR];simp only[qhB,qm5,qt4,I,qlH,qn4,true_and,qg7,InR];refine⟨by omega,?_⟩;rw[qrG,qCM];dsimp only;rw[qpN];simp only[qhB,qbk];rw[qr5];refine⟨(k+1,y),⟨by show k+1<=len;omega,hy⟩,r (k+1) y _ _ ?_ ?_ ?_,by show len - (k+1)<len -k;omega⟩
    ·simp[upd]
    ·have h1:¬n=i:=λe=>Q e.symm
     simp[upd,h1,n5,U]
    ·exact⟨G2 (L y i (by simp)) (G2 (L y b (by simp)) hb.1),Ti m1 (Ti m4 hb.2.1),hb.2.2.1,hb.2.2.2⟩
   cases e with
   |norm=>rw[qr8];exact fin a H' h
   | ret=>
     rw[qkP,qr3,qr4,qkP];exact h
   | ex j=>
     rw[qcD];have h:if j=u then a i= .v (.int .i64 k)/\a n= .v (.int .i64 len)/\∃y,P (k+1) y/\Sa σ H ks hk (q y) (hp y) a H' else if j=id then K .norm a H' else K (.ex j) a H':=h
     split
     ·rename_i e;rw[if_pos e]at h;exact fin a H' h
     ·rename_i e;rw[if_neg e]at h;rw[qkM,qkN,qcD];exact h
 ·have F:k=len:=by
   have:¬((k:Int)<len):=by simpa using O
   have:k<=len:=M;omega
  subst F;rw[qr7,qkM,qkN,qcD,if_pos rfl];have:decide ((k:Int)<k)=false:=by simp
  rw[this];exact he x W
theorem ah{X:Type}(ks hk:List Nat)(len:Nat)(P:Nat->X->Prop)(a:X->List (Nat×D))(hp:X->List (Nat×Res))(d:X){id i n c b h:Nat}{body:CC}
 (h0:P 0 d)
 (l:∀k x,k<len->P k x->vc S body (qiX id b i n len (λy=>Sa σ H ks hk (a y) (hp y)) (P (k+1)) k K) (um ((i, .v (.int .i64 k))::(n, .v (.int .i64 len))::a x) (jK ks σ)) (gS (hp x) (jL hk H)))
 (he:∀x,P len x->K .norm (upd (um ((i, .v (.int .i64 len))::(n, .v (.int .i64 len))::a x) (jK ks σ)) c (.v (.bool false))) (gS (hp x) (jL hk H))) (hi:σ i= .v (.int .i64 0):=by simp) (hn:σ n= .v (.int .i64 len):=by simp) (hlen:(len:Int)<=9223372036854775807:=by omega) (q:([i,n,c,h] ++ks).Nodup:=by simp) (j:∀x,∀p∈a x,p.1∉ [i,n,c,h]:=by simp) (hs:pr (a d) σ:=by simp) (hh:vt (hp d) H:=by simp):vc S (gd id i n c b body h) K σ H:=
 Dg ks hk len P a hp d hi hn hlen q j h0 hs hh l he
end
end
section
open Cod (enc dec)
theorem aP{X:Type}[Cod X]{x y:X}(h:enc x=enc y):x=y:=by
 have:=congrArg (dec (X:=X)) h;simpa using this
@[simp] theorem qCi{X:Type}[Cod X](l l':List X):(l.map enc=l'.map enc)=(l=l'):=by
 refine propext ⟨λh=>?_,λh=>h ▸rfl⟩
 induction l generalizing l' with
 | nil=>cases l' with
   |nil=>rfl
   |cons y l'=>simp at h
 | cons x l a=>cases l' with
   |nil=>simp at h
   | cons y l'=>
     simp only[qGb,qGd]at h;rw[aP h.1,a _ h.2]
def kN{X:Type}[Cod X](l:List X)(i:Nat)(x:X):(l.map enc).set i (enc x)=(l.set i x).map enc:=by
 rw[qHA]
def WF{X:Type}[Cod X](l:List X)(x:X):l.map enc++ [enc x]=(l++ [x]).map enc:=by simp
def fA{X:Type}[Cod X]{H:ab}{id n:Nat}{v:Value}{l:List X}(el:Nat)(h:H id=some (.row v el n (l.map enc)))(hn:n=Cod.wd X:=by rfl):FrzTo H (.own id v) (.list n (l.map enc)):=by
 subst hn;exact qgL h
inductive Ky where
 |e
 |o (k:Ky)
 |i (k:Ky)
deriving DecidableEq
inductive Tr where
 |nil
 |nd (d:D) (l r:Tr)
def Tr.get:Tr->Ky->D
 | .nil,_=> .any
 | .nd d _ _, .e=>d
 | .nd _ l _, .o k=>l.get k
 | .nd _ _ r, .i k=>r.get k
def Tr.set:Tr->Ky->D->Tr
 | .nil, .e,x=> .nd x .nil .nil
 | .nil, .o k,x=> .nd .any (Tr.set .nil k x) .nil
 | .nil, .i k,x=> .nd .any .nil (Tr.set .nil k x)
 | .nd _ l r, .e,x=> .nd x l r
 | .nd d l r, .o k,x=> .nd d (l.set k x) r
 | .nd d l r, .i k,x=> .nd d l (r.set k x)
noncomputable def Tr.frz(id:Nat)(x:Value)(L:D):Tr->Tr
 | .nil=> .nil
 | .nd d l r=> .nd (M6 id x L d) (l.frz id x L) (r.frz id x L)
def qtk:Nat->Nat->Ky
 | 0,_=> .e
 |f+1,n=>if n=0 then .e else if(n -1) % 2=0 then .o (qtk f ((n -1) /2))else .i (qtk f ((n -1) /2))
def ky(n:Nat):Ky:=qtk n n
def Ky.val:Ky->Nat
 | .e=>0
 | .o k=>2*k.val+1
 | .i k=>2*k.val+2
def NB:∀(f n:Nat),n<=f->(qtk f n).val=n
 | 0,n,h=>by
   have:n=0:=by omega
   subst this;rfl
 | f+1,n,h=>by
   unfold qtk;split
   ·rename_i e;subst e;rfl
   ·split
    ·simp only[Ky.val];rw[NB f _ (by omega)];omega
    ·simp only[Ky.val];rw[NB f _ (by omega)];omega
def qjV{m n:Nat}(h:ky m=ky n):m=n:=by
 have h1:=NB m m (qFM _);have h2:=NB n n (qFM _);unfold ky at h;rw[h]at h1;exact h1.symm.trans h2
def E9:∀(T:Tr) (k j:Ky) (x:D),(T.set k x).get j=if j=k then x else T.get j
 | .nil, .e,j,x=>by cases j<;>simp[Tr.set,Tr.get]
 | .nil, .o k,j,x=>by
   have a:=λj=>E9 .nil k j x
   cases j<;>simp[Tr.set,Tr.get,a]
 | .nil, .i k,j,x=>by
   have a:=λj=>E9 .nil k j x
   cases j<;>simp[Tr.set,Tr.get,a]
 | .nd d l r, .e,j,x=>by cases j<;>simp[Tr.set,Tr.get]
 | .nd d l r, .o k,j,x=>by
   have a:=λj=>E9 l k j x
   cases j<;>simp[Tr.set,Tr.get,a]
 | .nd d l r, .i k,j,x=>by
   have a:=λj=>E9 r k j x
   cases j<;>simp[Tr.set,Tr.get,a]
def M5(T:Tr):Sg:=λt=>T.get (ky t)
@[simp] theorem qyq(T:Tr)(t:Nat):M5 T t=T.get (ky t):=i' rfl
@[simp] theorem qt5(T:Tr)(t:Nat)(d:D):upd (M5 T) t d=M5 (T.set (ky t) d):=by
 funext s;simp only[upd,M5,E9];by_cases h:s=t
 ·simp[h]
 ·have:¬ky s=ky t:=λe=>h (qjV e)
  simp[h,this]
def qkj:M5 .nil=λ_=> .any:=by
 funext t;simp[M5,Tr.get]
@[simp] theorem qrK(a:Sg):jK [] a=M5 .nil:=by rw[qkj];rfl
@[simp] theorem qn3(t:Nat)(l:List Nat)(a:Sg):jK (t::l) a=upd (jK l a) t (a t):=i' rfl
@[simp] theorem qDp(a:Sg):um [] a=a:=i' rfl
@[simp] theorem qzQ(t:Nat)(d:D)(l:List (Nat×D))(a:Sg):um ((t,d)::l) a=upd (um l a) t d:=i' rfl
def L8:Nat->List D->Tr
 | _, []=> .nil
 |n,d::l=>(L8 (n+1) l).set (ky n) d
@[simp] theorem qtm(n:Nat):L8 n []= .nil:=i' rfl
@[simp] theorem qrN(n:Nat)(d:D)(l:List D):L8 n (d::l)=(L8 (n+1) l).set (ky n) d:=i' rfl
def Tj:∀(l:List D) (n t:Nat),(L8 n l).get (ky t)=if n<=t then(l[t -n]?).getD .any else .any
 | [],n,t=>by simp[L8,Tr.get]
 | d::l,n,t=>by
   rw[L8,E9,Tj l (n+1) t];by_cases h:t=n
   ·subst h;simp
   ·have:¬ky t=ky n:=λe=>h (qjV e)
    rw[if_neg this];by_cases h2:n+1<=t
    ·have h3:n<=t:=by omega
     rw[if_pos h2,if_pos h3];have:t -n=(t - (n+1)) +1:=by omega
     rw[this];simp
    ·have h3:¬n<=t:=by omega
     rw[if_neg h2,if_neg h3]
@[simp] theorem qBN(l:List D):dR l=M5 (L8 0 l):=by
 funext t;simp[dR,M5,Tj]
@[simp] theorem qEr(id:Nat)(x:Value)(L:D)(T:Tr):qgM id x L (M5 T)=M5 (T.frz id x L):=by
 funext t;simp only[qgM,M5];generalize ky t=k
 induction T generalizing k with
 |nil=>simp[Tr.frz,Tr.get,M6]
 | nd d l r a b=>
   cases k with
   |e=>rfl
   |o k=>exact a k
   |i k=>exact b k
@[simp] theorem qvm(id:Nat)(x:Value)(L:D):Tr.nil.frz id x L= .nil:=i' rfl
@[simp] theorem qyt(id:Nat)(x:Value)(L d:D)(l r:Tr):(Tr.nd d l r).frz id x L= .nd (M6 id x L d) (l.frz id x L) (r.frz id x L):=i' rfl
@[simp] theorem qE7(d:D)(l r:Tr):(Tr.nd d l r).get .e=d:=i' rfl
@[simp] theorem qE5(d:D)(l r:Tr)(k:Ky):(Tr.nd d l r).get (.o k)=l.get k:=i' rfl
@[simp] theorem qE6(d:D)(l r:Tr)(k:Ky):(Tr.nd d l r).get (.i k)=r.get k:=i' rfl
@[simp] theorem qDJ(x:D):Tr.nil.set .e x= .nd x .nil .nil:=i' rfl
@[simp] theorem qDH(k:Ky)(x:D):Tr.nil.set (.o k) x= .nd .any (Tr.set .nil k x) .nil:=i' rfl
@[simp] theorem qDI(k:Ky)(x:D):Tr.nil.set (.i k) x= .nd .any .nil (Tr.set .nil k x):=i' rfl
@[simp] theorem qE4(d:D)(l r:Tr)(x:D):(Tr.nd d l r).set .e x= .nd x l r:=i' rfl
@[simp] theorem qE2(d:D)(l r:Tr)(k:Ky)(x:D):(Tr.nd d l r).set (.o k) x= .nd d (l.set k x) r:=i' rfl
@[simp] theorem qE3(d:D)(l r:Tr)(k:Ky)(x:D):(Tr.nd d l r).set (.i k) x= .nd d l (r.set k x):=i' rfl
inductive KL where
 |n
 |c (a:Nat) (k:Ky) (l:KL)
def qBw:Nat->Nat->KL
 | 0,_=> .n
 |n+1,a=> .c a (qtk a a) (qBw n (a+1))
def qx8:KL->Prop
 | .n=>True
 | .c a k l=>ky a=k/\qx8 l
def qBv(n:Nat):∀a,qx8 (qBw n a):=by induction n<;>simp_all [qBw,qx8,ky]
set_option maxRecDepth 100000 in
@[simp] def qFm:=Eq.mp (by conv=>lhs;(conv=>arg 1;reduce);simp only[qx8]) (qBv 420 0)
@[simp] theorem qxU(H:ab)(i:Nat):bM [] H i=H i:=i' rfl
@[simp] theorem qvb(t i:Nat):L9 (some t) i=(qaX i=qaX t):=i' rfl
@[simp] theorem qBR{i:Nat}(h:i< 990):qaX i=i:=by unfold qaX;rw[if_neg (by omega)]
@[simp] theorem qyp{i:Nat}(h:990<=i)(a:i< 1000):qaX i=0:=by unfold qaX;rw[if_pos ⟨h,a⟩]
@[simp] theorem qxW(d:Option Nat)(g:Option (Nat×Bool))(c:COp)(l:List CI)(H:ab)(i:Nat):bM (.op d g c::l) H i=if L9 (CI.op d g c).wid i then none else bM l H i:=i' rfl
@[simp] theorem qxV(a b:Nat)(l:List CI)(H:ab)(i:Nat):bM (.frz a b::l) H i=H i:=i' rfl
@[simp] theorem qz3(a:Option Nat)(b:Option (Nat×Bool))(x:Operand):(CI.op a b (.mv x)).wid=a:=i' rfl
@[simp] theorem qtS(a:Option Nat)(b:Option (Nat×Bool))(c:Operand)(x:Operand)(y:Operand):(CI.op a b (.pick c x y)).wid=a:=i' rfl
@[simp] theorem qs0(a:Option Nat)(b:Option (Nat×Bool))(el:Nat)(z:List Value):(CI.op a b (.alloc el z)).wid=a:=i' rfl
@[simp] theorem qsY(a:Option Nat)(b:Option (Nat×Bool))(z:List Value)(parts:List (Nat×Nat×Operand)):(CI.op a b (.build z parts)).wid=a:=i' rfl
@[simp] theorem qqf(a:Option Nat)(b:Option (Nat×Bool))(el:Nat)(n:Nat)(parts:List Operand):(CI.op a b (.bslice el n parts)).wid=a:=i' rfl
@[simp] theorem qtT(a:Option Nat)(b:Option (Nat×Bool))(agg:Bool)(sz:Nat)(x:Operand):(CI.op a b (.load agg sz x)).wid=a:=i' rfl
@[simp] theorem qpi(d:Option Nat)(g:Option (Nat×Bool))(r sz:Nat)(x y:Operand):(CI.op d g (.store (some r) sz x y)).wid=some r:=i' rfl
@[simp] theorem qsU(a:Option Nat)(b:Option (Nat×Bool))(x:Operand):(CI.op a b (.nilck x)).wid=a:=i' rfl
@[simp] theorem qsZ(a:Option Nat)(b:Option (Nat×Bool))(op:BinOp)(x:Operand)(y:Operand):(CI.op a b (.arith op x y)).wid=a:=i' rfl
@[simp] theorem qwI(a:Option Nat)(b:Option (Nat×Bool))(op:BinOp)(x:Operand)(y:Operand):(CI.op a b (.cmp op x y)).wid=a:=i' rfl
@[simp] theorem qwH(a:Option Nat)(b:Option (Nat×Bool))(neg:Bool)(agg:Bool)(ks:List qe8)(x:Operand)(y:Operand):(CI.op a b (.eql neg agg ks x y)).wid=a:=i' rfl
@[simp] theorem qwE(a:Option Nat)(b:Option (Nat×Bool))(x:Operand):(CI.op a b (.not x)).wid=a:=i' rfl
@[simp] theorem qsT(a:Option Nat)(b:Option (Nat×Bool))(n:Nat)(x:Operand)(lo:Option Operand)(hi:Option Operand):(CI.op a b (.slice n x lo hi)).wid=a:=i' rfl
@[simp] theorem qqe(a:Option Nat)(b:Option (Nat×Bool))(x:Operand)(lo:Option Operand)(hi:Option Operand):(CI.op a b (.sslice x lo hi)).wid=a:=i' rfl
@[simp] theorem qsW(a:Option Nat)(b:Option (Nat×Bool))(off:Nat)(x:Operand):(CI.op a b (.faddr off x)).wid=a:=i' rfl
@[simp] theorem qsV(a:Option Nat)(b:Option (Nat×Bool))(n:Nat)(x:Operand)(i:Operand):(CI.op a b (.iaddr n x i)).wid=a:=i' rfl
@[simp] theorem qwG(a:Option Nat)(b:Option (Nat×Bool))(x:Operand)(i:Nat):(CI.op a b (.ext x i)).wid=a:=i' rfl
@[simp] theorem qwF(a:Option Nat)(b:Option (Nat×Bool))(x:Operand):(CI.op a b (.len x)).wid=a:=i' rfl
@[simp] theorem qtR(a:Option Nat)(b:Option (Nat×Bool))(x:Operand):(CI.op a b (.slen x)).wid=a:=i' rfl
@[simp] theorem qz4(a:Option Nat)(b:Option (Nat×Bool))(mx:Bool)(xs:List Operand):(CI.op a b (.mm mx xs)).wid=a:=i' rfl
@[simp] theorem qmC(d:Option Nat)(g:Option (Nat×Bool))(r el n b:Nat)(x y:Operand):(CI.op d g (.append (some r) el n b x y)).wid=some r:=i' rfl
@[simp] theorem qtU(a:Option Nat)(b:Option (Nat×Bool))(f:Nat)(args:List Operand):(CI.op a b (.call f args)).wid=a:=i' rfl
@[simp] theorem qsX(a:Option Nat)(b:Option (Nat×Bool))(r f:Nat)(args:List Operand):(CI.op a b (.callb r f args)).wid=some r:=i' rfl
abbrev B:=ByteArray
structure I32 where
 val:Int
deriving DecidableEq
instance:Cod I32 where
 wd:=1
 enc n:= .v (.int .i32 n.val)
 dec| .v (.int .i32 n)=>some ⟨n⟩|_=>none
 kn _:=rfl
 wid _:=rfl
 dec_enc _:=rfl
 le d x h:=by
  split at h
  ·cases h;exact .same _
  ·cases h
@[simp] theorem qyS(n:I32):enc n= .v (.int .i32 n.val):=i' rfl
@[simp] theorem qAb:Cod.wd I32=1:=i' rfl
@[simp] theorem qy2(n:Int):dec (X:=I32) (.v (.int .i32 n))=some ⟨n⟩:=i' rfl
@[simp] theorem qyI(n:I32):I32.mk n.val=n:=i' rfl
structure U8 where
 val:Int
deriving DecidableEq
instance:Cod U8 where
 wd:=1
 enc n:= .v (.int .u8 n.val)
 dec| .v (.int .u8 n)=>some ⟨n⟩|_=>none
 kn _:=rfl
 wid _:=rfl
 dec_enc _:=rfl
 le d x h:=by
  split at h
  ·cases h;exact .same _
  ·cases h
@[simp] theorem qCh(n:U8):enc n= .v (.int .u8 n.val):=i' rfl
@[simp] theorem qCq(n:Int):dec (X:=U8) (.v (.int .u8 n))=some ⟨n⟩:=i' rfl
@[simp] theorem qCb(n:U8):U8.mk n.val=n:=i' rfl
structure Pair where
 nm:B
 vl:B
deriving DecidableEq
instance:Cod Pair where
 wd:=2
 enc s:= .agg [enc s.nm,enc s.vl]
 dec| .agg [a,b]=>(dec a).bind λa=>(dec b).bind λb=>some ⟨a,b⟩|_=>none
 kn _:=rfl
 wid _:=rfl
 dec_enc s:=by simp
 le d x h:=by
  split at h
  ·simp only[qFF]at h;obtain⟨a,h0,b,h1,h⟩:=h;cases h;exact LeL.agg (.cons (Cod.le _ _ h0) (.cons (Cod.le _ _ h1) .nil))
  ·cases h
@[simp] theorem qvy(s:Pair):(Pair.mk s.nm s.vl)=s:=i' rfl
@[simp] theorem qvE(s:Pair):enc s= .agg [enc s.nm,enc s.vl]:=i' rfl
@[simp] theorem qwN:Cod.wd Pair=2:=i' rfl
@[simp] theorem qvL(a b:D):dec (X:=Pair) (.agg [a,b])=((dec a).bind λa=>(dec b).bind λb=>some ⟨a,b⟩):=i' rfl
structure Attr where
 nm:B
 st:Bool
deriving DecidableEq
instance:Cod Attr where
 wd:=2
 enc s:= .agg [enc s.nm,enc s.st]
 dec| .agg [a,b]=>(dec a).bind λa=>(dec b).bind λb=>some ⟨a,b⟩|_=>none
 kn _:=rfl
 wid _:=rfl
 dec_enc s:=by simp
 le d x h:=by
  split at h
  ·simp only[qFF]at h;obtain⟨a,h0,b,h1,h⟩:=h;cases h;exact LeL.agg (.cons (Cod.le _ _ h0) (.cons (Cod.le _ _ h1) .nil))
  ·cases h
@[simp] theorem qvA(s:Attr):(Attr.mk s.nm s.st)=s:=i' rfl
@[simp] theorem qvH(s:Attr):enc s= .agg [enc s.nm,enc s.st]:=i' rfl
@[simp] theorem qwS:Cod.wd Attr=2:=i' rfl
@[simp] theorem qvN(a b:D):dec (X:=Attr) (.agg [a,b])=((dec a).bind λa=>(dec b).bind λb=>some ⟨a,b⟩):=i' rfl
structure Span where
 b:Int
 e:Int
deriving DecidableEq
instance:Cod Span where
 wd:=2
 enc s:= .agg [enc s.b,enc s.e]
 dec| .agg [a,c]=>(dec a).bind λa=>(dec c).bind λc=>some ⟨a,c⟩|_=>none
 kn _:=rfl
 wid _:=rfl
 dec_enc s:=by simp
 le d x h:=by
  split at h
  ·simp only[qFF]at h;obtain⟨a,h0,c,h1,h⟩:=h;cases h;exact LeL.agg (.cons (Cod.le _ _ h0) (.cons (Cod.le _ _ h1) .nil))
  ·cases h
@[simp] theorem qvx(s:Span):(Span.mk s.b s.e)=s:=i' rfl
@[simp] theorem qvD(s:Span):enc s= .agg [enc s.b,enc s.e]:=i' rfl
@[simp] theorem qwM:Cod.wd Span=2:=i' rfl
@[simp] theorem qvK(a b:D):dec (X:=Span) (.agg [a,b])=((dec a).bind λa=>(dec b).bind λb=>some ⟨a,b⟩):=i' rfl
structure xX where
 nm:B
 b:Int
 e:Int
 kv:List Pair
deriving DecidableEq
instance:Cod xX where
 wd:=4
 enc s:= .agg [enc s.nm,enc s.b,enc s.e,enc s.kv]
 dec| .agg [a,c,j,k]=>(dec a).bind λa=>(dec c).bind λc=>(dec j).bind λj=>(dec k).bind λk=>some ⟨a,c,j,k⟩|_=>none
 kn _:=rfl
 wid _:=rfl
 dec_enc s:=by simp
 le d x h:=by
  split at h
  ·simp only[qFF]at h;obtain⟨a,h0,c,h1,j,h2,k,h3,h⟩:=h;cases h;exact LeL.agg (.cons (Cod.le _ _ h0) (.cons (Cod.le _ _ h1) (.cons (Cod.le _ _ h2) (.cons (Cod.le _ _ h3) .nil))))
  ·cases h
@[simp] theorem qvC(s:xX):enc s= .agg [enc s.nm,enc s.b,enc s.e,enc s.kv]:=i' rfl
@[simp] theorem qwL:Cod.wd xX=4:=i' rfl
@[simp] theorem qvJ(a b c d:D):dec (X:=xX) (.agg [a,b,c,d])=((dec a).bind λa=>(dec b).bind λb=>(dec c).bind λc=>(dec d).bind λd=>some ⟨a,b,c,d⟩):=i' rfl
structure Region where
 ty:B
 b:Int
 e:Int
 kv:List Pair
deriving DecidableEq
instance:Cod Region where
 wd:=4
 enc s:= .agg [enc s.ty,enc s.b,enc s.e,enc s.kv]
 dec| .agg [a,c,j,k]=>(dec a).bind λa=>(dec c).bind λc=>(dec j).bind λj=>(dec k).bind λk=>some ⟨a,c,j,k⟩|_=>none
 kn _:=rfl
 wid _:=rfl
 dec_enc s:=by simp
 le d x h:=by
  split at h
  ·simp only[qFF]at h;obtain⟨a,h0,c,h1,j,h2,k,h3,h⟩:=h;cases h;exact LeL.agg (.cons (Cod.le _ _ h0) (.cons (Cod.le _ _ h1) (.cons (Cod.le _ _ h2) (.cons (Cod.le _ _ h3) .nil))))
  ·cases h
@[simp] theorem qrU(s:Region):(Region.mk s.ty s.b s.e s.kv)=s:=i' rfl
@[simp] theorem qrZ(s:Region):enc s= .agg [enc s.ty,enc s.b,enc s.e,enc s.kv]:=i' rfl
@[simp] theorem qs2:Cod.wd Region=4:=i' rfl
@[simp] theorem qsb(a b c d:D):dec (X:=Region) (.agg [a,b,c,d])=((dec a).bind λa=>(dec b).bind λb=>(dec c).bind λc=>(dec d).bind λd=>some ⟨a,b,c,d⟩):=i' rfl
structure AS where
 lb:B
 b:Int
 e:Int
 par:Int
deriving DecidableEq
instance:Cod AS where
 wd:=4
 enc s:= .agg [enc s.lb,enc s.b,enc s.e,enc s.par]
 dec| .agg [a,c,j,k]=>(dec a).bind λa=>(dec c).bind λc=>(dec j).bind λj=>(dec k).bind λk=>some ⟨a,c,j,k⟩|_=>none
 kn _:=rfl
 wid _:=rfl
 dec_enc s:=by simp
 le d x h:=by
  split at h
  ·simp only[qFF]at h;obtain⟨a,h0,c,h1,j,h2,k,h3,h⟩:=h;cases h;exact LeL.agg (.cons (Cod.le _ _ h0) (.cons (Cod.le _ _ h1) (.cons (Cod.le _ _ h2) (.cons (Cod.le _ _ h3) .nil))))
  ·cases h
@[simp] theorem qvF(s:AS):enc s= .agg [enc s.lb,enc s.b,enc s.e,enc s.par]:=i' rfl
@[simp] theorem qwO:Cod.wd AS=4:=i' rfl
structure Corpus where
 attrs:List Attr
 toks:List (List B)
 texts:List xX
 regs:List Region
 nodes:List AS
 heads:List Int
 rels:List B
deriving DecidableEq
instance:Cod Corpus where
 wd:=7
 enc s:= .agg [enc s.attrs,enc s.toks,enc s.texts,enc s.regs,enc s.nodes,enc s.heads,enc s.rels]
 dec| .agg [a,b,c,j,k,l,p]=>(dec a).bind λa=>(dec b).bind λb=>(dec c).bind λc=>(dec j).bind λj=>(dec k).bind λk=>(dec l).bind λl=>(dec p).bind λp=>some ⟨a,b,c,j,k,l,p⟩|_=>none
 kn _:=rfl
 wid _:=rfl
 dec_enc s:=by simp
 le d x h:=by
  split at h
  ·simp only[qFF]at h;obtain⟨a,h0,b,h1,c,h2,j,h3,k,h4,l,h5,p,h6,h⟩:=h;cases h;exact LeL.agg (.cons (Cod.le _ _ h0) (.cons (Cod.le _ _ h1) (.cons (Cod.le _ _ h2) (.cons (Cod.le _ _ h3) (.cons (Cod.le _ _ h4) (.cons (Cod.le _ _ h5) (.cons (Cod.le _ _ h6) .nil)))))))
  ·cases h
@[simp] theorem qrV(s:Corpus):(Corpus.mk s.attrs s.toks s.texts s.regs s.nodes s.heads s.rels)=s:=i' rfl
@[simp] theorem qr0(s:Corpus):enc s= .agg [enc s.attrs,enc s.toks,enc s.texts,enc s.regs,enc s.nodes,enc s.heads,enc s.rels]:=i' rfl
@[simp] theorem qsc(a b c d h j k:D):dec (X:=Corpus) (.agg [a,b,c,d,h,j,k])=((dec a).bind λa=>(dec b).bind λb=>(dec c).bind λc=>(dec d).bind λd=>(dec h).bind λh=>(dec j).bind λj=>(dec k).bind λk=>some ⟨a,b,c,d,h,j,k⟩):=i' rfl
structure cb where
 b:Int
 e:Int
 lbs:List Int
deriving DecidableEq
instance:Cod cb where
 wd:=3
 enc s:= .agg [enc s.b,enc s.e,enc s.lbs]
 dec| .agg [a,c,j]=>(dec a).bind λa=>(dec c).bind λc=>(dec j).bind λj=>some ⟨a,c,j⟩|_=>none
 kn _:=rfl
 wid _:=rfl
 dec_enc s:=by simp
 le d x h:=by
  split at h
  ·simp only[qFF]at h;obtain⟨a,h0,c,h1,j,h2,h⟩:=h;cases h;exact LeL.agg (.cons (Cod.le _ _ h0) (.cons (Cod.le _ _ h1) (.cons (Cod.le _ _ h2) .nil)))
  ·cases h
@[simp] theorem qtt(s:cb):enc s= .agg [enc s.b,enc s.e,enc s.lbs]:=i' rfl
@[simp] theorem qtV:Cod.wd cb=3:=i' rfl
structure zW where
 r:I32
 pos:Int
 sz:Int
 ok:Bool
deriving DecidableEq
instance:Cod zW where
 wd:=4
 enc s:= .agg [enc s.r,enc s.pos,enc s.sz,enc s.ok]
 dec| .agg [a,b,c,j]=>(dec a).bind λa=>(dec b).bind λb=>(dec c).bind λc=>(dec j).bind λj=>some ⟨a,b,c,j⟩|_=>none
 kn _:=rfl
 wid _:=rfl
 dec_enc s:=by simp
 le d x h:=by
  split at h
  ·simp only[qFF]at h;obtain⟨a,h0,b,h1,c,h2,j,h3,h⟩:=h;cases h;exact LeL.agg (.cons (Cod.le _ _ h0) (.cons (Cod.le _ _ h1) (.cons (Cod.le _ _ h2) (.cons (Cod.le _ _ h3) .nil))))
  ·cases h
@[simp] theorem qrY(s:zW):enc s= .agg [enc s.r,enc s.pos,enc s.sz,enc s.ok]:=i' rfl
@[simp] theorem qs1:Cod.wd zW=4:=i' rfl
def av{b:Type}{l:List b}{k:Nat}{a:b}(h:l[k]? =some a):l.take (k+1)=l.take k++ [a]:=by
 rw[qGP,h];rfl
def bw{b:Type}{l:List b}{k:Nat}{a:b}(h:l[k]? =some a):l.drop k=a::l.drop (k+1):=by
 obtain⟨hk,rfl⟩:=qFG.1 h;exact qGm hk
def aU{b:Type}{l:List b}{k:Nat}{a:b}(h:l[k]? =some a):a∈l:=qFK h
def qpM{b:Type}{l:List b}{k:Nat}{a:b}(h:l[k]? =some a):k<l.length:=(qFG.1 h).1
def aQ{b:Type}{l:List b}{k:Nat}(h:k<l.length):∃a,l[k]? =some a:=⟨l[k],qFH h⟩
def C9(a b:Span):Prop:=a.b<b.b\/a.b=b.b/\a.e<b.e
instance (a b:Span):Decidable (C9 a b):=by unfold C9;infer_instance
def Jd(a:Span):¬C9 a a:=by unfold C9;omega
def KX{a b c:Span}(h:C9 a b)(k:C9 b c):C9 a c:=by unfold C9 at*;omega
def Span.ext'{a b:Span}(h:a.b=b.b)(k:a.e=b.e):a=b:=by cases a;cases b;simp at h k;simp[h,k]
def Nx(a b:Span):C9 a b\/a=b\/C9 b a:=by
 by_cases h:a.b=b.b/\a.e=b.e
 ·exact .inr (.inl (Span.ext' h.1 h.2))
 ·unfold C9;omega
def SS(l:List Span):Prop:=l.Pairwise C9
def SS.nil:SS []:=List.Pairwise.nil
theorem qbI:∀{a b:List Span},SS a->SS b->(∀x,x∈a↔x∈b)->a=b
 | [], [],_,_,_=>rfl
 | [],y::b,_,_,h=>by have:=(h y).2 (by simp);simp at this
 |x::a, [],_,_,h=>by have:=(h x).1 (by simp);simp at this
 | x::a,y::b,k,hb,h=>by
   have c:=qHa.1 k;have d:=qHa.1 hb;have j:x=y:=by
    rcases qFP.1 ((h x).1 (by simp))with e|e
    ·exact e
    ·rcases qFP.1 ((h y).2 (by simp))with e2|e2
     ·exact e2.symm
     ·exact absurd (KX (c.1 y e2) (d.1 x e)) (Jd x)
   subst j;have:a=b:=qbI c.2 d.2 λz=>by
    constructor
    ·intro hz;rcases qFP.1 ((h z).1 (by simp[hz]))with e|e
     ·subst e;exact absurd (c.1 z hz) (Jd z)
     ·exact e
    ·intro hz;rcases qFP.1 ((h z).2 (by simp[hz]))with e|e
     ·subst e;exact absurd (d.1 z hz) (Jd z)
     ·exact e
   rw[this]
def IsNorm(l r:List Span):Prop:=SS r/\∀x,x∈r↔x∈l
def IsNorm.eq{l l' r r':List Span}(h:IsNorm l r)(k:IsNorm l' r')(hl:∀x,x∈l↔x∈l'):r=r':=
 qbI h.1 k.1 λx=>(h.2 x).trans ((hl x).trans (k.2 x).symm)
def IsNorm.nil:IsNorm [] []:=⟨SS.nil,λ_=>qG4⟩
def IsNorm.congr{l l' r:List Span}(h:IsNorm l r)(hl:∀x,x∈l↔x∈l'):IsNorm l' r:=⟨h.1,λx=>(h.2 x).trans (hl x)⟩
def IsNorm.self{l:List Span}(h:SS l):IsNorm l l:=⟨h,λ_=>qG4⟩
def qhY:∀{r l:List Span},SS r->(∀x∈r,x∈l)->r.length<=l.length
 | [],l,_,_=>qF3 _
 | x::r,l,h,hl=>by
   have a:=qHa.1 h;have b:=hl x (by simp);have:=qhY (l:=l.erase x) a.2 λy c=>(List.mem_erase_of_ne (λ(e:y=x)=>Jd x (by have:=a.1 y c;rwa [e]at this))).2 (hl y (by simp[c]))
   rw[List.length_erase_of_mem b]at this;have:=List.length_pos_of_mem b;simp;omega
def IsNorm.len{l r:List Span}(h:IsNorm l r):r.length<=l.length:=qhY h.1 λx a=>(h.2 x).1 a
def IsNorm.snoc{l l' r r':List Span}{s:Span}(h:IsNorm l r)(k:IsNorm (r++ [s]) r')(hl:∀x,x∈l'↔x∈l\/x=s):IsNorm l' r':=
 ⟨k.1,λx=>(k.2 x).trans (by rw[hl x];simp[h.2 x])⟩
def IsNorm.same{l l' r:List Span}(h:IsNorm l r)(hl:∀x,x∈l'↔x∈l):IsNorm l' r:=⟨h.1,λx=>(h.2 x).trans (hl x).symm⟩
theorem Zc{l:List Span}{s:Span}{k:Nat}(h:SS l)(hk:k<=l.length)(h1:∀x∈l.drop k,C9 s x)(h2:k=0\/ ∃y,l[k -1]? =some y/\ ¬C9 s y):
 (∀y,0<k->l[k -1]? =some y->y=s->IsNorm (l++ [s]) l)/\((∀y,0<k->l[k -1]? =some y->y≠s)->IsNorm (l++ [s]) (l.take k++s::l.drop k)):=by
 constructor
 ·intro y _ hy e;subst e;refine(IsNorm.self h).congr λx=>?_
  simp only[qFL,qGY];exact⟨.inl,λhx=>hx.elim id λe=>e ▸aU hy⟩
 ·intro b;have hs:SS (l.take k++l.drop k):=by rw[qGf];exact h
  obtain⟨c,hb,d⟩:=qGx.1 hs;have j:∀x∈l.take k,C9 x s:=by
   intro x hx;rcases h2 with rfl|⟨y,hy,hn⟩
   ·simp at hx
   ·rcases qGZ k with rfl|hk0
    ·simp at hx
    have a:C9 y s:=by
     rcases Nx y s with h|h|h
     ·exact h
     ·exact absurd h (b y hk0 hy)
     ·exact absurd h hn
    have p:l.take k=l.take (k -1) ++ [y]:=by
     have:=av hy;rwa [Nat.sub_add_cancel hk0]at this
    rw[p]at hx c;rcases qFL.1 hx with hx|hx
    ·exact KX ((qGx.1 c).2.2 x hx y (by simp)) a
    ·simp at hx;subst hx;exact a
  refine⟨?_,λx=>?_⟩
  ·refine qGx.2 ⟨c,qHa.2 ⟨h1,hb⟩,λx hx y hy=>?_⟩;rcases qFP.1 hy with rfl|hy
   ·exact j x hx
   ·exact d x hx y hy
  ·have:x∈l↔x∈l.take k\/x∈l.drop k:=by
    rw[<-qFL,qGf]
   simp only[qFL,qFP,qGY,this];constructor
   ·rintro(h|h|h)
    ·exact .inl (.inl h)
    ·simp[h]
    ·exact .inl (.inr h)
   ·rintro((h|h)|h)
    ·exact .inl h
    ·exact .inr (.inr h)
    ·simp at h;exact .inr (.inl h)
def fe{X:Type} :List X->(X->Bool)->Int
 | [],_=> -1
 |x::l,p=>if p x then 0 else if fe l p< 0 then -1 else fe l p+1
def jZ{X:Type}{p:X->Bool} :∀{l:List X},(∀y∈l,p y=false)->fe l p= -1
 | [],_=>rfl
 | x::l,h=>by
   have:=jZ (l:=l) (λy a=>h y (by simp[a]));simp[fe,h x (by simp),this]
def tE{X:Type}{p:X->Bool} :∀{l:List X} {k:Nat} {x:X},l[k]? =some x->p x=true->(∀y∈l.take k,p y=false)->fe l p=k
 | [],k,x,a,_,_=>by simp at a
 | z::l,0,x,a,hp,_=>by
   simp at a;subst a;simp[fe,hp]
 | z::l,k+1,x,a,hp,hb=>by
   have hz:=hb z (by simp);have b:=tE (l:=l) (k:=k) (by simpa using a) hp (λy c=>hb y (by simp[c]));simp[fe,hz,b];omega
def G7{X:Type}(p:X->Bool)(l:List X):(fe l p= -1/\∀y∈l,p y=false)\/ ∃k x,fe l p=(k:Nat)/\l[k]? =some x/\p x=true/\∀y∈l.take k,p y=false:=by
 induction l with
 |nil=>exact .inl ⟨rfl,by simp⟩
 | cons z l a=>
   by_cases hz:p z=true
   ·exact .inr ⟨0,z,by simp[fe,hz],by simp,hz,by simp⟩
   ·have hz:p z=false:=by simpa using hz
    rcases a with⟨h1,h2⟩|⟨k,x,h1,h2,h3,h4⟩
    ·refine .inl ⟨by simp[fe,hz,h1],λy hy=>?_⟩;rcases qFP.1 hy with rfl|hy
     ·exact hz
     ·exact h2 y hy
    ·refine .inr ⟨k+1,x,?_,by simpa using h2,h3,λy hy=>?_⟩
     ·simp[fe,hz,h1];omega
     ·rw[qIb]at hy;rcases qFP.1 hy with rfl|hy
      ·exact hz
      ·exact h4 y hy
def vJ{X:Type}(p:X->Bool)(l:List X):decide (0<=fe l p)=l.any p:=by
 rcases G7 p l with⟨h1,h2⟩|⟨k,x,h1,h2,h3,h4⟩
 ·have:l.any p=false:=by simpa using h2
  rw[h1,this];rfl
 ·have:l.any p=true:=qGU.2 ⟨x,aU h2,h3⟩;rw[h1,this];simp
def qtu(r:List Span)(x:Span):List Span:=if r.getLast? =some x then r else r++ [x]
def yg(l:List Span):List Span:=l.foldl qtu []
def Fd(l:List Span)(x:Span):yg (l++ [x])=qtu (yg l) x:=by simp[yg]
def vZ{b:Type}{P:List b->Prop}(h0:P [])(hs:∀l x,P l->P (l++ [x])):∀l,P l:=by
 intro l;have:∀n (l:List b),l.length=n->P l:=by
  intro n
  induction n with
  |zero=>intro l hl;rw[qFZ hl];exact h0
  | succ n c=>
    intro l hl;have a:l≠ []:=by intro e;subst e;simp at hl
    rw[<-List.dropLast_concat_getLast a];exact hs _ _ (c _ (by simp[hl]))
 exact this _ l rfl
def Le(l:List Span):(yg l).getLast? =l.getLast?:=by
 refine vZ (P:=λl=>(yg l).getLast? =l.getLast?) rfl (λl x a=>?_) l;rw[Fd,qtu];split
 ·rename_i h;rw[h];simp
 ·simp
def qak(l:List Span):∀x,x∈yg l↔x∈l:=by
 refine vZ (P:=λl=>∀x,x∈yg l↔x∈l) (λx=>qG4) (λl y a x=>?_) l;rw[Fd,qtu];split
 ·rename_i h;rw[Le]at h;have b:y∈l:=List.mem_of_getLast? h;simp[a x];rintro rfl;exact b
 ·simp[a x]
def WS(l:List Span):Prop:=l.Pairwise λa b=>¬C9 b a
theorem qoK{l:List Span}(h:WS l):SS (yg l):=by
 revert h;refine vZ (P:=λl=>WS l->SS (yg l)) (λ_=>SS.nil) (λl x r h=>?_) l;have j:=qGx.1 h;have hs:=r j.1;rw[Fd,qtu];split
 ·exact hs
 ·rename_i p;refine qGx.2 ⟨hs,by simp,λa s b hb=>?_⟩;simp at hb;subst hb;have d:=(qak l a).1 s;rcases Nx a b with h1|h1|h1
  ·exact h1
  ·exfalso;subst h1;apply p;rw[Le];obtain⟨w,q,rfl⟩:=qHU d;have h3:=(qGx.1 j.1).2.1;have h4:=qHa.1 h3;cases c:q.getLast? with
   | none=>
     have:q=[]:=List.getLast?_eq_none_iff.1 c;subst this;simp
   | some z=>
     have hz:z∈q:=List.mem_of_getLast? c;have t:=h4.1 z hz;have u:=j.2.2 z (by simp[hz]) a (by simp);have:z=a:=by
      rcases Nx z a with k|k|k
      ·exact absurd k t
      ·exact k
      ·exact absurd k u
     subst this;rw[List.getLast?_append,List.getLast?_cons];simp[c]
  ·exact absurd h1 (j.2.2 a d b (by simp))
def SS.filter{l:List Span}(h:SS l)(p:Span->Bool):SS (l.filter p):=List.Pairwise.filter p h
def IsNorm.filter{l r:List Span}(h:IsNorm l r)(p:Span->Bool):IsNorm (l.filter p) (r.filter p):=⟨h.1.filter p,λx=>by simp[h.2 x]⟩
def qh4(l:List Span)(i:Nat)(v:Span):(l.map Cod.enc).set i (.agg [.v (.int .i64 v.b), .v (.int .i64 v.e)])=(l.set i v).map Cod.enc:=by
 rw[qHA];rfl
def Qk{l:List Span}(h:l.length< 2):yg l=l:=by
 match l,h with
 | [],_=>rfl
 | [x],_=>rfl
 |x::y::l,h=>exact absurd h (by simp only[qGn];omega)
def qk9{l:List Span}(h:1<=l.length):yg (l.take 1)=l.take 1:=Qk (by simp;omega)
def TF{l:List Span}{j:Nat}{x y:Span}(a:1<=j)(b:l[j]? =some x)(c:l[j -1]? =some y):yg (l.take (j+1))=if x=y then yg (l.take j)else yg (l.take j) ++ [x]:=by
 rw[av b,Fd,qtu,Le];have:(l.take j).getLast? =some y:=by
  have e:=av c;rw[Nat.sub_add_cancel a]at e;rw[e];simp
 rw[this];by_cases h:x=y
 ·subst h;simp
 ·have:¬y=x:=λe=>h e.symm
  simp[h,this]
def tA{b:Type}{cur l:List b}{k m:Nat}{x:b}(hk:k<cur.length)(a:k<m)(c:cur.drop m=l.drop m):
 (cur.set k x).take (k+1)=cur.take k++ [x]/\(cur.set k x).drop m=l.drop m:=by
 constructor
 ·rw[qGP];simp[List.take_set_of_le,hk]
 ·rw[List.drop_set_of_lt a,c]
def NG{c:Type}{a b:List c}{m i:Nat}(h:a.drop m=b.drop m)(hi:m<=i):a[i]? =b[i]?:=by
 have:=congrArg (λl=>l[i -m]?) h;simp only[qGC]at this;rwa [show m+ (i -m)=i by omega]at this
def we{c:Type}{a b:List c}{m i:Nat}(h:a.drop m=b.drop m)(hi:m<=i):a.drop i=b.drop i:=by
 have:=congrArg (λl=>l.drop (i -m)) h;simp only[List.drop_drop]at this;rwa [show m+ (i -m)=i by omega]at this
def qgS(s:ByteArray)(p:Nat)(h:p<s.size):1<=(Utf8.decode s p).2/\p+ (Utf8.decode s p).2<=s.size:=by
 unfold Utf8.decode;simp only[qFO,decide_eq_true_eq]
 repeat' split
 all_goals (try simp only[])
 all_goals omega
namespace G
variable {α:Type}
def fc(n:Nat)(f:Nat->α):α:=match n with
 | 0=>f 0
 |k+1=>f (k+1)
def bt(t:Nat):Nat:=Nat.shiftLeft 1 t
def oM:Operand->Nat
 | .tmp t=>bt t
 | _=>0
def qD9:List Operand->Nat
 | []=>0
 |o::l=>Nat.lor (oM o) (qD9 l)
def qDW:CI->Nat
 | .op _ g c=>Nat.lor (qD9 c.ops) (match g with|some (s,_)=>bt s|none=>0)
 | .frz _ _=>0
def rm(m t:Nat):Nat:=Nat.sub m (Nat.land m (bt t))
def qxY:List CI->Nat->Nat
 | [],o=>o
 | x::l,o=>fc (qxY l o) λo=>match x with
   | .op (some d) g c=>Nat.lor (rm o d) (qDW (.op (some d) g c))
   | .op none g c=>Nat.lor o (qDW (.op none g c))
   | .frz _ _=>o
def lk:List (Nat×Nat)->Nat->Nat
 | [],_=>0
 | (i,m)::l,k=>match Nat.beq i k with
  |true=>m
  |false=>lk l k
def qBI:Nat->(Nat->Nat)->Nat->Nat
 | 0,_,c=>c
 | n+1,f,c=>fc (Nat.lor c (f c)) λd=>match Nat.beq d c with
   |true=>d
   |false=>qBI n f d
def lv(r:Nat):CC->List (Nat×Nat)->Nat->Nat
 | .skip,_,o=>o
 | .reg l,_,o=>qxY l o
 | .regd p t,_,o=>fc (qxY t o) (qxY p)
 | .seq a b,e,o=>fc (lv r b e o) (lv r a e)
 | .ite c a b,e,o=>Nat.lor (Nat.lor (lv r a e o) (lv r b e o)) (oM c)
 | .block i b,e,o=>lv r b ((i,o)::e) o
 | .loop _ b,e,_=>qBI 50 (lv r b e) 0
 | .exit i,e,_=>lk e i
 | .ret,_,_=>r
 | .cut _ c,e,o=>lv r c e o
 | .keep _ _ c,e,o=>lv r c e o
def gt(W x t:Nat):Nat:=Nat.land (Nat.shiftRight x (Nat.mul t W)) (Nat.sub (bt W) 1)
def ad(W x t m:Nat):Nat:=Nat.lor x (Nat.shiftLeft m (Nat.mul t W))
def hO(W h:Nat):Operand->Nat
 | .tmp t=>gt W h t
 | _=>0
def qtp(W h:Nat):List Operand->Nat
 | []=>0
 |o::l=>Nat.lor (hO W h o) (qtp W h l)
def qlt:Nat->Nat->Nat->List Nat
 | 0,_,_=>[]
 | n+1,i,m=>match Nat.beq m 0 with
   |true=>[]
   | false=>match Nat.beq (Nat.land m 1) 1 with
     |true=>i::qlt n (i+1) (Nat.shiftRight m 1)
     |false=>qlt n (i+1) (Nat.shiftRight m 1)
def bl(m:Nat):List Nat:=qlt 1000 0 m
def qhe(f:Nat->Nat):List Nat->Nat
 | []=>0
 |i::l=>Nat.lor (f i) (qhe f l)
def qqV(W:Nat)(f:Nat->Nat):List Nat->Nat->Nat
 | [],c=>c
 |i::l,c=>fc (ad W c i (f i)) (qqV W f l)
def qE9(W:Nat)(x:CI)(h c:Nat)(K:Nat->Nat->α):α:=match x with
 | .frz _ _=>K h c
 | .op d _ o=>
   let put (m:Nat):α:=match d with
    |some d=>fc (ad W h d m) λh=>K h c
    |none=>K h c
   let own:Nat:=match d with
    |some d=>bt d
    |none=>0
   let a (s:Nat):α:=fc s λs=>fc (qqV W (λi=>rm s i) (bl s) c) λc=>match d with
    |some d=>fc (ad W h d s) λh=>K h c
    |none=>K h c
   match o with
   | .alloc _ _=>put own
   | .nslice _ _=>put own
   | .mslice _ _ _=>put own
   | .mkslice _ _ _ _ _ _ _=>put own
   | .srange _=>put own
   | .appmk _ _ _ _ _ _ _=>put own
   | .m .mk _=>put own
   | .m .rng (x::_)=>fc (qqV W (λ_=>hO W h x) (bl own) c) λc=>match d with
     |some d=>fc (ad W h d own) λh=>K h c
     |none=>K h c
   | .m (.del _ _) _=>K h c
   | .m .len _=>K h c
   | .m (.upd _ _) (x::b)=>fc (qtp W h b) λv=>fc (qqV W (λ_=>v) (bl (hO W h x)) c) λc=>K h c
   | .m (.look _ _ _ _ _) (x::_)=>put (qhe (gt W c) (bl (hO W h x)))
   | .m .entry (x::_)=>put (qhe (gt W c) (bl (hO W h x)))
   | .load _ _ x=>put (qhe (gt W c) (bl (hO W h x)))
   | .tbx _ x=>fc (qqV W (λ_=>hO W h x) (bl own) c) λc=>match d with
     |some d=>fc (ad W h d own) λh=>K h c
     |none=>K h c
   | .box _ false x=>fc (qqV W (λ_=>hO W h x) (bl own) c) λc=>match d with
     |some d=>fc (ad W h d own) λh=>K h c
     |none=>K h c
   | .store _ _ x y=>fc (hO W h y) λv=>fc (qqV W (λ_=>v) (bl (hO W h x)) c) λc=>K h c
   | .append _ _ _ _ x _=>put (Nat.lor own (hO W h x))
   | .call _ xs=>a (qtp W h xs)
   | .callb _ _ xs=>a (qtp W h xs)
   | .callv f xs=>put (Nat.lor (qtp W h xs) (hO W h f))
   |o=>put (qtp W h o.ops)
def qw3(W:Nat):List CI->Nat->Nat->(Nat->Nat->α)->α
 | [],h,c,K=>K h c
 |x::l,h,c,K=>qE9 W x h c λh c=>qw3 W l h c K
def qqR(W:Nat):CC->Nat->Nat->(Nat->Nat->α)->α
 | .reg l,h,c,K=>qw3 W l h c K
 | .regd p t,h,c,K=>qw3 W p h c λh c=>qw3 W t h c K
 | .seq a b,h,c,K=>qqR W a h c λh c=>qqR W b h c K
 | .ite _ a b,h,c,K=>qqR W a h c λh c=>qqR W b h c K
 | .block _ b,h,c,K=>qqR W b h c K
 | .loop _ b,h,c,K=>qqR W b h c K
 | _,h,c,K=>K h c
def fx(W:Nat)(cc:CC):Nat->Nat->Nat->(Nat->Nat->α)->α
 | 0,h,c,K=>K h c
 | n+1,h,c,K=>qqR W cc h c λa c'=>match Nat.beq h a with
   |false=>fx W cc n a c' K
   | true=>match Nat.beq c c' with
     |false=>fx W cc n a c' K
     |true=>K h c
def cl(W c:Nat):Nat->Nat->Nat
 | 0,s=>s
 | n+1,s=>fc (Nat.lor s (qhe (gt W c) (bl s))) λt=>match Nat.beq t s with
   |true=>s
   |false=>cl W c n t
def qu8:Value->Bool
 | .int .i64 k=>decide (k=1)
 | _=>false
def qFo:List CI->Option (Nat×Nat×Nat)
 | [.op (some c) none (.cmp .lss (.tmp i) (.tmp n))]=>some (c,i,n)
 | _=>none
def qFp:List CI->Option (Nat×Nat)
 | [.op (some a) none (.arith .add (.tmp i) (.const v)), .op (some j) none (.mv (.tmp j2))]=>match qu8 v && Nat.beq i j && Nat.beq a j2 with
   |true=>some (a,i)
   |false=>none
 | _=>none
def qBJ(id:Nat):CC->Option (Nat×Nat×Nat×Nat×Nat)
 | .loop _ (.seq (.reg l) (.seq (.ite (.tmp c2) .skip (.exit a)) (.seq (.block b _) (.reg d))))=>match qFo l,qFp d with
   | some (c,i,n),some (k,j)=>match Nat.beq id a && Nat.beq c c2 && Nat.beq i j with
     |true=>some (i,n,c,b,k)
     |false=>none
   | _,_=>none
 | _=>none
def qoL:CC->Nat
 | .seq a b=>qoL a+qoL b+1
 | .ite _ a b=>qoL a+qoL b
 | .block i b=>match qBJ i b with
   |some _=>qoL b -3
   |none=>qoL b
 | .loop _ b=>qoL b
 | _=>0
def pJ:CC->Nat
 | .seq a b=>pJ a+pJ b
 | .ite _ a b=>pJ a+pJ b
 | .block i b=>match qBJ i b with
   |some _=>pJ b -1
   |none=>pJ b
 | .loop _ b=>pJ b+1
 | _=>0
def uk:CC->CC
 | .keep _ _ c=>c
 |c=>c
def qFx(b:CC):CC:=match b with
 | .loop _ b=>match uk b with
   | .seq _ b=>match uk b with
     | .seq _ b=>match uk b with
       | .seq a _=>match uk a with
         | .block _ b=>b
         | _=> .skip
       | _=> .skip
     | _=> .skip
   | _=> .skip
 | _=> .skip
section
variable (f:Operand->Operand)(z:List Value->List Value)
def pC:COp->COp
 | .mv x=> .mv (f x)
 | .pick c x y=> .pick (f c) (f x) (f y)
 | .alloc el l=> .alloc el (z l)
 | .box el im x=> .box el im (f x)
 | .tbx el x=> .tbx el (f x)
 | .build l d=> .build (z l) (d.map λp=>(p.1,p.2.1,f p.2.2))
 | .bslice el n d=> .bslice el n (d.map f)
 | .nslice el n=> .nslice el n
 | .mslice el n d=> .mslice el n (d.map f)
 | .load a s x=> .load a s (f x)
 | .store r s x y=> .store r s (f x) (f y)
 | .nilck x=> .nilck (f x)
 | .arith o x y=> .arith o (f x) (f y)
 | .cmp o x y=> .cmp o (f x) (f y)
 | .eql n a ks x y=> .eql n a ks (f x) (f y)
 | .scat x y=> .scat (f x) (f y)
 | .not x=> .not (f x)
 | .neg x=> .neg (f x)
 | .conv k x=> .conv k (f x)
 | .clo g l=> .clo g (l.map f)
 | .mkslice el n b a l x y=> .mkslice el n b a (z l) (f x) (f y)
 | .slice n x l h=> .slice n (f x) (l.map f) (h.map f)
 | .sslice x l h=> .sslice (f x) (l.map f) (h.map f)
 | .faddr o x=> .faddr o (f x)
 | .fld a s o x=> .fld a s o (f x)
 | .iaddr n x i=> .iaddr n (f x) (f i)
 | .sidx x i=> .sidx (f x) (f i)
 | .ext x i=> .ext (f x) i
 | .len x=> .len (f x)
 | .slen x=> .slen (f x)
 | .mm m l=> .mm m (l.map f)
 | .append r el n b x y=> .append r el n b (f x) (f y)
 | .appmk el n b a l x y=> .appmk el n b a (z l) (f x) (f y)
 | .clear n a l x=> .clear n a (z l) (f x)
 | .copy n x y=> .copy n (f x) (f y)
 | .cap x=> .cap (f x)
 | .srange x=> .srange (f x)
 | .snext x=> .snext (f x)
 | .sbytes x=> .sbytes (f x)
 | .srunes x=> .srunes (f x)
 | .bstr x=> .bstr (f x)
 | .rstr x=> .rstr (f x)
 | .mkif t x=> .mkif t (f x)
 | .m (.look ok a ka ks l) xs=> .m (.look ok a ka ks (z l)) (xs.map f)
 | .m o xs=> .m o (xs.map f)
 | .bad=> .bad
 | .call g l=> .call g (l.map f)
 | .callv g l=> .callv (f g) (l.map f)
 | .callb r g l=> .callb r g (l.map f)
def pL(fz:List (Nat×Nat)):List CI->List CI
 | []=>[]
 | .op (some d) g c::l=>match fz.lookup d with
   |some n=> .op (some d) g (pC f z c):: .frz d n::pL fz l
   |none=> .op (some d) g (pC f z c)::pL fz l
 | .op none g c::l=> .op none g (pC f z c)::pL fz l
 | .frz t n::l=> .frz t n::pL fz l
end
structure Opt where
 bx:List Nat:=[]
 fz:List (Nat×Nat):=[]
 cu:List Nat:=[]
 ke:List Nat:=[]
 kz:List Nat:=[]
abbrev PF:=(rg:Nat->Nat->Nat->Nat->Nat->CC->Nat->CC)->(sm:Nat->CC->CC->CC)->(kk:{_:Value} ->Operand)->(zk:IntKind->Value)->(ze zb zs zp zm zf:Value)->CC
section
variable (kk:{_:Value} ->Operand)(zk:IntKind->Value)(ze zb zs zp zm zf:Value)
def pO:Operand->Operand
 | .const v=> @kk v
 | .tmp t=> .tmp t
 | .global g=> .global g
 | .func f=> .func f
def pZ:List Value->List Value
 | []=>[]
 | v::l=>(match v with
   | .int k _=>zk k
   | .string _=>ze
   | .bool _=>zb
   | .slice _ _ _=>zs
   | .pointer _=>zp
   | .map _=>zm
   | _=>zf)::pZ l
end
section
variable (rg:Nat->Nat->Nat->Nat->Nat->CC->Nat->CC)(sm:Nat->CC->CC->CC)(f:Operand->Operand)(z:List Value->List Value)(op:Opt)(W h c r:Nat)
def qDn(l:List Nat):List Nat:=op.ke.filter (λx=>!l.contains x) ++l++op.kz
def an:CC->List (Nat×Nat)->Nat->Nat->Nat->Nat->CC
 | .skip,_,_,_,_,_=> .skip
 | .reg l,_,_,_,_,_=> .reg (pL f z op.fz l)
 | .regd p l,_,_,_,_,_=> .regd (pL f z op.fz p) (pL f z op.fz l)
 | .seq a b,e,o,m,k,s=>fc (lv r b e o) λp=>fc (match s with|0=>m+1|_=>m) λt=>
   let d:=an a e p t k 0
   let b':=an b e o (t+qoL a) (k+pJ a) (s -1)
   let b2:=match a with
    | .skip=>b'
    | _=> .keep (bl p) (qDn op (bl (cl W c 5 (qhe (gt W h) (bl p))))) b'
   match s with
   | 0=>match op.cu.contains m with
     |true=>sm m d b2
     |false=> .seq d b2
   | _=> .seq d b2
 | .ite q a b,e,o,m,k,_=> .ite (f q) (an a e o m k 0) (an b e o (m+qoL a) (k+pJ a) 0)
 | .block i b,e,o,m,k,_=>match qBJ i b with
   |some (u,n,c,j,w)=>rg i u n c j (qFx (an b ((i,o)::e) o m k 3)) w
   |none=> .block i (an b ((i,o)::e) o m k 0)
 | .loop _ b,e,_,m,k,s=>fc (qBI 50 (lv r b e) 0) λo=>match s with
   | 0=> .loop k (an b e o m (k+1) 0)
   | _=> .loop 0 (an b e o m k s)
 | .exit i,_,_,_,_,_=> .exit i
 | .ret,_,_,_,_,_=> .ret
 | .cut _ c,e,o,m,k,s=>an c e o m k s
 | .keep _ _ c,e,o,m,k,s=>an c e o m k s
end
def qpr(W:Nat):List Nat->Nat
 | []=>0
 |t::l=>ad W (qpr W l) t (bt t)
def qq6:List ResultVar->Nat
 | []=>0
 | .tmp t::l=>Nat.lor (bt t) (qq6 l)
 | .cell t _::l=>Nat.lor (bt t) (qq6 l)
def qEz(P:Program)(neg:Bool)(t:TypeId)(x y:Operand):COp:=match P.underlying t with
 |some (.struct fs)=> .eql neg true (fs.toList.map λf=>(rh P f.type).getD .int) x y
 | _=> .eql neg false [(rh P t).getD .int] x y
def qCX(P:Program)(im:List Nat)(ops:Array Oper)(o:Oper):CI:= .op o.dst ((Jk ops o).getD none) (match o.op with
 | .binOp .eql t x y _=>qEz P false t x y
 | .binOp .neq t x y _=>qEz P true t x y
 | _=>(da P im o).getD .bad)
def cC(P:Program)(im:List Nat):Code->CC
 | .region _ ops false=> .reg (ops.toList.map (qCX P im ops))
 | .region _ ops true=> .regd (qdS ops (ops.toList.map (qCX P im ops)) (cM ops)) ((ops.toList.map (qCX P im ops)).drop (cM ops))
 | .seq a b=> .seq (cC P im a) (cC P im b)
 | .cond c a b=> .ite c (cC P im a) (cC P im b)
 | .block id b=> .block id (cC P im b)
 | .loop b=> .loop 0 (cC P im b)
 | .exit id=> .exit id
 | .ret=> .ret
 | _=> .skip
def gn(P:Program)(fn:Func)(im:List Nat)(op:Opt):PF:=λrg sm kk zk ze zb zs zp zm zf=>match fn.body with
 |none=> .skip
 | some code=>fc (qpr fn.ntmps op.bx) λh0=>fx fn.ntmps (cC { P with cutTypes:= #[] } im code) 6 h0 0 λh c=>fc (qq6 fn.results.toList) λr=>
   an rg sm (pO @kk) (pZ zk ze zb zs zp zm zf) op fn.ntmps h c r (cC { P with cutTypes:= #[] } im code) [] r 0 1 0
def ap(c:PF):CC:=c gd MJ (λ{v} => .const v) (λk=> .int k 0) (.string ⟨#[]⟩) (.bool false) (.slice none 0 0) (.pointer none) (.map none) .nilFunc
end G
end
end Go.Gv
