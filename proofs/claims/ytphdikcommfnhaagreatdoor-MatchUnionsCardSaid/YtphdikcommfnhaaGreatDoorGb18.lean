/- A part of the framework and of the walks: T11 T12. -/
import Derived.Test.YtphdikcommfnhaaGreatDoorGb17
set_option linter.unusedSimpArgs false
set_option linter.unusedVariables false

namespace Go.Gv
open Cod (enc dec)
@[simp] theorem qi9(H:ab)(x y:Value):FrzTo H (.v x) (.v y)=(x=y):=by
 refine propext ⟨fun h=>?_,fun h=>h ▸ .same _⟩
 cases h;rfl
@[simp] theorem qlZ(H:ab)(d:D):FrzTo H d d=True:=propext ⟨fun _=>trivial,fun _=> .same d⟩
@[simp] theorem qpa(H:ab)(n:Nat)(es:List D):FrzTo H (.v (.slice none 0 0)) (.list n es)=(es=[]):=by
 refine propext ⟨fun h=>?_,fun h=>h ▸ .nil n⟩
 cases h;rfl
theorem qcz{H:ab}{a b a' b':D}(h1:FrzTo H a a')(h2:FrzTo H b b'):FrzTo H (.tup [a,b]) (.tup [a',b']):=
 .tup rfl fun k c c' hc hc'=>by
  match k with
  | 0=>simp at hc hc';subst hc;subst hc';exact h1
  | 1=>simp at hc hc';subst hc;subst hc';exact h2
  | k+2=>simp at hc
theorem qcy{H:ab}{a b c a' b' c':D}(h1:FrzTo H a a')(h2:FrzTo H b b')(h3:FrzTo H c c'):FrzTo H (.tup [a,b,c]) (.tup [a',b',c']):=
 .tup rfl fun k d d' hc hc'=>by
  match k with
  | 0=>simp at hc hc';subst hc;subst hc';exact h1
  | 1=>simp at hc hc';subst hc;subst hc';exact h2
  | 2=>simp at hc hc';subst hc;subst hc';exact h3
  | k+3=>simp at hc
section
variable {P:Program}{S:Nat->Spc}{f:Nat}{im:List Nat}{cc:CC}{rs:List aj}{N:Nat}
end
end Go.Gv

namespace Go.Gv
open Cod (enc dec)
structure dc (X:Type) where
 dec:List D->Option X
 view:X->List D
 le:∀ds x,dec ds=some x->LeL ds (view x)
def bp{X Y:Type}(A:dc X)(pre:X->Prop)(er:Y->D)(post:X->Y->Prop):Spc:=Yd A.dec pre fun x r=>∃y,r=er y/\post x y
def dI{X:Type}(o:Option X)(k:X->Prop):Prop:=match o with|some x=>k x|none=>False
@[congr] theorem qle{X:Type}{o o':Option X}{k:X->Prop}(h:o=o'):dI o k=dI o' k:=by subst h;rfl
@[simp] theorem qoh{X:Type}(x:X)(k:X->Prop):dI (some x) k=k x:=id rfl
@[simp] theorem rP{X Y:Type}(A:dc X)(pre:X->Prop)(er:Y->D)(post:X->Y->Prop)(d:Nat)(ds:List D)(H:ab)(K:D->ab->Prop):
 (bp A pre er post).pt d ds H K=dI (A.dec ds) fun x=>pre x/\∀y,post x y->K (er y) H:=by
 refine propext ⟨fun h=>?_,fun h=>?_⟩
 ·obtain⟨⟨x,h1,h2⟩,h3⟩:=h
  rw[h1]
  refine⟨h2,fun y hy=>h3 _ fun x' hx' _=>?_⟩
  rw[h1]at hx'
  cases hx'
  exact⟨y,rfl,hy⟩
 ·cases hd:A.dec ds with
  | none=>rw[hd]at h;exact h.elim
  | some x=>
    rw[hd]at h
    refine Xp x hd h.1 ?_
    rintro r ⟨y,rfl,hy⟩
    exact h.2 y hy
@[simp] theorem qkJ{X Y:Type}(A:dc X)(pre:X->Prop)(er:Y->D)(post:X->Y->Prop)(dst:Option Nat)(ds:List D)(H:ab)(K:D->ab->Prop):
 Vq dst (bp A pre er post) ds H K=dI (A.dec ds) fun x=>pre x/\∀y,post x y->K (er y) H:=rP A pre er post 0 ds H K
def Fin{Y:Type}(er:Y->D)(q:Y->Prop)(r:D)(H':ab):Prop:=∃y,FrzTo H' r (er y)/\q y
theorem cV{Y:Type}{er:Y->D}{q:Y->Prop}{r:D}{H':ab}(y:Y)(h:FrzTo H' r (er y))(hq:q y):Fin er q r H':=⟨y,h,hq⟩
@[simp] theorem ql5(q:Int->Prop)(n:Int)(H':ab):Fin enc q (.v (.int .i64 n)) H'=q n:=by
 simp[Fin,qcQ]
@[simp] theorem qje(q:Bool->Prop)(n:Bool)(H':ab):Fin enc q (.v (.bool n)) H'=q n:=by
 refine propext ⟨fun⟨y,h1,h2⟩=>?_,fun h=>⟨n, .same _,h⟩⟩
 rw[Zz,qi9]at h1
 cases h1
 exact h2
@[simp] theorem ql4(q:ByteArray->Prop)(n:ByteArray)(H':ab):Fin enc q (.v (.string n)) H'=q n:=by
 refine propext ⟨fun⟨y,h1,h2⟩=>?_,fun h=>⟨n, .same _,h⟩⟩
 rw[qcP,qi9]at h1
 cases h1
 exact h2
def ar{X Y:Type}(cc:CC)(rs:List aj)(S:Nat->Spc)(A:dc X)(pre:X->Prop)(er:Y->D)(post:X->Y->Prop):Prop:=
 ∀x,pre x->vc S cc (sy rs fun r H'=>Fin er (post x) r H') (dh (A.view x)) bU
theorem ae{P:Program}{S:Nat->Spc}{f:Nat}{im:List Nat}{cc:CC}{rs:List aj}{N:Nat}{X Y:Type}{A:dc X}{pre:X->Prop}{er:Y->D}{post:X->Y->Prop}
 (hS:∀f,Tri P f (S f).pt) (h:aq P f im cc rs N) (hN:∀x,(A.view x).length<=N) (hw:ar cc rs S A pre er post):Tri P f (bp A pre er post).pt:=
 Xu hS h A.le hN fun x hp=>by
  refine vJ cc _ _ (fun e σ H h=>?_) (hw x hp)
  cases e with
  | ex i=>exact h
  | _=>
    simp only[sy]at h ⊢
    have key:∀ (rs:List aj) (F G:List D->Prop),(∀ds,F ds->G ds)->xM rs σ H F->xM rs σ H G:=by
     intro rs
     induction rs with
     | nil=>exact fun F G hFG h=>hFG _ h
     | cons r rs ih=>
       intro F G hFG h
       cases r with
       | tmp t=>exact ih _ _ (fun ds h=>hFG _ h) h
       | cell t agg sz=>exact Fp (fun d h=>ih _ _ (fun ds h=>hFG _ h) h) h
    exact key rs _ _ (fun ds ⟨y,h1,h2⟩=>⟨_,h1,y,rfl,h2⟩) h
theorem ic {P : Program} {f : Nat} {fn : Func} {c : Code} (h : P.funcs[f]? = some fn) (hn : (fn.name == "runtime.NumGoroutine") = false) (hb : fn.body = some c) : eA P f := by
 intro args w
 have hn' : ¬ fn.name = "runtime.NumGoroutine" := by simpa using hn
 unfold callFunc
 simp[h,hn',hb]
theorem ai{P:Program}{f:Nat}{im:List Nat}{cc:CC}{rs:List aj}{N:Nat}(uz:P.follows .mixedOrders=true)
 (h : ((P.funcs[f]?).bind fun g => if g.name == "runtime.NumGoroutine" then none else g.body.bind fun c => (aB P im g.ntmps c).bind fun cc => (g.results.toList.mapM (gF P)).bind fun rs => some (g.ntmps, cc, rs)) = some (N, bL cc, rs)) : aq P f im cc rs N := by
 cases hf:P.funcs[f]? with
 | none=>rw[hf]at h;cases h
 | some fn=>
   rw[hf]at h
   simp only[qtb]at h
   split at h
   ·cases h
   ·rename_i hn
    simp only[qsR,qs6,qvh]at h
    obtain⟨c,hb,q,hq,r,hr,rfl,rfl,rfl⟩:=h
    exact⟨uz,ic hf (by simpa using hn) hb,fn,c,hf,hb,rfl,hq,hr⟩
def a0:dc Unit:=⟨qga,fun _=>[],qss⟩
def a1(X:Type)[Cod X]:dc X:=⟨qf9,fun x=>[enc x],qsr⟩
def a2(X Y:Type)[Cod X][Cod Y]:dc (X×Y):=⟨qf8,fun x=>[enc x.1,enc x.2],qsq⟩
def a3(X Y Z:Type)[Cod X][Cod Y][Cod Z]:dc (X×Y×Z):=⟨qf7,fun x=>[enc x.1,enc x.2.1,enc x.2.2],qsp⟩
def a4(X Y Z W:Type)[Cod X][Cod Y][Cod Z][Cod W]:dc (X×Y×Z×W):=⟨qf6,fun x=>[enc x.1,enc x.2.1,enc x.2.2.1,enc x.2.2.2],qso⟩
def aT{X:Type}(A:dc X):dc (List Int×X):=⟨fun ds=>match ds with| .tape L::r=>(A.dec r).map fun x=>(L,x)|_=>none,fun x=> .tape x.1::A.view x.2,fun ds x h=>by
 split at h
 ·simp only[qs4]at h
  obtain⟨y,hy,rfl⟩:=h
  exact .cons (.same _) (A.le _ _ hy)
 ·cases h⟩
@[simp] theorem qqD:a0.dec []=some ():=id rfl
@[simp] theorem qqC{X:Type}[Cod X](a:D):(a1 X).dec [a]=dec a:=id rfl
@[simp] theorem qgq{X Y:Type}[Cod X][Cod Y](a b:D):(a2 X Y).dec [a,b]=(dec a).bind fun x=>(dec b).bind fun y=>some (x,y):=id rfl
@[simp] theorem qqB{X Y Z:Type}[Cod X][Cod Y][Cod Z](a b c:D):(a3 X Y Z).dec [a,b,c]=(dec a).bind fun x=>(dec b).bind fun y=>(dec c).bind fun z=>some (x,y,z):=id rfl
@[simp] theorem qqA{X Y Z W:Type}[Cod X][Cod Y][Cod Z][Cod W](a b c d:D):(a4 X Y Z W).dec [a,b,c,d]=(dec a).bind fun x=>(dec b).bind fun y=>(dec c).bind fun z=>(dec d).bind fun w=>some (x,y,z,w):=id rfl
@[simp] theorem qqy{X:Type}(A:dc X)(L:List Int)(r:List D):(aT A).dec (.tape L::r)=(A.dec r).map fun x=>(L,x):=id rfl
@[simp] theorem qnr(x:Unit):a0.view x=[]:=id rfl
@[simp] theorem qnq{X:Type}[Cod X](x:X):(a1 X).view x=[enc x]:=id rfl
@[simp] theorem qnp{X Y:Type}[Cod X][Cod Y](x:X)(y:Y):(a2 X Y).view (x,y)=[enc x,enc y]:=id rfl
@[simp] theorem qno{X Y Z:Type}[Cod X][Cod Y][Cod Z](x:X)(y:Y)(z:Z):(a3 X Y Z).view (x,y,z)=[enc x,enc y,enc z]:=id rfl
@[simp] theorem qnn{X Y Z W:Type}[Cod X][Cod Y][Cod Z][Cod W](x:X)(y:Y)(z:Z)(w:W):(a4 X Y Z W).view (x,y,z,w)=[enc x,enc y,enc z,enc w]:=id rfl
@[simp] theorem qni{X:Type}(A:dc X)(L:List Int)(x:X):(aT A).view (L,x)= .tape L::A.view x:=id rfl
attribute [simp] Cod.dec_enc
@[simp] theorem qpI(n:Int):dec (X:=Int) (.v (.int .i64 n))=some n:=id rfl
@[simp] theorem qmF(n:Bool):dec (X:=Bool) (.v (.bool n))=some n:=id rfl
@[simp] theorem qpG(n:ByteArray):dec (X:=ByteArray) (.v (.string n))=some n:=id rfl
@[simp] theorem qpH{X:Type}[Cod X]:dec (X:=List X) (.v (.slice none 0 0))=some []:=id rfl
@[simp] theorem qmE{X:Type}[Cod X](n:Nat)(es:List D):dec (X:=List X) (.list n es)=if n=Cod.wd X then es.mapM (dec (X:=X))else none:=id rfl
attribute [simp] C9
@[simp] theorem qg4{X:Type}[Cod X](l:List X):l.mapM (dec (X:=X) ∘enc)=some l:=by
 have:=C9 l
 rwa [List.mapM_map]at this
def yd{Y Z:Type}[Cod Y][Cod Z](p:Y×Z):D:= .tup [enc p.1,enc p.2]
def qdS{Y Z W:Type}[Cod Y][Cod Z][Cod W](p:Y×Z×W):D:= .tup [enc p.1,enc p.2.1,enc p.2.2]
def TY(_:Unit):D:= .tup []
@[simp] theorem qjp{Y Z:Type}[Cod Y][Cod Z](y:Y)(z:Z):yd (y,z)= .tup [enc y,enc z]:=id rfl
@[simp] theorem qrH{Y Z W:Type}[Cod Y][Cod Z][Cod W](y:Y)(z:Z)(w:W):qdS (y,z,w)= .tup [enc y,enc z,enc w]:=id rfl
@[simp] theorem ql7{Y Z:Type}[Cod Y][Cod Z](q:Y×Z->Prop)(a b:D)(H':ab):Fin yd q (.tup [a,b]) H'=∃y z,FrzTo H' a (enc y)/\FrzTo H' b (enc z)/\q (y,z):=by
 refine propext ⟨fun⟨⟨y,z⟩,h1,h2⟩=>?_,fun⟨y,z,h1,h2,h3⟩=>⟨(y,z),qcz h1 h2,h3⟩⟩
 cases h1 with
 | same=>exact⟨y,z, .same _, .same _,h2⟩
 | tup hl h=>exact⟨y,z,h 0 _ _ rfl rfl,h 1 _ _ rfl rfl,h2⟩
@[simp] theorem ql6{Y Z W:Type}[Cod Y][Cod Z][Cod W](q:Y×Z×W->Prop)(a b c:D)(H':ab):Fin qdS q (.tup [a,b,c]) H'=∃y z w,FrzTo H' a (enc y)/\FrzTo H' b (enc z)/\FrzTo H' c (enc w)/\q (y,z,w):=by
 refine propext ⟨fun⟨⟨y,z,w⟩,h1,h2⟩=>?_,fun⟨y,z,w,h1,h2,h3,h4⟩=>⟨(y,z,w),qcy h1 h2 h3,h4⟩⟩
 cases h1 with
 | same=>exact⟨y,z,w, .same _, .same _, .same _,h2⟩
 | tup hl h=>exact⟨y,z,w,h 0 _ _ rfl rfl,h 1 _ _ rfl rfl,h 2 _ _ rfl rfl,h2⟩
@[simp] theorem qrI(u:Unit):TY u= .tup []:=id rfl
def tg:List (Nat×D)->Sg->Sg
 | [],σ=>σ
 | (t,d)::l,σ=>upd (tg l σ) t d
def gd:List (Nat×Res)->ab->ab
 | [],H=>H
 | (i,r)::l,H=>ah (gd l H) i (some r)
theorem SZ(σ:Sg):tg [] σ=σ:=id rfl
@[simp] theorem qgo(H:ab):gd [] H=H:=id rfl
@[simp] theorem qqw(i:Nat)(r:Res)(l:List (Nat×Res))(H:ab):gd ((i,r)::l) H=ah (gd l H) i (some r):=id rfl
def vG(ks:List Nat)(σ σ':Sg):Prop:=∀t∈ks,σ' t=σ t
def zN(hk:List Nat)(H H':ab):Prop:=∀i∈hk,H' i=H i
@[simp] theorem qoS(σ σ':Sg):vG [] σ σ'=True:=by simp[vG]
@[simp] theorem qoT(t:Nat)(ks:List Nat)(σ σ':Sg):vG (t::ks) σ σ'=(σ' t=σ t/\vG ks σ σ'):=by simp[vG]
@[simp] theorem qlK(σ σ':ab):zN [] σ σ'=True:=by simp[zN]
@[simp] theorem qlL(t:Nat)(ks:List Nat)(σ σ':ab):zN (t::ks) σ σ'=(σ' t=σ t/\zN ks σ σ'):=by simp[zN]
theorem IG(ks:List Nat)(σ:Sg)(t:Nat):jq ks σ t=if t∈ks then σ t else .any:=by
 induction ks with
 | nil=>simp[qiU]
 | cons s ks ih=>
   rw[qfC]
   simp only[upd,qsY]
   by_cases h:t=s
   ·simp[h]
   ·simp[h,ih]
theorem IH(ks:List Nat)(σ:ab)(t:Nat):ko ks σ t=if t∈ks then σ t else none:=by
 induction ks with
 | nil=>simp
 | cons s ks ih=>
   rw[qch]
   simp only[ah,qsY]
   by_cases h:t=s
   ·simp[h]
   ·simp[h,ih]
theorem qds{σ σ':Sg}{H H':ab}(h1:∀t,Qz (σ t) (σ' t))(h2:∀i r,H' i=some r->H i=some r\/isNilRow r):Wk σ H σ' H':=by
 intro E a w hst
 obtain⟨hd,hN,tp,hw,hr⟩:=hst
 have hm:=hw.sub h2
 exact⟨hd,hN,tp,hm.1,fun t=>qd2 (h1 t) (hm.2 _ _ (hr t))⟩
theorem Cr(d:D):Qz d d:=by simp
theorem BS{σ0 σ:Sg}{H0 H:ab}{ks hk:List Nat}{sl:List (Nat×D)}{hp:List (Nat×Res)}(h1:tj sl σ)(h2:vG ks σ0 σ)(h3:xp hp H)(h4:zN hk H0 H):
 Wk σ H (tg sl (jq ks σ0)) (gd hp (ko hk H0)):=by
 refine qds (fun t=>?_) (fun i r=>?_)
 ·induction sl with
  | nil=>
    rw[SZ,IG]
    split
    ·rename_i h;rw[<-h2 t h];exact Cr _
    ·exact trivial
  | cons p sl ih=>
    obtain⟨s,d⟩:=p
    simp only[tg,upd]
    split
    ·rename_i e;subst e;exact h1.1
    ·exact ih h1.2
 ·induction hp with
  | nil=>
    rw[qgo,IH]
    split
    ·rename_i h;rw[<-h4 i h];exact .inl
    ·intro h;cases h
  | cons p hp ih=>
    obtain⟨s,d⟩:=p
    simp only[gd,ah]
    split
    ·rename_i e;subst e;intro h;cases h;exact h3.1
    ·exact ih h3.2
def Tk(σ0:Sg)(H0:ab)(ks hk:List Nat)(sl:List (Nat×D))(hp:List (Nat×Res))(σ:Sg)(H:ab):Prop:=tj sl σ/\vG ks σ0 σ/\xp hp H/\zN hk H0 H
@[simp] theorem qm8(σ0:Sg)(H0:ab)(ks hk:List Nat)(sl:List (Nat×D))(hp:List (Nat×Res))(σ:Sg)(H:ab):Tk σ0 H0 ks hk sl hp σ H=(tj sl σ/\vG ks σ0 σ/\xp hp H/\zN hk H0 H):=id rfl
def Xe{X:Type}(P:X->Prop)(B:X->Sg->ab->Prop)(m:X->Nat)(x:X)(K:Ex->Sg->ab->Prop):Ex->Sg->ab->Prop:=fun e σ' H'=>match e with
 | .norm=>∃y,P y/\B y σ' H'/\m y < m x
 | e=>K e σ' H'
@[simp ↓] theorem qny{X:Type}(P:X->Prop)(B:X->Sg->ab->Prop)(m:X->Nat)(x:X)(K:Ex->Sg->ab->Prop)(σ':Sg)(H':ab):Xe P B m x K .norm σ' H'=∃y,P y/\B y σ' H'/\m y < m x:=id rfl
@[simp ↓] theorem qnw{X:Type}(P:X->Prop)(B:X->Sg->ab->Prop)(m:X->Nat)(x:X)(K:Ex->Sg->ab->Prop)(i:Nat)(σ':Sg)(H':ab):Xe P B m x K (.ex i) σ' H'=K (.ex i) σ' H':=id rfl
@[simp ↓] theorem qnx{X:Type}(P:X->Prop)(B:X->Sg->ab->Prop)(m:X->Nat)(x:X)(K:Ex->Sg->ab->Prop)(σ':Sg)(H':ab):Xe P B m x K .ret σ' H'=K .ret σ' H':=id rfl
section
variable {S:Nat->Spc}{K:Ex->Sg->ab->Prop}{σ:Sg}{H:ab}
theorem av{X:Type}(ks hk:List Nat)(P:X->Prop)(sl:X->List (Nat×D))(hp:X->List (Nat×Res))(m:X->Nat)(x0:X){k:Nat}{b:CC}(h0:P x0)(hs:tj (sl x0) σ)(hh:xp (hp x0) H)
 (hr:∀x,P x->vc S b (Xe P (fun y=>Tk σ H ks hk (sl y) (hp y)) m x K) (tg (sl x) (jq ks σ)) (gd (hp x) (ko hk H))):vc S (.loop k b) K σ H:=by
 rw[Nn]
 refine⟨⟨X,P,fun x=>tg (sl x) (jq ks σ),fun x=>gd (hp x) (ko hk H),m⟩,⟨x0,h0,BS hs (fun _ _=>rfl) hh (fun _ _=>rfl)⟩,fun x hx=>vJ b _ _ (fun e σ' H' h=>?_) (hr x hx)⟩
 cases e with
 | norm=>
   obtain⟨y,h1,h2,h3⟩:=h
   exact⟨y,h1,BS h2.1 h2.2.1 h2.2.2.1 h2.2.2.2,h3⟩
 | ex i=>exact h
 | ret=>exact h
def VO(Q:Sg->ab->Prop)(K:Ex->Sg->ab->Prop):Ex->Sg->ab->Prop:=fun e σ' H'=>match e with
 | .norm=>Q σ' H'
 | e=>K e σ' H'
@[simp ↓] theorem qoG(Q:Sg->ab->Prop)(σ':Sg)(H':ab):VO Q K .norm σ' H'=Q σ' H':=id rfl
@[simp ↓] theorem qoE(Q:Sg->ab->Prop)(i:Nat)(σ':Sg)(H':ab):VO Q K (.ex i) σ' H'=K (.ex i) σ' H':=id rfl
@[simp ↓] theorem qoF(Q:Sg->ab->Prop)(σ':Sg)(H':ab):VO Q K .ret σ' H'=K .ret σ' H':=id rfl
def Vh(k:Nat)(a b:CC):CC:= .seq a (.cut k b)
theorem bB{X:Type}(ks hk:List Nat)(P:X->Prop)(sl:X->List (Nat×D))(hp:X->List (Nat×Res)){k:Nat}{a b:CC}
 (ha:vc S a (VO (fun σ' H'=>∃x,P x/\Tk σ H ks hk (sl x) (hp x) σ' H') K) σ H)
 (hb:∀x,P x->vc S b K (tg (sl x) (jq ks σ)) (gd (hp x) (ko hk H))):vc S (Vh k a b) K σ H:=by
 unfold Vh
 rw[PN]
 refine vJ a _ _ (fun e σ' H' h=>?_) ha
 cases e with
 | norm=>
   obtain⟨x,h1,h2⟩:=h
   rw[I3,ZE]
   exact⟨_,_,BS h2.1 h2.2.1 h2.2.2.1 h2.2.2.2,hb x h1⟩
 | ex i=>exact h
 | ret=>exact h
def wm(id i n c id2:Nat)(body:CC)(i2:Nat):CC:=
 .block id (.loop 0 (.seq (.reg [.op (some c) none (.cmp .lss (.tmp i) (.tmp n))]) (.seq (.ite (.tmp c) .skip (.exit id)) (.seq (.block id2 (.cut 0 body)) (.reg [.op (some i2) none (.arith .add (.tmp i) (.const (.int .i64 1))), .op (some i) none (.mv (.tmp i2))])))))
def qbL{X:Type}(id id2 i n:Nat)(len:Nat)(B:X->Sg->ab->Prop)(P:X->Prop)(k:Nat)(K:Ex->Sg->ab->Prop):Ex->Sg->ab->Prop:=fun e σ' H'=>match e with
 | .norm=>σ' i= .v (.int .i64 k)/\σ' n= .v (.int .i64 len)/\∃y,P y/\B y σ' H'
 | .ex j=>if j=id2 then σ' i= .v (.int .i64 k)/\σ' n= .v (.int .i64 len)/\∃y,P y/\B y σ' H' else if j=id then K .norm σ' H' else K (.ex j) σ' H'
 | .ret=>K .ret σ' H'
@[simp ↓] theorem qn1{X:Type}(id id2 i n:Nat)(len:Nat)(B:X->Sg->ab->Prop)(P:X->Prop)(k:Nat)(σ':Sg)(H':ab):qbL id id2 i n len B P k K .norm σ' H'=(σ' i= .v (.int .i64 k)/\σ' n= .v (.int .i64 len)/\∃y,P y/\B y σ' H'):=_root_.id rfl
@[simp ↓] theorem qnZ{X:Type}(id id2 i n:Nat)(len:Nat)(B:X->Sg->ab->Prop)(P:X->Prop)(k j:Nat)(σ':Sg)(H':ab):qbL id id2 i n len B P k K (.ex j) σ' H'=(if j=id2 then σ' i= .v (.int .i64 k)/\σ' n= .v (.int .i64 len)/\∃y,P y/\B y σ' H' else if j=id then K .norm σ' H' else K (.ex j) σ' H'):=_root_.id rfl
@[simp ↓] theorem qn0{X:Type}(id id2 i n:Nat)(len:Nat)(B:X->Sg->ab->Prop)(P:X->Prop)(k:Nat)(σ':Sg)(H':ab):qbL id id2 i n len B P k K .ret σ' H'=K .ret σ' H':=_root_.id rfl
theorem Bw{t:Nat}{d:D} :∀ {sl:List (Nat×D)} {σ:Sg},(∀p∈sl,p.1≠t)->tj sl σ->tj sl (upd σ t d)
 | [],_,_,_=>trivial
 | (s,e)::sl,σ,h,hm=>by
  refine⟨?_,Bw (fun p hp=>h p (by simp[hp])) hm.2⟩
  have:s≠t:=h (s,e) (by simp)
  simp only[upd,this,if_false]
  exact hm.1
theorem K9{t:Nat}{d:D}{ks:List Nat}{σ0 σ:Sg}(h:t∉ks)(hk:vG ks σ0 σ):vG ks σ0 (upd σ t d):=fun s hs=>by
 have:s≠t:=fun e=>h (e ▸hs)
 simp only[upd,this,if_false]
 exact hk s hs
theorem ak{X:Type}(ks hk:List Nat)(len:Nat)(P:Nat->X->Prop)(sl:X->List (Nat×D))(hp:X->List (Nat×Res))(x0:X){id i n c id2 i2:Nat}{body:CC}
 (hi:σ i= .v (.int .i64 0)) (hn:σ n= .v (.int .i64 len)) (hlen:(len:Int)<=9223372036854775807) (hd:([i,n,c,i2] ++ks).Nodup) (hd2:∀x,∀p∈sl x,p.1∉ [i,n,c,i2])
 (h0:P 0 x0) (hs:tj (sl x0) σ) (hh:xp (hp x0) H)
 (hr:∀k x,k < len->P k x->vc S body (qbL id id2 i n len (fun y=>Tk σ H ks hk (sl y) (hp y)) (P (k+1)) k K) (tg ((i, .v (.int .i64 k))::(n, .v (.int .i64 len))::sl x) (jq ks σ)) (gd (hp x) (ko hk H)))
 (he:∀x,P len x->K .norm (upd (tg ((i, .v (.int .i64 len))::(n, .v (.int .i64 len))::sl x) (jq ks σ)) c (.v (.bool false))) (gd (hp x) (ko hk H))):vc S (wm id i n c id2 body i2) K σ H:=by
 have ne:i≠n/\i≠c/\i≠i2/\n≠c/\n≠i2/\c≠i2/\i∉ks/\n∉ks/\c∉ks/\i2∉ks:=by
  simp only[qtI,qtO,quK,qsY,not_or]at hd
  obtain⟨⟨h1,h2,h3,h4⟩,⟨h5,h6,h7⟩,⟨h8,h9⟩,h10,_⟩:=hd
  exact⟨h1,h2,h3,h5,h6,h8,h4,h7,h9,h10⟩
 obtain⟨n1,n2,n3,n4,n5,n6,m1,m2,m3,m4⟩:=ne
 have sn:∀x t,t∈ [i,n,c,i2]->∀p∈sl x,p.1≠t:=fun x t ht p hp e=>hd2 x p hp (e ▸ht)
 let st:Nat×X->Sg:=fun x=>tg ((i, .v (.int .i64 x.1))::(n, .v (.int .i64 len))::sl x.2) (jq ks σ)
 let sh:Nat×X->ab:=fun x=>gd (hp x.2) (ko hk H)
 have back:∀ (k:Nat) (y:X) (σ':Sg) (H':ab),σ' i= .v (.int .i64 k)->σ' n= .v (.int .i64 len)->Tk σ H ks hk (sl y) (hp y) σ' H'->Wk σ' H' (st (k,y)) (sh (k,y)):=by
  intro k y σ' H' e1 e2 ⟨b1,b2,b3,b4⟩
  exact BS (sl:=(i, .v (.int .i64 k))::(n, .v (.int .i64 len))::sl y) ⟨by rw[e1];exact Cr _,by rw[e2];exact Cr _,b1⟩ b2 b3 b4
 unfold wm
 rw[No,Nn]
 refine⟨⟨Nat×X,fun x=>x.1<=len/\P x.1 x.2,st,sh,fun x=>len -x.1⟩,⟨(0,x0),⟨qtl _,h0⟩,back 0 x0 σ H hi hn ⟨hs,fun _ _=>rfl,hh,fun _ _=>rfl⟩⟩,?_⟩
 rintro⟨k,x⟩ ⟨hkl,hP⟩
 have si:st (k,x) i= .v (.int .i64 k):=by simp[st,tg,upd]
 have sN:st (k,x) n= .v (.int .i64 len):=by
  have:¬n=i:=fun e=>n1 e.symm
  simp[st,tg,upd,this]
 let inv:qgD:=⟨Nat×X,fun x=>x.1<=len/\P x.1 x.2,st,sh,fun x=>len -x.1⟩
 change vc S _ (VS inv (k,x) (WL id K)) (st (k,x)) (sh (k,x))
 rw[PN,qdT,qfu,qjQ]
 simp only[Xo,si,sN,qgd,true_and,Z1,qge]
 rw[qdQ,I3,PN,qju]
 have sc:ev (eZ (st (k,x)) (some c) (.v (.bool (decide ((k:Int) < len))))) (.tmp c)= .v (.bool (decide ((k:Int) < len))):=by simp[upd]
 rw[sc,qfZ]
 refine⟨fun hlt=>?_,fun hge=>?_⟩
 ·have hlt':k < len:=by simpa using hlt
  rw[qfV,I3,PN,No,ZE]
  refine⟨st (k,x),sh (k,x),qds (fun t=>?_) (fun _ _ h=> .inl h),?_⟩
  ·rw[Q0,qhU]
   split
   ·rename_i e
    subst e
    have e1:st (k,x) t= .any:=by
     have hsl:∀ (l:List (Nat×D)),(∀p∈l,p.1≠t)->tg l (jq ks σ) t= .any:=by
      intro l
      induction l with
      | nil=>intro _;rw[SZ,IG,if_neg m3]
      | cons p l ih=>
        obtain⟨s,d⟩:=p
        intro h
        have:¬t=s:=fun e=>h (s,d) (by simp) e.symm
        simp only[tg,upd,this,if_false]
        exact ih fun p hp=>h p (by simp[hp])
     have h1:¬t=i:=fun e=>n2 e.symm
     have h2:¬t=n:=fun e=>n4 e.symm
     simp only[st,tg,upd,h1,h2,if_false]
     exact hsl _ (sn x t (by simp))
    rw[e1]
    exact trivial
   ·exact Cr _
  ·refine vJ body _ _ (fun e σ' H' h=>?_) (hr k x hlt' hP)
   have fin:∀σ' H',(σ' i= .v (.int .i64 k)/\σ' n= .v (.int .i64 len)/\∃y,P (k+1) y/\Tk σ H ks hk (sl y) (hp y) σ' H')->
    Rl S (.reg [.op (some i2) none (.arith .add (.tmp i) (.const (.int .i64 1))), .op (some i) none (.mv (.tmp i2))]) (VS inv (k,x) (WL id K)) .norm σ' H':=by
    intro σ' H' ⟨e1,e2,y,hy,hb⟩
    rw[I3,qdT,qfu,qc3]
    simp only[Xo,qbs,qhR,e1,qak,qck,true_and,WO,InR]
    refine⟨by omega,?_⟩
    rw[qfu,qpW]
    dsimp only
    rw[qdQ]
    simp only[Xo,Q0]
    rw[qfY]
    refine⟨(k+1,y),⟨by show k+1<=len;omega,hy⟩,back (k+1) y _ _ ?_ ?_ ?_,by show len - (k+1) < len -k;omega⟩
    ·simp[upd]
    ·have h1:¬n=i:=fun e=>n1 e.symm
     simp[upd,h1,n5,e2]
    ·exact⟨Bw (sn y i (by simp)) (Bw (sn y i2 (by simp)) hb.1),K9 m1 (K9 m4 hb.2.1),hb.2.2.1,hb.2.2.2⟩
   cases e with
   | norm=>rw[qf1];exact fin σ' H' h
   | ret=>
     rw[ZF,qfW,qfX,ZF]
     exact h
   | ex j=>
     rw[SH]
     have h:if j=id2 then σ' i= .v (.int .i64 k)/\σ' n= .v (.int .i64 len)/\∃y,P (k+1) y/\Tk σ H ks hk (sl y) (hp y) σ' H' else if j=id then K .norm σ' H' else K (.ex j) σ' H':=h
     split
     ·rename_i e;rw[if_pos e]at h;exact fin σ' H' h
     ·rename_i e;rw[if_neg e]at h
      rw[ZC,ZD,SH]
      exact h
 ·have hge':k=len:=by
   have:¬ ((k:Int) < len):=by simpa using hge
   have:k<=len:=hkl
   omega
  subst hge'
  rw[qf0,ZC,ZD,SH,if_pos rfl]
  have:decide ((k:Int) < k)=false:=by simp
  rw[this]
  exact he x hP
end
end Go.Gv
