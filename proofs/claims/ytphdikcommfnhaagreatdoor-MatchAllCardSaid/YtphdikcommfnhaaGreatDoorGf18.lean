/- A part of the framework and of the walks: T11 T12. -/
import Derived.Test.YtphdikcommfnhaaGreatDoorGf17
set_option linter.unusedSimpArgs false
set_option linter.unusedVariables false
set_option linter.unusedSectionVars false

namespace Go.Gv
open Cod (enc dec)
@[simp] theorem qmU(H:ab)(x y:Value):FrzTo H (.v x) (.v y)=(x=y):=by
 refine propext ⟨fun h=>?_,fun h=>h ▸ .same _⟩
 cases h;rfl
@[simp] theorem qpP(H:ab)(d:D):FrzTo H d d=True:=propext ⟨fun _=>trivial,fun _=> .same d⟩
@[simp] theorem qs3(H:ab)(n:Nat)(es:List D):FrzTo H (.v (.slice none 0 0)) (.list n es)=(es=[]):=by
 refine propext ⟨fun h=>?_,fun h=>h ▸ .nil n⟩
 cases h;rfl
theorem qfM{H:ab}{a b a' b':D}(h1:FrzTo H a a')(h2:FrzTo H b b'):FrzTo H (.tup [a,b]) (.tup [a',b']):=
 .tup rfl fun k c c' hc hc'=>by
  match k with
  | 0=>simp at hc hc';subst hc;subst hc';exact h1
  | 1=>simp at hc hc';subst hc;subst hc';exact h2
  | k+2=>simp at hc
theorem qfL{H:ab}{a b c a' b' c':D}(h1:FrzTo H a a')(h2:FrzTo H b b')(h3:FrzTo H c c'):FrzTo H (.tup [a,b,c]) (.tup [a',b',c']):=
 .tup rfl fun k d d' hc hc'=>by
  match k with
  | 0=>simp at hc hc';subst hc;subst hc';exact h1
  | 1=>simp at hc hc';subst hc;subst hc';exact h2
  | 2=>simp at hc hc';subst hc;subst hc';exact h3
  | k+3=>simp at hc
section
variable {P:Program}{S:Nat->Spc}{f:Nat}{im:List Nat}{cc:CC}{rs:List aj}{N:Nat}
end
end Go.Gv

namespace Go.Gv
open Cod (enc dec)
structure de (X:Type) where
 dec:List D->Option X
 view:X->List D
 le:∀ds x,dec ds=some x->LeL ds (view x)
def aJ{X Y:Type}(A:de X)(pre:X->Prop)(er:Y->D)(post:X->Y->Prop):Spc:=qa5 A.dec pre fun x r=>∃y,r=er y/\post x y
def dS{X:Type}(o:Option X)(k:X->Prop):Prop:=match o with|some x=>k x|none=>False
@[congr] theorem qo4{X:Type}{o o':Option X}{k:X->Prop}(h:o=o'):dS o k=dS o' k:=by subst h;rfl
@[simp] theorem qr9{X:Type}(x:X)(k:X->Prop):dS (some x) k=k x:=id rfl
@[simp] theorem sE{X Y:Type}(A:de X)(pre:X->Prop)(er:Y->D)(post:X->Y->Prop)(d:Nat)(ds:List D)(H:ab)(K:D->ab->Prop):
 (aJ A pre er post).pt d ds H K=dS (A.dec ds) fun x=>pre x/\∀y,post x y->K (er y) H:=by
 refine propext ⟨fun h=>?_,fun h=>?_⟩
 ·obtain⟨⟨x,h1,h2⟩,h3⟩:=h
  rw[h1]
  refine⟨h2,fun y hy=>h3 _ fun x' hx' _=>?_⟩
  rw[h1]at hx'
  cases hx'
  exact⟨y,rfl,hy⟩
 ·cases hd:A.dec ds with
  | none=>rw[hd]at h;exact h.elim
  | some x=>
    rw[hd]at h
    refine ZL x hd h.1 ?_
    rintro r ⟨y,rfl,hy⟩
    exact h.2 y hy
@[simp] theorem qoA{X Y:Type}(A:de X)(pre:X->Prop)(er:Y->D)(post:X->Y->Prop)(dst:Option Nat)(ds:List D)(H:ab)(K:D->ab->Prop):
 X5 dst (aJ A pre er post) ds H K=dS (A.dec ds) fun x=>pre x/\∀y,post x y->K (er y) H:=sE A pre er post 0 ds H K
def Fin{Y:Type}(er:Y->D)(q:Y->Prop)(r:D)(H':ab):Prop:=∃y,FrzTo H' r (er y)/\q y
theorem cm{Y:Type}{er:Y->D}{q:Y->Prop}{r:D}{H':ab}(y:Y)(h:FrzTo H' r (er y))(hq:q y):Fin er q r H':=⟨y,h,hq⟩
@[simp] theorem qpV(q:Int->Prop)(n:Int)(H':ab):Fin enc q (.v (.int .i64 n)) H'=q n:=by
 simp[Fin,qf4]
@[simp] theorem qmZ(q:Bool->Prop)(n:Bool)(H':ab):Fin enc q (.v (.bool n)) H'=q n:=by
 refine propext ⟨fun⟨y,h1,h2⟩=>?_,fun h=>⟨n, .same _,h⟩⟩
 rw[qcv,qmU]at h1
 cases h1
 exact h2
@[simp] theorem qpU(q:ByteArray->Prop)(n:ByteArray)(H':ab):Fin enc q (.v (.string n)) H'=q n:=by
 refine propext ⟨fun⟨y,h1,h2⟩=>?_,fun h=>⟨n, .same _,h⟩⟩
 rw[qf3,qmU]at h1
 cases h1
 exact h2
def aq{X Y:Type}(cc:CC)(rs:List aj)(S:Nat->Spc)(A:de X)(pre:X->Prop)(er:Y->D)(post:X->Y->Prop):Prop:=
 ∀x,pre x->vc S cc (tc rs fun r H'=>Fin er (post x) r H') (dm (A.view x)) bJ
theorem ae{P:Program}{S:Nat->Spc}{f:Nat}{im:List Nat}{cc:CC}{rs:List aj}{N:Nat}{X Y:Type}{A:de X}{pre:X->Prop}{er:Y->D}{post:X->Y->Prop}
 (hS:∀f,Tri P f (S f).pt) (h:ak P f im cc rs N) (hN:∀x,(A.view x).length<=N) (hw:aq cc rs S A pre er post):Tri P f (aJ A pre er post).pt:=
 ZR hS h A.le hN fun x hp=>by
  refine wJ cc _ _ (fun e σ H h=>?_) (hw x hp)
  cases e with
  | ex i=>exact h
  | _=>
    simp only[tc]at h ⊢
    have key:∀ (rs:List aj) (F G:List D->Prop),(∀ds,F ds->G ds)->yN rs σ H F->yN rs σ H G:=by
     intro rs
     induction rs with
     | nil=>exact fun F G hFG h=>hFG _ h
     | cons r rs ih=>
       intro F G hFG h
       cases r with
       | tmp t=>exact ih _ _ (fun ds h=>hFG _ h) h
       | cell t agg sz=>exact GH (fun d h=>ih _ _ (fun ds h=>hFG _ h) h) h
    exact key rs _ _ (fun ds ⟨y,h1,h2⟩=>⟨_,h1,y,rfl,h2⟩) h
theorem iv {P : Program} {f : Nat} {fn : Func} {c : Code} (h : P.funcs[f]? = some fn) (hn : (fn.name == "runtime.NumGoroutine") = false) (hb : fn.body = some c) : eI P f := by
 intro args w
 have hn' : ¬ fn.name = "runtime.NumGoroutine" := by simpa using hn
 unfold callFunc
 simp[h,hn',hb]
theorem qmX{P:Program}{f:Nat}{im:List Nat}{cc:CC}{rs:List aj}{N:Nat}(vj:P.follows .mixedOrders=true)
 (h : ((P.funcs[f]?).bind fun g => if g.name == "runtime.NumGoroutine" then none else g.body.bind fun c => (aB P im g.ntmps c).bind fun cc => (g.results.toList.mapM (fG P)).bind fun rs => some (g.ntmps, cc, rs)) = some (N, bi cc, rs)) : ak P f im cc rs N := by
 cases hf:P.funcs[f]? with
 | none=>rw[hf]at h;cases h
 | some fn=>
   rw[hf]at h
   simp only[qw7]at h
   split at h
   ·cases h
   ·rename_i hn
    simp only[qwN,qw2,qzd]at h
    obtain⟨c,hb,q,hq,r,hr,rfl,rfl,rfl⟩:=h
    exact⟨vj,iv hf (by simpa using hn) hb,fn,c,hf,hb,rfl,hq,hr⟩
def a0:de Unit:=⟨qjQ,fun _=>[],qwn⟩
def a1(X:Type)[Cod X]:de X:=⟨qjP,fun x=>[enc x],qwm⟩
def a2(X Y:Type)[Cod X][Cod Y]:de (X×Y):=⟨qjO,fun x=>[enc x.1,enc x.2],qwl⟩
def a3(X Y Z:Type)[Cod X][Cod Y][Cod Z]:de (X×Y×Z):=⟨qjN,fun x=>[enc x.1,enc x.2.1,enc x.2.2],qwk⟩
def a4(X Y Z W:Type)[Cod X][Cod Y][Cod Z][Cod W]:de (X×Y×Z×W):=⟨qjM,fun x=>[enc x.1,enc x.2.1,enc x.2.2.1,enc x.2.2.2],qwj⟩
def aT{X:Type}(A:de X):de (List Int×X):=⟨fun ds=>match ds with| .tape L::r=>(A.dec r).map fun x=>(L,x)|_=>none,fun x=> .tape x.1::A.view x.2,fun ds x h=>by
 split at h
 ·simp only[qw0]at h
  obtain⟨y,hy,rfl⟩:=h
  exact .cons (.same _) (A.le _ _ hy)
 ·cases h⟩
@[simp] theorem quA:a0.dec []=some ():=id rfl
@[simp] theorem quz{X:Type}[Cod X](a:D):(a1 X).dec [a]=dec a:=id rfl
@[simp] theorem qj9{X Y:Type}[Cod X][Cod Y](a b:D):(a2 X Y).dec [a,b]=(dec a).bind fun x=>(dec b).bind fun y=>some (x,y):=id rfl
@[simp] theorem quy{X Y Z:Type}[Cod X][Cod Y][Cod Z](a b c:D):(a3 X Y Z).dec [a,b,c]=(dec a).bind fun x=>(dec b).bind fun y=>(dec c).bind fun z=>some (x,y,z):=id rfl
@[simp] theorem qux{X Y Z W:Type}[Cod X][Cod Y][Cod Z][Cod W](a b c d:D):(a4 X Y Z W).dec [a,b,c,d]=(dec a).bind fun x=>(dec b).bind fun y=>(dec c).bind fun z=>(dec d).bind fun w=>some (x,y,z,w):=id rfl
@[simp] theorem quv{X:Type}(A:de X)(L:List Int)(r:List D):(aT A).dec (.tape L::r)=(A.dec r).map fun x=>(L,x):=id rfl
@[simp] theorem qrh(x:Unit):a0.view x=[]:=id rfl
@[simp] theorem qrg{X:Type}[Cod X](x:X):(a1 X).view x=[enc x]:=id rfl
@[simp] theorem qrf{X Y:Type}[Cod X][Cod Y](x:X)(y:Y):(a2 X Y).view (x,y)=[enc x,enc y]:=id rfl
@[simp] theorem qre{X Y Z:Type}[Cod X][Cod Y][Cod Z](x:X)(y:Y)(z:Z):(a3 X Y Z).view (x,y,z)=[enc x,enc y,enc z]:=id rfl
@[simp] theorem qrd{X Y Z W:Type}[Cod X][Cod Y][Cod Z][Cod W](x:X)(y:Y)(z:Z)(w:W):(a4 X Y Z W).view (x,y,z,w)=[enc x,enc y,enc z,enc w]:=id rfl
@[simp] theorem qq8{X:Type}(A:de X)(L:List Int)(x:X):(aT A).view (L,x)= .tape L::A.view x:=id rfl
attribute [simp] Cod.dec_enc
@[simp] theorem qtD(n:Int):dec (X:=Int) (.v (.int .i64 n))=some n:=id rfl
@[simp] theorem qqv(n:Bool):dec (X:=Bool) (.v (.bool n))=some n:=id rfl
@[simp] theorem qtB(n:ByteArray):dec (X:=ByteArray) (.v (.string n))=some n:=id rfl
@[simp] theorem qtC{X:Type}[Cod X]:dec (X:=List X) (.v (.slice none 0 0))=some []:=id rfl
@[simp] theorem qqu{X:Type}[Cod X](n:Nat)(es:List D):dec (X:=List X) (.list n es)=if n=Cod.wd X then es.mapM (dec (X:=X))else none:=id rfl
attribute [simp] Ej
@[simp] theorem qkQ{X:Type}[Cod X](l:List X):l.mapM (dec (X:=X) ∘enc)=some l:=by
 have:=Ej l
 rwa [List.mapM_map]at this
def ww{Y Z:Type}[Cod Y][Cod Z](p:Y×Z):D:= .tup [enc p.1,enc p.2]
def qhj{Y Z W:Type}[Cod Y][Cod Z][Cod W](p:Y×Z×W):D:= .tup [enc p.1,enc p.2.1,enc p.2.2]
def Wt(_:Unit):D:= .tup []
@[simp] theorem qna{Y Z:Type}[Cod Y][Cod Z](y:Y)(z:Z):ww (y,z)= .tup [enc y,enc z]:=id rfl
@[simp] theorem qvC{Y Z W:Type}[Cod Y][Cod Z][Cod W](y:Y)(z:Z)(w:W):qhj (y,z,w)= .tup [enc y,enc z,enc w]:=id rfl
@[simp] theorem qpX{Y Z:Type}[Cod Y][Cod Z](q:Y×Z->Prop)(a b:D)(H':ab):Fin ww q (.tup [a,b]) H'=∃y z,FrzTo H' a (enc y)/\FrzTo H' b (enc z)/\q (y,z):=by
 refine propext ⟨fun⟨⟨y,z⟩,h1,h2⟩=>?_,fun⟨y,z,h1,h2,h3⟩=>⟨(y,z),qfM h1 h2,h3⟩⟩
 cases h1 with
 | same=>exact⟨y,z, .same _, .same _,h2⟩
 | tup hl h=>exact⟨y,z,h 0 _ _ rfl rfl,h 1 _ _ rfl rfl,h2⟩
@[simp] theorem qpW{Y Z W:Type}[Cod Y][Cod Z][Cod W](q:Y×Z×W->Prop)(a b c:D)(H':ab):Fin qhj q (.tup [a,b,c]) H'=∃y z w,FrzTo H' a (enc y)/\FrzTo H' b (enc z)/\FrzTo H' c (enc w)/\q (y,z,w):=by
 refine propext ⟨fun⟨⟨y,z,w⟩,h1,h2⟩=>?_,fun⟨y,z,w,h1,h2,h3,h4⟩=>⟨(y,z,w),qfL h1 h2 h3,h4⟩⟩
 cases h1 with
 | same=>exact⟨y,z,w, .same _, .same _, .same _,h2⟩
 | tup hl h=>exact⟨y,z,w,h 0 _ _ rfl rfl,h 1 _ _ rfl rfl,h 2 _ _ rfl rfl,h2⟩
@[simp] theorem qvD(u:Unit):Wt u= .tup []:=id rfl
def tY:List (Nat×D)->Sg->Sg
 | [],σ=>σ
 | (t,d)::l,σ=>upd (tY l σ) t d
def gj:List (Nat×Res)->ab->ab
 | [],H=>H
 | (i,r)::l,H=>ah (gj l H) i (some r)
theorem UZ(σ:Sg):tY [] σ=σ:=id rfl
@[simp] theorem qj7(H:ab):gj [] H=H:=id rfl
@[simp] theorem qut(i:Nat)(r:Res)(l:List (Nat×Res))(H:ab):gj ((i,r)::l) H=ah (gj l H) i (some r):=id rfl
def wG(ks:List Nat)(σ σ':Sg):Prop:=∀t∈ks,σ' t=σ t
def AV(hk:List Nat)(H H':ab):Prop:=∀i∈hk,H' i=H i
@[simp] theorem qsL(σ σ':Sg):wG [] σ σ'=True:=by simp[wG]
@[simp] theorem qsM(t:Nat)(ks:List Nat)(σ σ':Sg):wG (t::ks) σ σ'=(σ' t=σ t/\wG ks σ σ'):=by simp[wG]
@[simp] theorem qpA(σ σ':ab):AV [] σ σ'=True:=by simp[AV]
@[simp] theorem qpB(t:Nat)(ks:List Nat)(σ σ':ab):AV (t::ks) σ σ'=(σ' t=σ t/\AV ks σ σ'):=by simp[AV]
theorem J1(ks:List Nat)(σ:Sg)(t:Nat):jv ks σ t=if t∈ks then σ t else .any:=by
 induction ks with
 | nil=>simp[qmF]
 | cons s ks ih=>
   rw[qjg]
   simp only[upd,qwT]
   by_cases h:t=s
   ·simp[h]
   ·simp[h,ih]
theorem J2(ks:List Nat)(σ:ab)(t:Nat):ku ks σ t=if t∈ks then σ t else none:=by
 induction ks with
 | nil=>simp
 | cons s ks ih=>
   rw[qfv]
   simp only[ah,qwT]
   by_cases h:t=s
   ·simp[h]
   ·simp[h,ih]
theorem qgK{σ σ':Sg}{H H':ab}(h1:∀t,PI (σ t) (σ' t))(h2:∀i r,H' i=some r->H i=some r\/isNilRow r):Wk σ H σ' H':=by
 intro E a w hst
 obtain⟨hd,hN,tp,hw,hr⟩:=hst
 have hm:=hw.sub h2
 exact⟨hd,hN,tp,hm.1,fun t=>qhr (h1 t) (hm.2 _ _ (hr t))⟩
theorem DI(d:D):PI d d:=by simp
theorem C8{σ0 σ:Sg}{H0 H:ab}{ks hk:List Nat}{sl:List (Nat×D)}{hp:List (Nat×Res)}(h1:ub sl σ)(h2:wG ks σ0 σ)(h3:yt hp H)(h4:AV hk H0 H):
 Wk σ H (tY sl (jv ks σ0)) (gj hp (ku hk H0)):=by
 refine qgK (fun t=>?_) (fun i r=>?_)
 ·induction sl with
  | nil=>
    rw[UZ,J1]
    split
    ·rename_i h;rw[<-h2 t h];exact DI _
    ·exact trivial
  | cons p sl ih=>
    obtain⟨s,d⟩:=p
    simp only[tY,upd]
    split
    ·rename_i e;subst e;exact h1.1
    ·exact ih h1.2
 ·induction hp with
  | nil=>
    rw[qj7,J2]
    split
    ·rename_i h;rw[<-h4 i h];exact .inl
    ·intro h;cases h
  | cons p hp ih=>
    obtain⟨s,d⟩:=p
    simp only[gj,ah]
    split
    ·rename_i e;subst e;intro h;cases h;exact h3.1
    ·exact ih h3.2
def Vb(σ0:Sg)(H0:ab)(ks hk:List Nat)(sl:List (Nat×D))(hp:List (Nat×Res))(σ:Sg)(H:ab):Prop:=ub sl σ/\wG ks σ0 σ/\yt hp H/\AV hk H0 H
@[simp] theorem qqY(σ0:Sg)(H0:ab)(ks hk:List Nat)(sl:List (Nat×D))(hp:List (Nat×Res))(σ:Sg)(H:ab):Vb σ0 H0 ks hk sl hp σ H=(ub sl σ/\wG ks σ0 σ/\yt hp H/\AV hk H0 H):=id rfl
def Zz{X:Type}(P:X->Prop)(B:X->Sg->ab->Prop)(m:X->Nat)(x:X)(K:Ex->Sg->ab->Prop):Ex->Sg->ab->Prop:=fun e σ' H'=>match e with
 | .norm=>∃y,P y/\B y σ' H'/\m y < m x
 | e=>K e σ' H'
@[simp ↓] theorem qrq{X:Type}(P:X->Prop)(B:X->Sg->ab->Prop)(m:X->Nat)(x:X)(K:Ex->Sg->ab->Prop)(σ':Sg)(H':ab):Zz P B m x K .norm σ' H'=∃y,P y/\B y σ' H'/\m y < m x:=id rfl
@[simp ↓] theorem qro{X:Type}(P:X->Prop)(B:X->Sg->ab->Prop)(m:X->Nat)(x:X)(K:Ex->Sg->ab->Prop)(i:Nat)(σ':Sg)(H':ab):Zz P B m x K (.ex i) σ' H'=K (.ex i) σ' H':=id rfl
@[simp ↓] theorem qrp{X:Type}(P:X->Prop)(B:X->Sg->ab->Prop)(m:X->Nat)(x:X)(K:Ex->Sg->ab->Prop)(σ':Sg)(H':ab):Zz P B m x K .ret σ' H'=K .ret σ' H':=id rfl
section
variable {S:Nat->Spc}{K:Ex->Sg->ab->Prop}{σ:Sg}{H:ab}
theorem av{X:Type}(ks hk:List Nat)(P:X->Prop)(sl:X->List (Nat×D))(hp:X->List (Nat×Res))(m:X->Nat)(x0:X){k:Nat}{b:CC}(h0:P x0)(hs:ub (sl x0) σ)(hh:yt (hp x0) H)
 (hr:∀x,P x->vc S b (Zz P (fun y=>Vb σ H ks hk (sl y) (hp y)) m x K) (tY (sl x) (jv ks σ)) (gj (hp x) (ku hk H))):vc S (.loop k b) K σ H:=by
 rw[O6]
 refine⟨⟨X,P,fun x=>tY (sl x) (jv ks σ),fun x=>gj (hp x) (ku hk H),m⟩,⟨x0,h0,C8 hs (fun _ _=>rfl) hh (fun _ _=>rfl)⟩,fun x hx=>wJ b _ _ (fun e σ' H' h=>?_) (hr x hx)⟩
 cases e with
 | norm=>
   obtain⟨y,h1,h2,h3⟩:=h
   exact⟨y,h1,C8 h2.1 h2.2.1 h2.2.2.1 h2.2.2.2,h3⟩
 | ex i=>exact h
 | ret=>exact h
def Yv(Q:Sg->ab->Prop)(K:Ex->Sg->ab->Prop):Ex->Sg->ab->Prop:=fun e σ' H'=>match e with
 | .norm=>Q σ' H'
 | e=>K e σ' H'
@[simp ↓] theorem qsy(Q:Sg->ab->Prop)(σ':Sg)(H':ab):Yv Q K .norm σ' H'=Q σ' H':=id rfl
@[simp ↓] theorem qsw(Q:Sg->ab->Prop)(i:Nat)(σ':Sg)(H':ab):Yv Q K (.ex i) σ' H'=K (.ex i) σ' H':=id rfl
@[simp ↓] theorem qsx(Q:Sg->ab->Prop)(σ':Sg)(H':ab):Yv Q K .ret σ' H'=K .ret σ' H':=id rfl
def XT(k:Nat)(a b:CC):CC:= .seq a (.cut k b)
theorem aS{X:Type}(ks hk:List Nat)(P:X->Prop)(sl:X->List (Nat×D))(hp:X->List (Nat×Res)){k:Nat}{a b:CC}
 (ha:vc S a (Yv (fun σ' H'=>∃x,P x/\Vb σ H ks hk (sl x) (hp x) σ' H') K) σ H)
 (hb:∀x,P x->vc S b K (tY (sl x) (jv ks σ)) (gj (hp x) (ku hk H))):vc S (XT k a b) K σ H:=by
 unfold XT
 rw[RZ]
 refine wJ a _ _ (fun e σ' H' h=>?_) ha
 cases e with
 | norm=>
   obtain⟨x,h1,h2⟩:=h
   rw[Kr,qcA]
   exact⟨_,_,C8 h2.1 h2.2.1 h2.2.2.1 h2.2.2.2,hb x h1⟩
 | ex i=>exact h
 | ret=>exact h
def xh(id i n c id2:Nat)(body:CC)(i2:Nat):CC:=
 .block id (.loop 0 (.seq (.reg [.op (some c) none (.cmp .lss (.tmp i) (.tmp n))]) (.seq (.ite (.tmp c) .skip (.exit id)) (.seq (.block id2 (.cut 0 body)) (.reg [.op (some i2) none (.arith .add (.tmp i) (.const (.int .i64 1))), .op (some i) none (.mv (.tmp i2))])))))
def qeQ{X:Type}(id id2 i n:Nat)(len:Nat)(B:X->Sg->ab->Prop)(P:X->Prop)(k:Nat)(K:Ex->Sg->ab->Prop):Ex->Sg->ab->Prop:=fun e σ' H'=>match e with
 | .norm=>σ' i= .v (.int .i64 k)/\σ' n= .v (.int .i64 len)/\∃y,P y/\B y σ' H'
 | .ex j=>if j=id2 then σ' i= .v (.int .i64 k)/\σ' n= .v (.int .i64 len)/\∃y,P y/\B y σ' H' else if j=id then K .norm σ' H' else K (.ex j) σ' H'
 | .ret=>K .ret σ' H'
@[simp ↓] theorem qrT{X:Type}(id id2 i n:Nat)(len:Nat)(B:X->Sg->ab->Prop)(P:X->Prop)(k:Nat)(σ':Sg)(H':ab):qeQ id id2 i n len B P k K .norm σ' H'=(σ' i= .v (.int .i64 k)/\σ' n= .v (.int .i64 len)/\∃y,P y/\B y σ' H'):=_root_.id rfl
@[simp ↓] theorem qrR{X:Type}(id id2 i n:Nat)(len:Nat)(B:X->Sg->ab->Prop)(P:X->Prop)(k j:Nat)(σ':Sg)(H':ab):qeQ id id2 i n len B P k K (.ex j) σ' H'=(if j=id2 then σ' i= .v (.int .i64 k)/\σ' n= .v (.int .i64 len)/\∃y,P y/\B y σ' H' else if j=id then K .norm σ' H' else K (.ex j) σ' H'):=_root_.id rfl
@[simp ↓] theorem qrS{X:Type}(id id2 i n:Nat)(len:Nat)(B:X->Sg->ab->Prop)(P:X->Prop)(k:Nat)(σ':Sg)(H':ab):qeQ id id2 i n len B P k K .ret σ' H'=K .ret σ' H':=_root_.id rfl
theorem CE{t:Nat}{d:D} :∀ {sl:List (Nat×D)} {σ:Sg},(∀p∈sl,p.1≠t)->ub sl σ->ub sl (upd σ t d)
 | [],_,_,_=>trivial
 | (s,e)::sl,σ,h,hm=>by
  refine⟨?_,CE (fun p hp=>h p (by simp[hp])) hm.2⟩
  have:s≠t:=h (s,e) (by simp)
  simp only[upd,this,if_false]
  exact hm.1
theorem MT{t:Nat}{d:D}{ks:List Nat}{σ0 σ:Sg}(h:t∉ks)(hk:wG ks σ0 σ):wG ks σ0 (upd σ t d):=fun s hs=>by
 have:s≠t:=fun e=>h (e ▸hs)
 simp only[upd,this,if_false]
 exact hk s hs
theorem ai{X:Type}(ks hk:List Nat)(len:Nat)(P:Nat->X->Prop)(sl:X->List (Nat×D))(hp:X->List (Nat×Res))(x0:X){id i n c id2 i2:Nat}{body:CC}
 (hi:σ i= .v (.int .i64 0)) (hn:σ n= .v (.int .i64 len)) (hlen:(len:Int)<=9223372036854775807) (hd:([i,n,c,i2] ++ks).Nodup) (hd2:∀x,∀p∈sl x,p.1∉ [i,n,c,i2])
 (h0:P 0 x0) (hs:ub (sl x0) σ) (hh:yt (hp x0) H)
 (hr:∀k x,k < len->P k x->vc S body (qeQ id id2 i n len (fun y=>Vb σ H ks hk (sl y) (hp y)) (P (k+1)) k K) (tY ((i, .v (.int .i64 k))::(n, .v (.int .i64 len))::sl x) (jv ks σ)) (gj (hp x) (ku hk H)))
 (he:∀x,P len x->K .norm (upd (tY ((i, .v (.int .i64 len))::(n, .v (.int .i64 len))::sl x) (jv ks σ)) c (.v (.bool false))) (gj (hp x) (ku hk H))):vc S (xh id i n c id2 body i2) K σ H:=by
 have ne:i≠n/\i≠c/\i≠i2/\n≠c/\n≠i2/\c≠i2/\i∉ks/\n∉ks/\c∉ks/\i2∉ks:=by
  simp only[qxA,qxG,qyF,qwT,not_or]at hd
  obtain⟨⟨h1,h2,h3,h4⟩,⟨h5,h6,h7⟩,⟨h8,h9⟩,h10,_⟩:=hd
  exact⟨h1,h2,h3,h5,h6,h8,h4,h7,h9,h10⟩
 obtain⟨n1,n2,n3,n4,n5,n6,m1,m2,m3,m4⟩:=ne
 have sn:∀x t,t∈ [i,n,c,i2]->∀p∈sl x,p.1≠t:=fun x t ht p hp e=>hd2 x p hp (e ▸ht)
 let st:Nat×X->Sg:=fun x=>tY ((i, .v (.int .i64 x.1))::(n, .v (.int .i64 len))::sl x.2) (jv ks σ)
 let sh:Nat×X->ab:=fun x=>gj (hp x.2) (ku hk H)
 have back:∀ (k:Nat) (y:X) (σ':Sg) (H':ab),σ' i= .v (.int .i64 k)->σ' n= .v (.int .i64 len)->Vb σ H ks hk (sl y) (hp y) σ' H'->Wk σ' H' (st (k,y)) (sh (k,y)):=by
  intro k y σ' H' e1 e2 ⟨b1,b2,b3,b4⟩
  exact C8 (sl:=(i, .v (.int .i64 k))::(n, .v (.int .i64 len))::sl y) ⟨by rw[e1];exact DI _,by rw[e2];exact DI _,b1⟩ b2 b3 b4
 unfold xh
 rw[O7,O6]
 refine⟨⟨Nat×X,fun x=>x.1<=len/\P x.1 x.2,st,sh,fun x=>len -x.1⟩,⟨(0,x0),⟨qxi _,h0⟩,back 0 x0 σ H hi hn ⟨hs,fun _ _=>rfl,hh,fun _ _=>rfl⟩⟩,?_⟩
 rintro⟨k,x⟩ ⟨hkl,hP⟩
 have si:st (k,x) i= .v (.int .i64 k):=by simp[st,tY,upd]
 have sN:st (k,x) n= .v (.int .i64 len):=by
  have:¬n=i:=fun e=>n1 e.symm
  simp[st,tY,upd,this]
 let inv:qkl:=⟨Nat×X,fun x=>x.1<=len/\P x.1 x.2,st,sh,fun x=>len -x.1⟩
 change vc S _ (Yy inv (k,x) (Zg id K)) (st (k,x)) (sh (k,x))
 rw[RZ,qhk,qi8,qnD]
 simp only[ZK,si,sN,qjV,true_and,qcW,qjW]
 rw[qhg,Kr,RZ,qng]
 have sc:ev (fb (st (k,x)) (some c) (.v (.bool (decide ((k:Int) < len))))) (.tmp c)= .v (.bool (decide ((k:Int) < len))):=by simp[upd]
 rw[sc,qjF]
 refine⟨fun hlt=>?_,fun hge=>?_⟩
 ·have hlt':k < len:=by simpa using hlt
  rw[qjB,Kr,RZ,O7,qcA]
  refine⟨st (k,x),sh (k,x),qgK (fun t=>?_) (fun _ _ h=> .inl h),?_⟩
  ·rw[Tq,qlH]
   split
   ·rename_i e
    subst e
    have e1:st (k,x) t= .any:=by
     have hsl:∀ (l:List (Nat×D)),(∀p∈l,p.1≠t)->tY l (jv ks σ) t= .any:=by
      intro l
      induction l with
      | nil=>intro _;rw[UZ,J1,if_neg m3]
      | cons p l ih=>
        obtain⟨s,d⟩:=p
        intro h
        have:¬t=s:=fun e=>h (s,d) (by simp) e.symm
        simp only[tY,upd,this,if_false]
        exact ih fun p hp=>h p (by simp[hp])
     have h1:¬t=i:=fun e=>n2 e.symm
     have h2:¬t=n:=fun e=>n4 e.symm
     simp only[st,tY,upd,h1,h2,if_false]
     exact hsl _ (sn x t (by simp))
    rw[e1]
    exact trivial
   ·exact DI _
  ·refine wJ body _ _ (fun e σ' H' h=>?_) (hr k x hlt' hP)
   have fin:∀σ' H',(σ' i= .v (.int .i64 k)/\σ' n= .v (.int .i64 len)/\∃y,P (k+1) y/\Vb σ H ks hk (sl y) (hp y) σ' H')->
    TL S (.reg [.op (some i2) none (.arith .add (.tmp i) (.const (.int .i64 1))), .op (some i) none (.mv (.tmp i2))]) (Yy inv (k,x) (Zg id K)) .norm σ' H':=by
    intro σ' H' ⟨e1,e2,y,hy,hb⟩
    rw[Kr,qhk,qi8,qgh]
    simp only[ZK,qex,qlE,e1,qdh,qfy,true_and,Zj,InR]
    refine⟨by omega,?_⟩
    rw[qi8,qtR]
    dsimp only
    rw[qhg]
    simp only[ZK,Tq]
    rw[qjE]
    refine⟨(k+1,y),⟨by show k+1<=len;omega,hy⟩,back (k+1) y _ _ ?_ ?_ ?_,by show len - (k+1) < len -k;omega⟩
    ·simp[upd]
    ·have h1:¬n=i:=fun e=>n1 e.symm
     simp[upd,h1,n5,e2]
    ·exact⟨CE (sn y i (by simp)) (CE (sn y i2 (by simp)) hb.1),MT m1 (MT m4 hb.2.1),hb.2.2.1,hb.2.2.2⟩
   cases e with
   | norm=>rw[qjH];exact fin σ' H' h
   | ret=>
     rw[qcB,qjC,qjD,qcB]
     exact h
   | ex j=>
     rw[UJ]
     have h:if j=id2 then σ' i= .v (.int .i64 k)/\σ' n= .v (.int .i64 len)/\∃y,P (k+1) y/\Vb σ H ks hk (sl y) (hp y) σ' H' else if j=id then K .norm σ' H' else K (.ex j) σ' H':=h
     split
     ·rename_i e;rw[if_pos e]at h;exact fin σ' H' h
     ·rename_i e;rw[if_neg e]at h
      rw[qcy,qcz,UJ]
      exact h
 ·have hge':k=len:=by
   have:¬ ((k:Int) < len):=by simpa using hge
   have:k<=len:=hkl
   omega
  subst hge'
  rw[qjG,qcy,qcz,UJ,if_pos rfl]
  have:decide ((k:Int) < k)=false:=by simp
  rw[this]
  exact he x hP
end
end Go.Gv
