/- A part of the framework and of the walks: T11 T12. -/
import Derived.Test.YtphdikcommfnhaaGreatDoorGg17
set_option linter.unusedSimpArgs false
set_option linter.unusedVariables false
set_option linter.unusedSectionVars false

namespace Go.Gv
open Cod (enc dec)
@[simp] theorem qjV(H:ab)(x y:Value):FrzTo H (.v x) (.v y)=(x=y):=by
 refine propext ⟨fun h=>?_,fun h=>h ▸ .same _⟩
 cases h;rfl
@[simp] theorem qmL(H:ab)(d:D):FrzTo H d d=True:=propext ⟨fun _=>trivial,fun _=> .same d⟩
@[simp] theorem qpZ(H:ab)(n:Nat)(es:List D):FrzTo H (.v (.slice none 0 0)) (.list n es)=(es=[]):=by
 refine propext ⟨fun h=>?_,fun h=>h ▸ .nil n⟩
 cases h;rfl
theorem qc7{H:ab}{a b a' b':D}(h1:FrzTo H a a')(h2:FrzTo H b b'):FrzTo H (.tup [a,b]) (.tup [a',b']):=
 .tup rfl fun k c c' hc hc'=>by
  match k with
  | 0=>simp at hc hc';subst hc;subst hc';exact h1
  | 1=>simp at hc hc';subst hc;subst hc';exact h2
  | k+2=>simp at hc
theorem qc6{H:ab}{a b c a' b' c':D}(h1:FrzTo H a a')(h2:FrzTo H b b')(h3:FrzTo H c c'):FrzTo H (.tup [a,b,c]) (.tup [a',b',c']):=
 .tup rfl fun k d d' hc hc'=>by
  match k with
  | 0=>simp at hc hc';subst hc;subst hc';exact h1
  | 1=>simp at hc hc';subst hc;subst hc';exact h2
  | 2=>simp at hc hc';subst hc;subst hc';exact h3
  | k+3=>simp at hc
section
variable {P:Program}{S:Nat->Spc}{f:Nat}{im:List Nat}{cc:CC}{rs:List aj}{N:Nat}
end
end Go.Gv

namespace Go.Gv
open Cod (enc dec)
structure cM (X:Type) where
 dec:List D->Option X
 view:X->List D
 le:∀ds x,dec ds=some x->LeL ds (view x)
def aS{X Y:Type}(A:cM X)(pre:X->Prop)(er:Y->D)(post:X->Y->Prop):Spc:=YB A.dec pre fun x r=>∃y,r=er y/\post x y
def dx{X:Type}(o:Option X)(k:X->Prop):Prop:=match o with|some x=>k x|none=>False
@[congr] theorem ql0{X:Type}{o o':Option X}{k:X->Prop}(h:o=o'):dx o k=dx o' k:=by subst h;rfl
@[simp] theorem qo5{X:Type}(x:X)(k:X->Prop):dx (some x) k=k x:=id rfl
@[simp] theorem ra{X Y:Type}(A:cM X)(pre:X->Prop)(er:Y->D)(post:X->Y->Prop)(d:Nat)(ds:List D)(H:ab)(K:D->ab->Prop):
 (aS A pre er post).pt d ds H K=dx (A.dec ds) fun x=>pre x/\∀y,post x y->K (er y) H:=by
 refine propext ⟨fun h=>?_,fun h=>?_⟩
 ·obtain⟨⟨x,h1,h2⟩,h3⟩:=h
  rw[h1]
  refine⟨h2,fun y hy=>h3 _ fun x' hx' _=>?_⟩
  rw[h1]at hx'
  cases hx'
  exact⟨y,rfl,hy⟩
 ·cases hd:A.dec ds with
  | none=>rw[hd]at h;exact h.elim
  | some x=>
    rw[hd]at h
    refine Xm x hd h.1 ?_
    rintro r ⟨y,rfl,hy⟩
    exact h.2 y hy
@[simp] theorem qlw{X Y:Type}(A:cM X)(pre:X->Prop)(er:Y->D)(post:X->Y->Prop)(dst:Option Nat)(ds:List D)(H:ab)(K:D->ab->Prop):
 Vj dst (aS A pre er post) ds H K=dx (A.dec ds) fun x=>pre x/\∀y,post x y->K (er y) H:=ra A pre er post 0 ds H K
def Fin{Y:Type}(er:Y->D)(q:Y->Prop)(r:D)(H':ab):Prop:=∃y,FrzTo H' r (er y)/\q y
theorem cB{Y:Type}{er:Y->D}{q:Y->Prop}{r:D}{H':ab}(y:Y)(h:FrzTo H' r (er y))(hq:q y):Fin er q r H':=⟨y,h,hq⟩
@[simp] theorem qmR(q:Int->Prop)(n:Int)(H':ab):Fin enc q (.v (.int .i64 n)) H'=q n:=by
 simp[Fin,qdo]
@[simp] theorem qj1(q:Bool->Prop)(n:Bool)(H':ab):Fin enc q (.v (.bool n)) H'=q n:=by
 refine propext ⟨fun⟨y,h1,h2⟩=>?_,fun h=>⟨n, .same _,h⟩⟩
 rw[ZX,qjV]at h1
 cases h1
 exact h2
@[simp] theorem qmQ(q:ByteArray->Prop)(n:ByteArray)(H':ab):Fin enc q (.v (.string n)) H'=q n:=by
 refine propext ⟨fun⟨y,h1,h2⟩=>?_,fun h=>⟨n, .same _,h⟩⟩
 rw[qdn,qjV]at h1
 cases h1
 exact h2
def aq{X Y:Type}(cc:CC)(rs:List aj)(S:Nat->Spc)(A:cM X)(pre:X->Prop)(er:Y->D)(post:X->Y->Prop):Prop:=
 ∀x,pre x->vc S cc (rG rs fun r H'=>Fin er (post x) r H') (cR (A.view x)) bB
theorem ae{P:Program}{S:Nat->Spc}{f:Nat}{im:List Nat}{cc:CC}{rs:List aj}{N:Nat}{X Y:Type}{A:cM X}{pre:X->Prop}{er:Y->D}{post:X->Y->Prop}
 (hS:∀f,Tri P f (S f).pt) (h:am P f im cc rs N) (hN:∀x,(A.view x).length<=N) (hw:aq cc rs S A pre er post):Tri P f (aS A pre er post).pt:=
 Xr hS h A.le hN fun x hp=>by
  refine vp cc _ _ (fun e σ H h=>?_) (hw x hp)
  cases e with
  | ex i=>exact h
  | _=>
    simp only[rG]at h ⊢
    have key:∀ (rs:List aj) (F G:List D->Prop),(∀ds,F ds->G ds)->xq rs σ H F->xq rs σ H G:=by
     intro rs
     induction rs with
     | nil=>exact fun F G hFG h=>hFG _ h
     | cons r rs ih=>
       intro F G hFG h
       cases r with
       | tmp t=>exact ih _ _ (fun ds h=>hFG _ h) h
       | cell t agg sz=>exact E5 (fun d h=>ih _ _ (fun ds h=>hFG _ h) h) h
    exact key rs _ _ (fun ds ⟨y,h1,h2⟩=>⟨_,h1,y,rfl,h2⟩) h
theorem gD {P : Program} {f : Nat} {fn : Func} {c : Code} (h : P.funcs[f]? = some fn) (hn : (fn.name == "runtime.NumGoroutine") = false) (hb : fn.body = some c) : ee P f := by
 intro args w
 have hn' : ¬ fn.name = "runtime.NumGoroutine" := by simpa using hn
 unfold callFunc
 simp[h,hn',hb]
theorem qjZ{P:Program}{f:Nat}{im:List Nat}{cc:CC}{rs:List aj}{N:Nat}(tS:P.follows .mixedOrders=true)
 (h : ((P.funcs[f]?).bind fun g => if g.name == "runtime.NumGoroutine" then none else g.body.bind fun c => (aA P im g.ntmps c).bind fun cc => (g.results.toList.mapM (fg P)).bind fun rs => some (g.ntmps, cc, rs)) = some (N, be cc, rs)) : am P f im cc rs N := by
 cases hf:P.funcs[f]? with
 | none=>rw[hf]at h;cases h
 | some fn=>
   rw[hf]at h
   simp only[qtY]at h
   split at h
   ·cases h
   ·rename_i hn
    simp only[qtE,qtT,qv4]at h
    obtain⟨c,hb,q,hq,r,hr,rfl,rfl,rfl⟩:=h
    exact⟨tS,gD hf (by simpa using hn) hb,fn,c,hf,hb,rfl,hq,hr⟩
def a0:cM Unit:=⟨qgV,fun _=>[],qtd⟩
def a1(X:Type)[Cod X]:cM X:=⟨qgU,fun x=>[enc x],qtc⟩
def a2(X Y:Type)[Cod X][Cod Y]:cM (X×Y):=⟨qgT,fun x=>[enc x.1,enc x.2],qtb⟩
def a3(X Y Z:Type)[Cod X][Cod Y][Cod Z]:cM (X×Y×Z):=⟨qgS,fun x=>[enc x.1,enc x.2.1,enc x.2.2],qta⟩
def a4(X Y Z W:Type)[Cod X][Cod Y][Cod Z][Cod W]:cM (X×Y×Z×W):=⟨qgR,fun x=>[enc x.1,enc x.2.1,enc x.2.2.1,enc x.2.2.2],qs9⟩
def aT{X:Type}(A:cM X):cM (List Int×X):=⟨fun ds=>match ds with| .tape L::r=>(A.dec r).map fun x=>(L,x)|_=>none,fun x=> .tape x.1::A.view x.2,fun ds x h=>by
 split at h
 ·simp only[qtR]at h
  obtain⟨y,hy,rfl⟩:=h
  exact .cons (.same _) (A.le _ _ hy)
 ·cases h⟩
@[simp] theorem qrr:a0.dec []=some ():=id rfl
@[simp] theorem qrq{X:Type}[Cod X](a:D):(a1 X).dec [a]=dec a:=id rfl
@[simp] theorem qhb{X Y:Type}[Cod X][Cod Y](a b:D):(a2 X Y).dec [a,b]=(dec a).bind fun x=>(dec b).bind fun y=>some (x,y):=id rfl
@[simp] theorem qrp{X Y Z:Type}[Cod X][Cod Y][Cod Z](a b c:D):(a3 X Y Z).dec [a,b,c]=(dec a).bind fun x=>(dec b).bind fun y=>(dec c).bind fun z=>some (x,y,z):=id rfl
@[simp] theorem qro{X Y Z W:Type}[Cod X][Cod Y][Cod Z][Cod W](a b c d:D):(a4 X Y Z W).dec [a,b,c,d]=(dec a).bind fun x=>(dec b).bind fun y=>(dec c).bind fun z=>(dec d).bind fun w=>some (x,y,z,w):=id rfl
@[simp] theorem qrm{X:Type}(A:cM X)(L:List Int)(r:List D):(aT A).dec (.tape L::r)=(A.dec r).map fun x=>(L,x):=id rfl
@[simp] theorem qoc(x:Unit):a0.view x=[]:=id rfl
@[simp] theorem qob{X:Type}[Cod X](x:X):(a1 X).view x=[enc x]:=id rfl
@[simp] theorem qoa{X Y:Type}[Cod X][Cod Y](x:X)(y:Y):(a2 X Y).view (x,y)=[enc x,enc y]:=id rfl
@[simp] theorem qn9{X Y Z:Type}[Cod X][Cod Y][Cod Z](x:X)(y:Y)(z:Z):(a3 X Y Z).view (x,y,z)=[enc x,enc y,enc z]:=id rfl
@[simp] theorem qn8{X Y Z W:Type}[Cod X][Cod Y][Cod Z][Cod W](x:X)(y:Y)(z:Z)(w:W):(a4 X Y Z W).view (x,y,z,w)=[enc x,enc y,enc z,enc w]:=id rfl
@[simp] theorem qn3{X:Type}(A:cM X)(L:List Int)(x:X):(aT A).view (L,x)= .tape L::A.view x:=id rfl
attribute [simp] Cod.dec_enc
@[simp] theorem qqx(n:Int):dec (X:=Int) (.v (.int .i64 n))=some n:=id rfl
@[simp] theorem qnr(n:Bool):dec (X:=Bool) (.v (.bool n))=some n:=id rfl
@[simp] theorem qqv(n:ByteArray):dec (X:=ByteArray) (.v (.string n))=some n:=id rfl
@[simp] theorem qqw{X:Type}[Cod X]:dec (X:=List X) (.v (.slice none 0 0))=some []:=id rfl
@[simp] theorem qnq{X:Type}[Cod X](n:Nat)(es:List D):dec (X:=List X) (.list n es)=if n=Cod.wd X then es.mapM (dec (X:=X))else none:=id rfl
attribute [simp] CZ
@[simp] theorem qhO{X:Type}[Cod X](l:List X):l.mapM (dec (X:=X) ∘enc)=some l:=by
 have:=CZ l
 rwa [List.mapM_map]at this
def xb{Y Z:Type}[Cod Y][Cod Z](p:Y×Z):D:= .tup [enc p.1,enc p.2]
def qex{Y Z W:Type}[Cod Y][Cod Z][Cod W](p:Y×Z×W):D:= .tup [enc p.1,enc p.2.1,enc p.2.2]
def TN(_:Unit):D:= .tup []
@[simp] theorem qkc{Y Z:Type}[Cod Y][Cod Z](y:Y)(z:Z):xb (y,z)= .tup [enc y,enc z]:=id rfl
@[simp] theorem qss{Y Z W:Type}[Cod Y][Cod Z][Cod W](y:Y)(z:Z)(w:W):qex (y,z,w)= .tup [enc y,enc z,enc w]:=id rfl
@[simp] theorem qmT{Y Z:Type}[Cod Y][Cod Z](q:Y×Z->Prop)(a b:D)(H':ab):Fin xb q (.tup [a,b]) H'=∃y z,FrzTo H' a (enc y)/\FrzTo H' b (enc z)/\q (y,z):=by
 refine propext ⟨fun⟨⟨y,z⟩,h1,h2⟩=>?_,fun⟨y,z,h1,h2,h3⟩=>⟨(y,z),qc7 h1 h2,h3⟩⟩
 cases h1 with
 | same=>exact⟨y,z, .same _, .same _,h2⟩
 | tup hl h=>exact⟨y,z,h 0 _ _ rfl rfl,h 1 _ _ rfl rfl,h2⟩
@[simp] theorem qmS{Y Z W:Type}[Cod Y][Cod Z][Cod W](q:Y×Z×W->Prop)(a b c:D)(H':ab):Fin qex q (.tup [a,b,c]) H'=∃y z w,FrzTo H' a (enc y)/\FrzTo H' b (enc z)/\FrzTo H' c (enc w)/\q (y,z,w):=by
 refine propext ⟨fun⟨⟨y,z,w⟩,h1,h2⟩=>?_,fun⟨y,z,w,h1,h2,h3,h4⟩=>⟨(y,z,w),qc6 h1 h2 h3,h4⟩⟩
 cases h1 with
 | same=>exact⟨y,z,w, .same _, .same _, .same _,h2⟩
 | tup hl h=>exact⟨y,z,w,h 0 _ _ rfl rfl,h 1 _ _ rfl rfl,h 2 _ _ rfl rfl,h2⟩
@[simp] theorem qst(u:Unit):TN u= .tup []:=id rfl
def sF:List (Nat×D)->Sg->Sg
 | [],σ=>σ
 | (t,d)::l,σ=>upd (sF l σ) t d
def fE:List (Nat×Res)->ab->ab
 | [],H=>H
 | (i,r)::l,H=>ah (fE l H) i (some r)
theorem Sq(σ:Sg):sF [] σ=σ:=id rfl
@[simp] theorem qg9(H:ab):fE [] H=H:=id rfl
@[simp] theorem qrk(i:Nat)(r:Res)(l:List (Nat×Res))(H:ab):fE ((i,r)::l) H=ah (fE l H) i (some r):=id rfl
def vm(ks:List Nat)(σ σ':Sg):Prop:=∀t∈ks,σ' t=σ t
def zC(hk:List Nat)(H H':ab):Prop:=∀i∈hk,H' i=H i
@[simp] theorem qpH(σ σ':Sg):vm [] σ σ'=True:=by simp[vm]
@[simp] theorem qpI(t:Nat)(ks:List Nat)(σ σ':Sg):vm (t::ks) σ σ'=(σ' t=σ t/\vm ks σ σ'):=by simp[vm]
@[simp] theorem qmw(σ σ':ab):zC [] σ σ'=True:=by simp[zC]
@[simp] theorem qmx(t:Nat)(ks:List Nat)(σ σ':ab):zC (t::ks) σ σ'=(σ' t=σ t/\zC ks σ σ'):=by simp[zC]
theorem H9(ks:List Nat)(σ:Sg)(t:Nat):iJ ks σ t=if t∈ks then σ t else .any:=by
 induction ks with
 | nil=>simp[qjE]
 | cons s ks ih=>
   rw[qgn]
   simp only[upd,qtM]
   by_cases h:t=s
   ·simp[h]
   ·simp[h,ih]
theorem Ia(ks:List Nat)(σ:ab)(t:Nat):jy ks σ t=if t∈ks then σ t else none:=by
 induction ks with
 | nil=>simp
 | cons s ks ih=>
   rw[qcP]
   simp only[ah,qtM]
   by_cases h:t=s
   ·simp[h]
   ·simp[h,ih]
theorem qd3{σ σ':Sg}{H H':ab}(h1:∀t,Qs (σ t) (σ' t))(h2:∀i r,H' i=some r->H i=some r\/isNilRow r):Wk σ H σ' H':=by
 intro E a w hst
 obtain⟨hd,hN,tp,hw,hr⟩:=hst
 have hm:=hw.sub h2
 exact⟨hd,hN,tp,hm.1,fun t=>qeH (h1 t) (hm.2 _ _ (hr t))⟩
theorem Ck(d:D):Qs d d:=by simp
theorem BK{σ0 σ:Sg}{H0 H:ab}{ks hk:List Nat}{sl:List (Nat×D)}{hp:List (Nat×Res)}(h1:sI sl σ)(h2:vm ks σ0 σ)(h3:wU hp H)(h4:zC hk H0 H):
 Wk σ H (sF sl (iJ ks σ0)) (fE hp (jy hk H0)):=by
 refine qd3 (fun t=>?_) (fun i r=>?_)
 ·induction sl with
  | nil=>
    rw[Sq,H9]
    split
    ·rename_i h;rw[<-h2 t h];exact Ck _
    ·exact trivial
  | cons p sl ih=>
    obtain⟨s,d⟩:=p
    simp only[sF,upd]
    split
    ·rename_i e;subst e;exact h1.1
    ·exact ih h1.2
 ·induction hp with
  | nil=>
    rw[qg9,Ia]
    split
    ·rename_i h;rw[<-h4 i h];exact .inl
    ·intro h;cases h
  | cons p hp ih=>
    obtain⟨s,d⟩:=p
    simp only[fE,ah]
    split
    ·rename_i e;subst e;intro h;cases h;exact h3.1
    ·exact ih h3.2
def SB(σ0:Sg)(H0:ab)(ks hk:List Nat)(sl:List (Nat×D))(hp:List (Nat×Res))(σ:Sg)(H:ab):Prop:=sI sl σ/\vm ks σ0 σ/\wU hp H/\zC hk H0 H
@[simp] theorem qnT(σ0:Sg)(H0:ab)(ks hk:List Nat)(sl:List (Nat×D))(hp:List (Nat×Res))(σ:Sg)(H:ab):SB σ0 H0 ks hk sl hp σ H=(sI sl σ/\vm ks σ0 σ/\wU hp H/\zC hk H0 H):=id rfl
def Xb{X:Type}(P:X->Prop)(B:X->Sg->ab->Prop)(m:X->Nat)(x:X)(K:Ex->Sg->ab->Prop):Ex->Sg->ab->Prop:=fun e σ' H'=>match e with
 | .norm=>∃y,P y/\B y σ' H'/\m y < m x
 | e=>K e σ' H'
@[simp ↓] theorem qol{X:Type}(P:X->Prop)(B:X->Sg->ab->Prop)(m:X->Nat)(x:X)(K:Ex->Sg->ab->Prop)(σ':Sg)(H':ab):Xb P B m x K .norm σ' H'=∃y,P y/\B y σ' H'/\m y < m x:=id rfl
@[simp ↓] theorem qoj{X:Type}(P:X->Prop)(B:X->Sg->ab->Prop)(m:X->Nat)(x:X)(K:Ex->Sg->ab->Prop)(i:Nat)(σ':Sg)(H':ab):Xb P B m x K (.ex i) σ' H'=K (.ex i) σ' H':=id rfl
@[simp ↓] theorem qok{X:Type}(P:X->Prop)(B:X->Sg->ab->Prop)(m:X->Nat)(x:X)(K:Ex->Sg->ab->Prop)(σ':Sg)(H':ab):Xb P B m x K .ret σ' H'=K .ret σ' H':=id rfl
section
variable {S:Nat->Spc}{K:Ex->Sg->ab->Prop}{σ:Sg}{H:ab}
theorem ar{X:Type}(ks hk:List Nat)(P:X->Prop)(sl:X->List (Nat×D))(hp:X->List (Nat×Res))(m:X->Nat)(x0:X){k:Nat}{b:CC}(h0:P x0)(hs:sI (sl x0) σ)(hh:wU (hp x0) H)
 (hr:∀x,P x->vc S b (Xb P (fun y=>SB σ H ks hk (sl y) (hp y)) m x K) (sF (sl x) (iJ ks σ)) (fE (hp x) (jy hk H))):vc S (.loop k b) K σ H:=by
 rw[M2]
 refine⟨⟨X,P,fun x=>sF (sl x) (iJ ks σ),fun x=>fE (hp x) (jy hk H),m⟩,⟨x0,h0,BK hs (fun _ _=>rfl) hh (fun _ _=>rfl)⟩,fun x hx=>vp b _ _ (fun e σ' H' h=>?_) (hr x hx)⟩
 cases e with
 | norm=>
   obtain⟨y,h1,h2,h3⟩:=h
   exact⟨y,h1,BK h2.1 h2.2.1 h2.2.2.1 h2.2.2.2,h3⟩
 | ex i=>exact h
 | ret=>exact h
def VH(Q:Sg->ab->Prop)(K:Ex->Sg->ab->Prop):Ex->Sg->ab->Prop:=fun e σ' H'=>match e with
 | .norm=>Q σ' H'
 | e=>K e σ' H'
@[simp ↓] theorem qpu(Q:Sg->ab->Prop)(σ':Sg)(H':ab):VH Q K .norm σ' H'=Q σ' H':=id rfl
@[simp ↓] theorem qps(Q:Sg->ab->Prop)(i:Nat)(σ':Sg)(H':ab):VH Q K (.ex i) σ' H'=K (.ex i) σ' H':=id rfl
@[simp ↓] theorem qpt(Q:Sg->ab->Prop)(σ':Sg)(H':ab):VH Q K .ret σ' H'=K .ret σ' H':=id rfl
def U7(k:Nat)(a b:CC):CC:= .seq a (.cut k b)
theorem ba{X:Type}(ks hk:List Nat)(P:X->Prop)(sl:X->List (Nat×D))(hp:X->List (Nat×Res)){k:Nat}{a b:CC}
 (ha:vc S a (VH (fun σ' H'=>∃x,P x/\SB σ H ks hk (sl x) (hp x) σ' H') K) σ H)
 (hb:∀x,P x->vc S b K (sF (sl x) (iJ ks σ)) (fE (hp x) (jy hk H))):vc S (U7 k a b) K σ H:=by
 unfold U7
 rw[PE]
 refine vp a _ _ (fun e σ' H' h=>?_) ha
 cases e with
 | norm=>
   obtain⟨x,h1,h2⟩:=h
   rw[Iv,Z2]
   exact⟨_,_,BK h2.1 h2.2.1 h2.2.2.1 h2.2.2.2,hb x h1⟩
 | ex i=>exact h
 | ret=>exact h
def vM(id i n c id2:Nat)(body:CC)(i2:Nat):CC:=
 .block id (.loop 0 (.seq (.reg [.op (some c) none (.cmp .lss (.tmp i) (.tmp n))]) (.seq (.ite (.tmp c) .skip (.exit id)) (.seq (.block id2 (.cut 0 body)) (.reg [.op (some i2) none (.arith .add (.tmp i) (.const (.int .i64 1))), .op (some i) none (.mv (.tmp i2))])))))
def qcf{X:Type}(id id2 i n:Nat)(len:Nat)(B:X->Sg->ab->Prop)(P:X->Prop)(k:Nat)(K:Ex->Sg->ab->Prop):Ex->Sg->ab->Prop:=fun e σ' H'=>match e with
 | .norm=>σ' i= .v (.int .i64 k)/\σ' n= .v (.int .i64 len)/\∃y,P y/\B y σ' H'
 | .ex j=>if j=id2 then σ' i= .v (.int .i64 k)/\σ' n= .v (.int .i64 len)/\∃y,P y/\B y σ' H' else if j=id then K .norm σ' H' else K (.ex j) σ' H'
 | .ret=>K .ret σ' H'
@[simp ↓] theorem qoO{X:Type}(id id2 i n:Nat)(len:Nat)(B:X->Sg->ab->Prop)(P:X->Prop)(k:Nat)(σ':Sg)(H':ab):qcf id id2 i n len B P k K .norm σ' H'=(σ' i= .v (.int .i64 k)/\σ' n= .v (.int .i64 len)/\∃y,P y/\B y σ' H'):=_root_.id rfl
@[simp ↓] theorem qoM{X:Type}(id id2 i n:Nat)(len:Nat)(B:X->Sg->ab->Prop)(P:X->Prop)(k j:Nat)(σ':Sg)(H':ab):qcf id id2 i n len B P k K (.ex j) σ' H'=(if j=id2 then σ' i= .v (.int .i64 k)/\σ' n= .v (.int .i64 len)/\∃y,P y/\B y σ' H' else if j=id then K .norm σ' H' else K (.ex j) σ' H'):=_root_.id rfl
@[simp ↓] theorem qoN{X:Type}(id id2 i n:Nat)(len:Nat)(B:X->Sg->ab->Prop)(P:X->Prop)(k:Nat)(σ':Sg)(H':ab):qcf id id2 i n len B P k K .ret σ' H'=K .ret σ' H':=_root_.id rfl
theorem Bj{t:Nat}{d:D} :∀ {sl:List (Nat×D)} {σ:Sg},(∀p∈sl,p.1≠t)->sI sl σ->sI sl (upd σ t d)
 | [],_,_,_=>trivial
 | (s,e)::sl,σ,h,hm=>by
  refine⟨?_,Bj (fun p hp=>h p (by simp[hp])) hm.2⟩
  have:s≠t:=h (s,e) (by simp)
  simp only[upd,this,if_false]
  exact hm.1
theorem KT{t:Nat}{d:D}{ks:List Nat}{σ0 σ:Sg}(h:t∉ks)(hk:vm ks σ0 σ):vm ks σ0 (upd σ t d):=fun s hs=>by
 have:s≠t:=fun e=>h (e ▸hs)
 simp only[upd,this,if_false]
 exact hk s hs
theorem ai{X:Type}(ks hk:List Nat)(len:Nat)(P:Nat->X->Prop)(sl:X->List (Nat×D))(hp:X->List (Nat×Res))(x0:X){id i n c id2 i2:Nat}{body:CC}
 (hi:σ i= .v (.int .i64 0)) (hn:σ n= .v (.int .i64 len)) (hlen:(len:Int)<=9223372036854775807) (hd:([i,n,c,i2] ++ks).Nodup) (hd2:∀x,∀p∈sl x,p.1∉ [i,n,c,i2])
 (h0:P 0 x0) (hs:sI (sl x0) σ) (hh:wU (hp x0) H)
 (hr:∀k x,k < len->P k x->vc S body (qcf id id2 i n len (fun y=>SB σ H ks hk (sl y) (hp y)) (P (k+1)) k K) (sF ((i, .v (.int .i64 k))::(n, .v (.int .i64 len))::sl x) (iJ ks σ)) (fE (hp x) (jy hk H)))
 (he:∀x,P len x->K .norm (upd (sF ((i, .v (.int .i64 len))::(n, .v (.int .i64 len))::sl x) (iJ ks σ)) c (.v (.bool false))) (fE (hp x) (jy hk H))):vc S (vM id i n c id2 body i2) K σ H:=by
 have ne:i≠n/\i≠c/\i≠i2/\n≠c/\n≠i2/\c≠i2/\i∉ks/\n∉ks/\c∉ks/\i2∉ks:=by
  simp only[quv,quD,qvx,qtM,not_or]at hd
  obtain⟨⟨h1,h2,h3,h4⟩,⟨h5,h6,h7⟩,⟨h8,h9⟩,h10,_⟩:=hd
  exact⟨h1,h2,h3,h5,h6,h8,h4,h7,h9,h10⟩
 obtain⟨n1,n2,n3,n4,n5,n6,m1,m2,m3,m4⟩:=ne
 have sn:∀x t,t∈ [i,n,c,i2]->∀p∈sl x,p.1≠t:=fun x t ht p hp e=>hd2 x p hp (e ▸ht)
 let st:Nat×X->Sg:=fun x=>sF ((i, .v (.int .i64 x.1))::(n, .v (.int .i64 len))::sl x.2) (iJ ks σ)
 let sh:Nat×X->ab:=fun x=>fE (hp x.2) (jy hk H)
 have back:∀ (k:Nat) (y:X) (σ':Sg) (H':ab),σ' i= .v (.int .i64 k)->σ' n= .v (.int .i64 len)->SB σ H ks hk (sl y) (hp y) σ' H'->Wk σ' H' (st (k,y)) (sh (k,y)):=by
  intro k y σ' H' e1 e2 ⟨b1,b2,b3,b4⟩
  exact BK (sl:=(i, .v (.int .i64 k))::(n, .v (.int .i64 len))::sl y) ⟨by rw[e1];exact Ck _,by rw[e2];exact Ck _,b1⟩ b2 b3 b4
 unfold vM
 rw[M3,M2]
 refine⟨⟨Nat×X,fun x=>x.1<=len/\P x.1 x.2,st,sh,fun x=>len -x.1⟩,⟨(0,x0),⟨qub _,h0⟩,back 0 x0 σ H hi hn ⟨hs,fun _ _=>rfl,hh,fun _ _=>rfl⟩⟩,?_⟩
 rintro⟨k,x⟩ ⟨hkl,hP⟩
 have si:st (k,x) i= .v (.int .i64 k):=by simp[st,sF,upd]
 have sN:st (k,x) n= .v (.int .i64 len):=by
  have:¬n=i:=fun e=>n1 e.symm
  simp[st,sF,upd,this]
 let inv:qhm:=⟨Nat×X,fun x=>x.1<=len/\P x.1 x.2,st,sh,fun x=>len -x.1⟩
 change vc S _ (VM inv (k,x) (WH id K)) (st (k,x)) (sh (k,x))
 rw[PE,qey,qgf,qkD]
 simp only[Xl,si,sN,qgY,true_and,qap,qgZ]
 rw[qev,Iv,PE,qkh]
 have sc:ev (eH (st (k,x)) (some c) (.v (.bool (decide ((k:Int) < len))))) (.tmp c)= .v (.bool (decide ((k:Int) < len))):=by simp[upd]
 rw[sc,qgK]
 refine⟨fun hlt=>?_,fun hge=>?_⟩
 ·have hlt':k < len:=by simpa using hlt
  rw[qgG,Iv,PE,M3,Z2]
  refine⟨st (k,x),sh (k,x),qd3 (fun t=>?_) (fun _ _ h=> .inl h),?_⟩
  ·rw[QT,qiF]
   split
   ·rename_i e
    subst e
    have e1:st (k,x) t= .any:=by
     have hsl:∀ (l:List (Nat×D)),(∀p∈l,p.1≠t)->sF l (iJ ks σ) t= .any:=by
      intro l
      induction l with
      | nil=>intro _;rw[Sq,H9,if_neg m3]
      | cons p l ih=>
        obtain⟨s,d⟩:=p
        intro h
        have:¬t=s:=fun e=>h (s,d) (by simp) e.symm
        simp only[sF,upd,this,if_false]
        exact ih fun p hp=>h p (by simp[hp])
     have h1:¬t=i:=fun e=>n2 e.symm
     have h2:¬t=n:=fun e=>n4 e.symm
     simp only[st,sF,upd,h1,h2,if_false]
     exact hsl _ (sn x t (by simp))
    rw[e1]
    exact trivial
   ·exact Ck _
  ·refine vp body _ _ (fun e σ' H' h=>?_) (hr k x hlt' hP)
   have fin:∀σ' H',(σ' i= .v (.int .i64 k)/\σ' n= .v (.int .i64 len)/\∃y,P (k+1) y/\SB σ H ks hk (sl y) (hp y) σ' H')->
    Rd S (.reg [.op (some i2) none (.arith .add (.tmp i) (.const (.int .i64 1))), .op (some i) none (.mv (.tmp i2))]) (VM inv (k,x) (WH id K)) .norm σ' H':=by
    intro σ' H' ⟨e1,e2,y,hy,hb⟩
    rw[Iv,qey,qgf,qdB]
    simp only[Xl,qbU,qiC,e1,qaJ,qcS,true_and,WK,InR]
    refine⟨by omega,?_⟩
    rw[qgf,qqL]
    dsimp only
    rw[qev]
    simp only[Xl,QT]
    rw[qgJ]
    refine⟨(k+1,y),⟨by show k+1<=len;omega,hy⟩,back (k+1) y _ _ ?_ ?_ ?_,by show len - (k+1) < len -k;omega⟩
    ·simp[upd]
    ·have h1:¬n=i:=fun e=>n1 e.symm
     simp[upd,h1,n5,e2]
    ·exact⟨Bj (sn y i (by simp)) (Bj (sn y i2 (by simp)) hb.1),KT m1 (KT m4 hb.2.1),hb.2.2.1,hb.2.2.2⟩
   cases e with
   | norm=>rw[qgM];exact fin σ' H' h
   | ret=>
     rw[Z3,qgH,qgI,Z3]
     exact h
   | ex j=>
     rw[R8]
     have h:if j=id2 then σ' i= .v (.int .i64 k)/\σ' n= .v (.int .i64 len)/\∃y,P (k+1) y/\SB σ H ks hk (sl y) (hp y) σ' H' else if j=id then K .norm σ' H' else K (.ex j) σ' H':=h
     split
     ·rename_i e;rw[if_pos e]at h;exact fin σ' H' h
     ·rename_i e;rw[if_neg e]at h
      rw[Z0,Z1,R8]
      exact h
 ·have hge':k=len:=by
   have:¬ ((k:Int) < len):=by simpa using hge
   have:k<=len:=hkl
   omega
  subst hge'
  rw[qgL,Z0,Z1,R8,if_pos rfl]
  have:decide ((k:Int) < k)=false:=by simp
  rw[this]
  exact he x hP
end
end Go.Gv
