/- A part of the framework and of the walks: T11 T12. -/
import Derived.Test.YtfbleenmepoodaaGreatDoorGa17
set_option linter.unusedSimpArgs false
set_option linter.unusedVariables false
set_option linter.unusedSectionVars false
set_option linter.defProp false
namespace Go.Gv
open Cod (enc dec)
variable {dq:Prop}
@[simp] theorem qbh(H:aa)(x y:Value):FrzTo H (.v x) (.v y)=(x=y):=by
 refine propext ⟨λh=>?_,λh=>h ▸ .same _⟩;cases h;rfl
@[simp] theorem qdQ(H:aa)(d:D):FrzTo H d d=True:=propext ⟨λ_=>trivial,λ_=> .same d⟩
@[simp] theorem qgi(H:aa)(n:Nat)(es:List D):FrzTo H (.v (.slice none 0 0)) (.list n es)=(es=[]):=by
 refine propext ⟨λh=>?_,λh=>h ▸ .nil n⟩;cases h;rfl
def UN{H:aa}{a b a' b':D}(h1:FrzTo H a a')(h2:FrzTo H b b'):FrzTo H (.tup [a,b]) (.tup [a',b']):=
 .tup rfl λk c c' hc hc'=>by
  match k with
  | 0=>simp at hc hc';subst hc;subst hc';exact h1
  | 1=>simp at hc hc';subst hc;subst hc';exact h2
  | k+2=>simp at hc
def UM{H:aa}{a b c a' b' c':D}(h1:FrzTo H a a')(h2:FrzTo H b b')(h3:FrzTo H c c'):FrzTo H (.tup [a,b,c]) (.tup [a',b',c']):=
 .tup rfl λk d d' hc hc'=>by
  match k with
  | 0=>simp at hc hc';subst hc;subst hc';exact h1
  | 1=>simp at hc hc';subst hc;subst hc';exact h2
  | 2=>simp at hc hc';subst hc;subst hc';exact h3
  | k+3=>simp at hc
section
variable {P:Program}{S:Nat->Spc}{f:Nat}{im:List Nat}{cc:CC}{rs:List ai}{N:Nat}
end
structure fw (X:Type) where
 dec:List D->Option X
 view:X->List D
 le:∀ds x,dec ds=some x->LeL ds (view x)
def aZ{X Y:Type}(A:fw X)(pre:X->Prop)(er:Y->D)(post:X->Y->Prop):Spc:=QR A.dec pre λx r=>∃y,r=er y/\post x y
def ij{X:Type}(o:Option X)(k:X->Prop):Prop:=match o with|some x=>k x|none=>False
@[congr] theorem qdd{X:Type}{o o':Option X}{k:X->Prop}(h:o=o'):ij o k=ij o' k:=by subst h;rfl
@[simp] theorem qfF{X:Type}(x:X)(k:X->Prop):ij (some x) k=k x:=id rfl
@[simp] theorem kA{X Y:Type}(A:fw X)(pre:X->Prop)(er:Y->D)(post:X->Y->Prop)(d:Nat)(ds:List D)(H:aa)(K:D->aa->Prop):
 (aZ A pre er post).pt d ds H K=ij (A.dec ds) λx=>pre x/\∀y,post x y->K (er y) H:=by
 refine propext ⟨λh=>?_,λh=>?_⟩
 ·obtain⟨⟨x,h1,h2⟩,h3⟩:=h;rw[h1];refine⟨h2,λy hy=>h3 _ λx' hx' _=>?_⟩;rw[h1]at hx';cases hx';exact⟨y,rfl,hy⟩
 ·cases hd:A.dec ds with
  | none=>rw[hd]at h;exact h.elim
  | some x=>
    rw[hd]at h;refine PU x hd h.1 ?_;rintro r ⟨y,rfl,hy⟩;exact h.2 y hy
@[simp] theorem qcM{X Y:Type}(A:fw X)(pre:X->Prop)(er:Y->D)(post:X->Y->Prop)(dst:Option Nat)(ds:List D)(H:aa)(K:D->aa->Prop):
 LP dst (aZ A pre er post) ds H K=ij (A.dec ds) λx=>pre x/\∀y,post x y->K (er y) H:=kA A pre er post 0 ds H K
def Fin{Y:Type}(er:Y->D)(q:Y->Prop)(r:D)(H':aa):Prop:=∃y,FrzTo H' r (er y)/\q y
def dm{Y:Type}{er:Y->D}{q:Y->Prop}{r:D}{H':aa}(y:Y)(h:FrzTo H' r (er y))(hq:q y):Fin er q r H':=⟨y,h,hq⟩
@[simp] theorem qdS(q:Int->Prop)(n:Int)(H':aa):Fin enc q (.v (.int .i64 n)) H'=q n:=by
 simp[Fin,U7]
@[simp] theorem qbm(q:Bool->Prop)(n:Bool)(H':aa):Fin enc q (.v (.bool n)) H'=q n:=by
 refine propext ⟨λ⟨y,h1,h2⟩=>?_,λh=>⟨n, .same _,h⟩⟩;rw[R3,qbh]at h1;cases h1;exact h2
@[simp] theorem qdR(q:ByteArray->Prop)(n:ByteArray)(H':aa):Fin enc q (.v (.string n)) H'=q n:=by
 refine propext ⟨λ⟨y,h1,h2⟩=>?_,λh=>⟨n, .same _,h⟩⟩;rw[U6,qbh]at h1;cases h1;exact h2
def ax{X Y:Type}(cc:CC)(rs:List ai)(S:Nat->Spc)(A:fw X)(pre:X->Prop)(er:Y->D)(post:X->Y->Prop):Prop:=
 ∀x,pre x->vc S cc (ra rs λr H'=>Fin er (post x) r H') (cR (A.view x)) cv
theorem ac{P:Program}{S:Nat->Spc}{f:Nat}{im:List Nat}{cc:CC}{rs:List ai}{N:Nat}{X Y:Type}{A:fw X}{pre:X->Prop}{er:Y->D}{post:X->Y->Prop}
 (hS:∀f,Tri dq P f (S f).pt) (h:aq P f im cc rs N) (hN:∀x,(A.view x).length<=N) (hw:ax cc rs S A pre er post):Tri dq P f (aZ A pre er post).pt:=
 PW hS h A.le hN λx hp=>by
  refine qG cc _ _ (λe σ H h=>?_) (hw x hp);cases e with
  | ex i=>exact h
  | _=>
    simp only[ra]at h ⊢;have key:∀ (rs:List ai) (F G:List D->Prop),(∀ds,F ds->G ds)->rb rs σ H F->rb rs σ H G:=by
     intro rs
     induction rs with
     | nil=>exactλF G hFG h=>hFG _ h
     | cons r rs ih=>
       intro F G hFG h;cases r with
       | tmp t=>exact ih _ _ (λds h=>hFG _ h) h
       | cell t agg sz=>exact AM (λd h=>ih _ _ (λds h=>hFG _ h) h) h
    exact key rs _ _ (λds ⟨y,h1,h2⟩=>⟨_,h1,y,rfl,h2⟩) h
def kT {P : Program} {f : Nat} {fn : Func} {c : Code} (h : P.funcs[f]? = some fn) (hn : (fn.name == "runtime.NumGoroutine") = false) (hb : fn.body = some c) : fy P f := by
 intro args w
 have hn' : ¬ fn.name = "runtime.NumGoroutine" := by simpa using hn
 unfold callFunc;simp[h,hn',hb]
def Wc{P:Program}{f:Nat}{im:List Nat}{cc:CC}{rs:List ai}{N:Nat}(rp:P.follows .mixedOrders=true)
 (h : ((P.funcs[f]?).bind fun g => if g.name == "runtime.NumGoroutine" then none else g.body.bind fun c => (aw P im g.ntmps c).bind fun cc => (g.results.toList.mapM (ak P)).bind fun rs => some (g.ntmps, cc, rs)) = some (N, aY cc, rs)) : aq P f im cc rs N := by
 cases hf:P.funcs[f]? with
 | none=>rw[hf]at h;cases h
 | some fn=>
   rw[hf]at h;simp only[qjV]at h;split at h
   ·cases h
   ·rename_i hn;simp only[qjy,qjO,Prod.mk.injEq]at h;obtain⟨c,hb,q,hq,r,hr,rfl,rfl,rfl⟩:=h;exact⟨rp,kT hf (by simpa using hn) hb,fn,c,hf,hb,rfl,hq,hr⟩
def a0:fw Unit:=⟨Yb,λ_=>[],qi1⟩
def a1(X:Type)[Cod X]:fw X:=⟨Ya,λx=>[enc x],qi0⟩
def a2(X Y:Type)[Cod X][Cod Y]:fw (X×Y):=⟨X0,λx=>[enc x.1,enc x.2],qiZ⟩
def a3(X Y Z:Type)[Cod X][Cod Y][Cod Z]:fw (X×Y×Z):=⟨XZ,λx=>[enc x.1,enc x.2.1,enc x.2.2],qiY⟩
def a4(X Y Z W:Type)[Cod X][Cod Y][Cod Z][Cod W]:fw (X×Y×Z×W):=⟨XY,λx=>[enc x.1,enc x.2.1,enc x.2.2.1,enc x.2.2.2],qiX⟩
def aT{X:Type}(A:fw X):fw (List Int×X):=⟨λds=>match ds with| .tape L::r=>(A.dec r).map λx=>(L,x)|_=>none,λx=> .tape x.1::A.view x.2,λds x h=>by
 split at h
 ·simp only[qjH]at h;obtain⟨y,hy,rfl⟩:=h;exact .cons (.same _) (A.le _ _ hy)
 ·cases h⟩
@[simp] theorem qhv:a0.dec []=some ():=id rfl
@[simp] theorem Ys{X:Type}[Cod X](a:D):(a1 X).dec [a]=dec a:=id rfl
@[simp] theorem qhu{X Y:Type}[Cod X][Cod Y](a b:D):(a2 X Y).dec [a,b]=(dec a).bind λx=>(dec b).bind λy=>some (x,y):=id rfl
@[simp] theorem qht{X Y Z:Type}[Cod X][Cod Y][Cod Z](a b c:D):(a3 X Y Z).dec [a,b,c]=(dec a).bind λx=>(dec b).bind λy=>(dec c).bind λz=>some (x,y,z):=id rfl
@[simp] theorem qhr{X Y Z W:Type}[Cod X][Cod Y][Cod Z][Cod W](a b c d:D):(a4 X Y Z W).dec [a,b,c,d]=(dec a).bind λx=>(dec b).bind λy=>(dec c).bind λz=>(dec d).bind λw=>some (x,y,z,w):=id rfl
@[simp] theorem qho{X:Type}(A:fw X)(L:List Int)(r:List D):(aT A).dec (.tape L::r)=(A.dec r).map λx=>(L,x):=id rfl
@[simp] theorem qeU(x:Unit):a0.view x=[]:=id rfl
@[simp] theorem qeT{X:Type}[Cod X](x:X):(a1 X).view x=[enc x]:=id rfl
@[simp] theorem qeS{X Y:Type}[Cod X][Cod Y](x:X)(y:Y):(a2 X Y).view (x,y)=[enc x,enc y]:=id rfl
@[simp] theorem qeR{X Y Z:Type}[Cod X][Cod Y][Cod Z](x:X)(y:Y)(z:Z):(a3 X Y Z).view (x,y,z)=[enc x,enc y,enc z]:=id rfl
@[simp] theorem qeQ{X Y Z W:Type}[Cod X][Cod Y][Cod Z][Cod W](x:X)(y:Y)(z:Z)(w:W):(a4 X Y Z W).view (x,y,z,w)=[enc x,enc y,enc z,enc w]:=id rfl
@[simp] theorem qeL{X:Type}(A:fw X)(L:List Int)(x:X):(aT A).view (L,x)= .tape L::A.view x:=id rfl
attribute [simp] Cod.dec_enc
@[simp] theorem qgH(n:Int):dec (X:=Int) (.v (.int .i64 n))=some n:=id rfl
@[simp] theorem qei(n:Bool):dec (X:=Bool) (.v (.bool n))=some n:=id rfl
@[simp] theorem qgF(n:ByteArray):dec (X:=ByteArray) (.v (.string n))=some n:=id rfl
@[simp] theorem qgG{X:Type}[Cod X]:dec (X:=List X) (.v (.slice none 0 0))=some []:=id rfl
@[simp] theorem qeh{X:Type}[Cod X](n:Nat)(es:List D):dec (X:=List X) (.list n es)=if n=Cod.wd X then es.mapM (dec (X:=X))else none:=id rfl
attribute [simp] yu
@[simp] theorem Y5{X:Type}[Cod X](l:List X):l.mapM (dec (X:=X) ∘enc)=some l:=by
 have:=yu l;rwa [List.mapM_map]at this
def sj{Y Z:Type}[Cod Y][Cod Z](p:Y×Z):D:= .tup [enc p.1,enc p.2]
def Ze{Y Z W:Type}[Cod Y][Cod Z][Cod W](p:Y×Z×W):D:= .tup [enc p.1,enc p.2.1,enc p.2.2]
def Nt(_:Unit):D:= .tup []
@[simp] theorem qic{Y Z:Type}[Cod Y][Cod Z](y:Y)(z:Z):sj (y,z)= .tup [enc y,enc z]:=id rfl
@[simp] theorem qib{Y Z W:Type}[Cod Y][Cod Z][Cod W](y:Y)(z:Z)(w:W):Ze (y,z,w)= .tup [enc y,enc z,enc w]:=id rfl
@[simp] theorem qdU{Y Z:Type}[Cod Y][Cod Z](q:Y×Z->Prop)(a b:D)(H':aa):Fin sj q (.tup [a,b]) H'=∃y z,FrzTo H' a (enc y)/\FrzTo H' b (enc z)/\q (y,z):=by
 refine propext ⟨λ⟨⟨y,z⟩,h1,h2⟩=>?_,λ⟨y,z,h1,h2,h3⟩=>⟨(y,z),UN h1 h2,h3⟩⟩;cases h1 with
 | same=>exact⟨y,z, .same _, .same _,h2⟩
 | tup hl h=>exact⟨y,z,h 0 _ _ rfl rfl,h 1 _ _ rfl rfl,h2⟩
@[simp] theorem qdT{Y Z W:Type}[Cod Y][Cod Z][Cod W](q:Y×Z×W->Prop)(a b c:D)(H':aa):Fin Ze q (.tup [a,b,c]) H'=∃y z w,FrzTo H' a (enc y)/\FrzTo H' b (enc z)/\FrzTo H' c (enc w)/\q (y,z,w):=by
 refine propext ⟨λ⟨⟨y,z,w⟩,h1,h2⟩=>?_,λ⟨y,z,w,h1,h2,h3,h4⟩=>⟨(y,z,w),UM h1 h2 h3,h4⟩⟩;cases h1 with
 | same=>exact⟨y,z,w, .same _, .same _, .same _,h2⟩
 | tup hl h=>exact⟨y,z,w,h 0 _ _ rfl rfl,h 1 _ _ rfl rfl,h 2 _ _ rfl rfl,h2⟩
@[simp] theorem qid(u:Unit):Nt u= .tup []:=id rfl
def om:List (Nat×D)->Sg->Sg
 | [],σ=>σ
 | (t,d)::l,σ=>upd (om l σ) t d
def fq:List (Nat×Res)->aa->aa
 | [],H=>H
 | (i,r)::l,H=>aj (fq l H) i (some r)
def MB(σ:Sg):om [] σ=σ:=id rfl
@[simp] theorem Yp(H:aa):fq [] H=H:=id rfl
@[simp] theorem qhm(i:Nat)(r:Res)(l:List (Nat×Res))(H:aa):fq ((i,r)::l) H=aj (fq l H) i (some r):=id rfl
def qC(ks:List Nat)(σ σ':Sg):Prop:=∀t∈ks,σ' t=σ t
def ur(hk:List Nat)(H H':aa):Prop:=∀i∈hk,H' i=H i
@[simp] theorem qf3(σ σ':Sg):qC [] σ σ'=True:=by simp[qC]
@[simp] theorem qf4(t:Nat)(ks:List Nat)(σ σ':Sg):qC (t::ks) σ σ'=(σ' t=σ t/\qC ks σ σ'):=by simp[qC]
@[simp] theorem qdB(σ σ':aa):ur [] σ σ'=True:=by simp[ur]
@[simp] theorem qdC(t:Nat)(ks:List Nat)(σ σ':aa):ur (t::ks) σ σ'=(σ' t=σ t/\ur ks σ σ'):=by simp[ur]
def Dj(ks:List Nat)(σ:Sg)(t:Nat):gC ks σ t=if t∈ks then σ t else .any:=by
 induction ks with
 | nil=>simp[qaz]
 | cons s ks ih=>
   rw[Xp];simp only[upd,qjW];by_cases h:t=s
   ·simp[h]
   ·simp[h,ih]
def Dk(ks:List Nat)(σ:aa)(t:Nat):hL ks σ t=if t∈ks then σ t else none:=by
 induction ks with
 | nil=>simp
 | cons s ks ih=>
   rw[UB];simp only[aj,qjW];by_cases h:t=s
   ·simp[h]
   ·simp[h,ih]
def Vz{σ σ':Sg}{H H':aa}(h1:∀t,MC (σ t) (σ' t))(h2:∀i r,H' i=some r->H i=some r\/isNilRow r):Wk σ H σ' H':=by
 intro E a w hst;obtain⟨hd,hN,tp,hw,hr⟩:=hst;have hm:=hw.sub h2;exact⟨hd,hN,tp,hm.1,λt=>Wh (h1 t) (hm.2 _ _ (hr t))⟩
def xQ(d:D):MC d d:=by simp
theorem xj{σ0 σ:Sg}{H0 H:aa}{ks hk:List Nat}{sl:List (Nat×D)}{hp:List (Nat×Res)}(h1:ot sl σ)(h2:qC ks σ0 σ)(h3:sf hp H)(h4:ur hk H0 H):
 Wk σ H (om sl (gC ks σ0)) (fq hp (hL hk H0)):=by
 refine Vz (λt=>?_) (λi r=>?_)
 ·induction sl with
  | nil=>
    rw[MB,Dj];split
    ·rename_i h;rw[<-h2 t h];exact xQ _
    ·exact trivial
  | cons p sl ih=>
    obtain⟨s,d⟩:=p;simp only[om,upd];split
    ·rename_i e;subst e;exact h1.1
    ·exact ih h1.2
 ·induction hp with
  | nil=>
    rw[Yp,Dk];split
    ·rename_i h;rw[<-h4 i h];exact .inl
    ·intro h;cases h
  | cons p hp ih=>
    obtain⟨s,d⟩:=p;simp only[fq,aj];split
    ·rename_i e;subst e;intro h;cases h;exact h3.1
    ·exact ih h3.2
def MH(σ0:Sg)(H0:aa)(ks hk:List Nat)(sl:List (Nat×D))(hp:List (Nat×Res))(σ:Sg)(H:aa):Prop:=ot sl σ/\qC ks σ0 σ/\sf hp H/\ur hk H0 H
@[simp] theorem qeF(σ0:Sg)(H0:aa)(ks hk:List Nat)(sl:List (Nat×D))(hp:List (Nat×Res))(σ:Sg)(H:aa):MH σ0 H0 ks hk sl hp σ H=(ot sl σ/\qC ks σ0 σ/\sf hp H/\ur hk H0 H):=id rfl
def PH{X:Type}(P:X->Prop)(B:X->Sg->aa->Prop)(m:X->Nat)(x:X)(K:Ex->Sg->aa->Prop):Ex->Sg->aa->Prop:=λe σ' H'=>match e with
 | .norm=>∃y,P y/\B y σ' H'/\m y < m x
 | e=>K e σ' H'
@[simp ↓] theorem qe1{X:Type}(P:X->Prop)(B:X->Sg->aa->Prop)(m:X->Nat)(x:X)(K:Ex->Sg->aa->Prop)(σ':Sg)(H':aa):PH P B m x K .norm σ' H'=∃y,P y/\B y σ' H'/\m y < m x:=id rfl
@[simp ↓] theorem qeZ{X:Type}(P:X->Prop)(B:X->Sg->aa->Prop)(m:X->Nat)(x:X)(K:Ex->Sg->aa->Prop)(i:Nat)(σ':Sg)(H':aa):PH P B m x K (.ex i) σ' H'=K (.ex i) σ' H':=id rfl
@[simp ↓] theorem qe0{X:Type}(P:X->Prop)(B:X->Sg->aa->Prop)(m:X->Nat)(x:X)(K:Ex->Sg->aa->Prop)(σ':Sg)(H':aa):PH P B m x K .ret σ' H'=K .ret σ' H':=id rfl
section
variable {S:Nat->Spc}{K:Ex->Sg->aa->Prop}{σ:Sg}{H:aa}
def aL{X:Type}(ks hk:List Nat)(P:X->Prop)(sl:X->List (Nat×D))(hp:X->List (Nat×Res))(m:X->Nat)(x0:X){k:Nat}{b:CC}(h0:P x0)(hs:ot (sl x0) σ)(hh:sf (hp x0) H)
 (hr:∀x,P x->vc S b (PH P (λy=>MH σ H ks hk (sl y) (hp y)) m x K) (om (sl x) (gC ks σ)) (fq (hp x) (hL hk H))):vc S (.loop k b) K σ H:=by
 rw[HJ];refine⟨⟨X,P,λx=>om (sl x) (gC ks σ),λx=>fq (hp x) (hL hk H),m⟩,⟨x0,h0,xj hs (λ_ _=>rfl) hh (λ_ _=>rfl)⟩,λx hx=>qG b _ _ (λe σ' H' h=>?_) (hr x hx)⟩;cases e with
 | norm=>
   obtain⟨y,h1,h2,h3⟩:=h;exact⟨y,h1,xj h2.1 h2.2.1 h2.2.2.1 h2.2.2.2,h3⟩
 | ex i=>exact h
 | ret=>exact h
def Ri(Q:Sg->aa->Prop)(K:Ex->Sg->aa->Prop):Ex->Sg->aa->Prop:=λe σ' H'=>match e with
 | .norm=>Q σ' H'
 | e=>K e σ' H'
@[simp ↓] theorem qfT(Q:Sg->aa->Prop)(σ':Sg)(H':aa):Ri Q K .norm σ' H'=Q σ' H':=id rfl
@[simp ↓] theorem qfS(Q:Sg->aa->Prop)(σ':Sg)(H':aa):Ri Q K .ret σ' H'=K .ret σ' H':=id rfl
def LD(k:Nat)(a b:CC):CC:= .seq a (.cut k b)
def cm{X:Type}(ks hk:List Nat)(P:X->Prop)(sl:X->List (Nat×D))(hp:X->List (Nat×Res)){k:Nat}{a b:CC}
 (ha:vc S a (Ri (λσ' H'=>∃x,P x/\MH σ H ks hk (sl x) (hp x) σ' H') K) σ H)
 (hb:∀x,P x->vc S b K (om (sl x) (gC ks σ)) (fq (hp x) (hL hk H))):vc S (LD k a b) K σ H:=by
 unfold LD;rw[Kp];refine qG a _ _ (λe σ' H' h=>?_) ha;cases e with
 | norm=>
   obtain⟨x,h1,h2⟩:=h;rw[Dy,R9];exact⟨_,_,xj h2.1 h2.2.1 h2.2.2.1 h2.2.2.2,hb x h1⟩
 | ex i=>exact h
 | ret=>exact h
def kZ(id i n c id2:Nat)(body:CC)(i2:Nat):CC:=
 .block id (.loop 0 (.seq (.reg [.op (some c) none (.cmp .lss (.tmp i) (.tmp n))]) (.seq (.ite (.tmp c) .skip (.exit id)) (.seq (.block id2 (.cut 0 body)) (.reg [.op (some i2) none (.arith .add (.tmp i) (.const (.int .i64 1))), .op (some i) none (.mv (.tmp i2))])))))
def Ub{X:Type}(id id2 i n:Nat)(len:Nat)(B:X->Sg->aa->Prop)(P:X->Prop)(k:Nat)(K:Ex->Sg->aa->Prop):Ex->Sg->aa->Prop:=λe σ' H'=>match e with
 | .norm=>σ' i= .v (.int .i64 k)/\σ' n= .v (.int .i64 len)/\∃y,P y/\B y σ' H'
 | .ex j=>if j=id2 then σ' i= .v (.int .i64 k)/\σ' n= .v (.int .i64 len)/\∃y,P y/\B y σ' H' else if j=id then K .norm σ' H' else K (.ex j) σ' H'
 | .ret=>K .ret σ' H'
@[simp ↓] theorem qfu{X:Type}(id id2 i n:Nat)(len:Nat)(B:X->Sg->aa->Prop)(P:X->Prop)(k:Nat)(σ':Sg)(H':aa):Ub id id2 i n len B P k K .norm σ' H'=(σ' i= .v (.int .i64 k)/\σ' n= .v (.int .i64 len)/\∃y,P y/\B y σ' H'):=_root_.id rfl
@[simp ↓] theorem qfs{X:Type}(id id2 i n:Nat)(len:Nat)(B:X->Sg->aa->Prop)(P:X->Prop)(k j:Nat)(σ':Sg)(H':aa):Ub id id2 i n len B P k K (.ex j) σ' H'=(if j=id2 then σ' i= .v (.int .i64 k)/\σ' n= .v (.int .i64 len)/\∃y,P y/\B y σ' H' else if j=id then K .norm σ' H' else K (.ex j) σ' H'):=_root_.id rfl
@[simp ↓] theorem qft{X:Type}(id id2 i n:Nat)(len:Nat)(B:X->Sg->aa->Prop)(P:X->Prop)(k:Nat)(σ':Sg)(H':aa):Ub id id2 i n len B P k K .ret σ' H'=K .ret σ' H':=_root_.id rfl
def wy{t:Nat}{d:D} :∀ {sl:List (Nat×D)} {σ:Sg},(∀p∈sl,p.1≠t)->ot sl σ->ot sl (upd σ t d)
 | [],_,_,_=>trivial
 | (s,e)::sl,σ,h,hm=>by
  refine⟨?_,wy (λp hp=>h p (by simp[hp])) hm.2⟩;have:s≠t:=h (s,e) (by simp);simp only[upd,this,if_false];exact hm.1
def Fo{t:Nat}{d:D}{ks:List Nat}{σ0 σ:Sg}(h:t∉ks)(hk:qC ks σ0 σ):qC ks σ0 (upd σ t d):=λs hs=>by
 have:s≠t:=λe=>h (e ▸hs)
 simp only[upd,this,if_false];exact hk s hs
theorem am{X:Type}(ks hk:List Nat)(len:Nat)(P:Nat->X->Prop)(sl:X->List (Nat×D))(hp:X->List (Nat×Res))(x0:X){id i n c id2 i2:Nat}{body:CC}
 (hi:σ i= .v (.int .i64 0)) (hn:σ n= .v (.int .i64 len)) (hlen:(len:Int)<=9223372036854775807) (hd:([i,n,c,i2] ++ks).Nodup) (hd2:∀x,∀p∈sl x,p.1∉ [i,n,c,i2])
 (h0:P 0 x0) (hs:ot (sl x0) σ) (hh:sf (hp x0) H)
 (hr:∀k x,k < len->P k x->vc S body (Ub id id2 i n len (λy=>MH σ H ks hk (sl y) (hp y)) (P (k+1)) k K) (om ((i, .v (.int .i64 k))::(n, .v (.int .i64 len))::sl x) (gC ks σ)) (fq (hp x) (hL hk H)))
 (he:∀x,P len x->K .norm (upd (om ((i, .v (.int .i64 len))::(n, .v (.int .i64 len))::sl x) (gC ks σ)) c (.v (.bool false))) (fq (hp x) (hL hk H))):vc S (kZ id i n c id2 body i2) K σ H:=by
 have ne:i≠n/\i≠c/\i≠i2/\n≠c/\n≠i2/\c≠i2/\i∉ks/\n∉ks/\c∉ks/\i2∉ks:=by
  simp only[qku,qky,List.nodup_cons,qjW,not_or]at hd;obtain⟨⟨h1,h2,h3,h4⟩,⟨h5,h6,h7⟩,⟨h8,h9⟩,h10,_⟩:=hd;exact⟨h1,h2,h3,h5,h6,h8,h4,h7,h9,h10⟩
 obtain⟨n1,n2,n3,n4,n5,n6,m1,m2,m3,m4⟩:=ne;have sn:∀x t,t∈ [i,n,c,i2]->∀p∈sl x,p.1≠t:=λx t ht p hp e=>hd2 x p hp (e ▸ht)
 let st:Nat×X->Sg:=λx=>om ((i, .v (.int .i64 x.1))::(n, .v (.int .i64 len))::sl x.2) (gC ks σ)
 let sh:Nat×X->aa:=λx=>fq (hp x.2) (hL hk H)
 have back:∀ (k:Nat) (y:X) (σ':Sg) (H':aa),σ' i= .v (.int .i64 k)->σ' n= .v (.int .i64 len)->MH σ H ks hk (sl y) (hp y) σ' H'->Wk σ' H' (st (k,y)) (sh (k,y)):=by
  intro k y σ' H' e1 e2 ⟨b1,b2,b3,b4⟩;exact xj (sl:=(i, .v (.int .i64 k))::(n, .v (.int .i64 len))::sl y) ⟨by rw[e1];exact xQ _,by rw[e2];exact xQ _,b1⟩ b2 b3 b4
 unfold kZ;rw[HK,HJ];refine⟨⟨Nat×X,λx=>x.1<=len/\P x.1 x.2,st,sh,λx=>len -x.1⟩,⟨(0,x0),⟨qj5 _,h0⟩,back 0 x0 σ H hi hn ⟨hs,λ_ _=>rfl,hh,λ_ _=>rfl⟩⟩,?_⟩;rintro⟨k,x⟩ ⟨hkl,hP⟩;have si:st (k,x) i= .v (.int .i64 k):=by simp[st,om,upd]
 have sN:st (k,x) n= .v (.int .i64 len):=by
  have:¬n=i:=λe=>n1 e.symm
  simp[st,om,upd,this]
 let inv:YD:=⟨Nat×X,λx=>x.1<=len/\P x.1 x.2,st,sh,λx=>len -x.1⟩
 change vc S _ (OQ inv (k,x) (Pq id K)) (st (k,x)) (sh (k,x));rw[Kp,We,Xo,qbZ];simp only[PS,si,sN,Yc,true_and,So,Yd];rw[V9,Dy,Kp,qbA];have sc:ev (du (st (k,x)) (some c) (.v (.bool (decide ((k:Int) < len))))) (.tmp c)= .v (.bool (decide ((k:Int) < len))):=by simp[upd]
 rw[sc,XQ];refine⟨λhlt=>?_,λhge=>?_⟩
 ·have hlt':k < len:=by simpa using hlt
  rw[XM,Dy,Kp,HK,R9];refine⟨st (k,x),sh (k,x),Vz (λt=>?_) (λ_ _ h=> .inl h),?_⟩
  ·rw[Ln,ZK];split
   ·rename_i e;subst e;have e1:st (k,x) t= .any:=by
     have hsl:∀ (l:List (Nat×D)),(∀p∈l,p.1≠t)->om l (gC ks σ) t= .any:=by
      intro l
      induction l with
      | nil=>intro _;rw[MB,Dj,if_neg m3]
      | cons p l ih=>
        obtain⟨s,d⟩:=p;intro h;have:¬t=s:=λe=>h (s,d) (by simp) e.symm
        simp only[om,upd,this,if_false];exact ih λp hp=>h p (by simp[hp])
     have h1:¬t=i:=λe=>n2 e.symm
     have h2:¬t=n:=λe=>n4 e.symm
     simp only[st,om,upd,h1,h2,if_false];exact hsl _ (sn x t (by simp))
    rw[e1];exact trivial
   ·exact xQ _
  ·refine qG body _ _ (λe σ' H' h=>?_) (hr k x hlt' hP);have rv:∀σ' H',(σ' i= .v (.int .i64 k)/\σ' n= .v (.int .i64 len)/\∃y,P (k+1) y/\MH σ H ks hk (sl y) (hp y) σ' H')->
    LE S (.reg [.op (some i2) none (.arith .add (.tmp i) (.const (.int .i64 1))), .op (some i) none (.mv (.tmp i2))]) (OQ inv (k,x) (Pq id K)) .norm σ' H':=by
    intro σ' H' ⟨e1,e2,y,hy,hb⟩;rw[Dy,We,Xo,Vh];simp only[PS,TH,ZH,e1,SE,UD,true_and,Pt,InR];refine⟨by omega,?_⟩;rw[Xo,qgR];dsimp only;rw[V9];simp only[PS,Ln];rw[XP];refine⟨(k+1,y),⟨by show k+1<=len;omega,hy⟩,back (k+1) y _ _ ?_ ?_ ?_,by show len - (k+1) < len -k;omega⟩
    ·simp[upd]
    ·have h1:¬n=i:=λe=>n1 e.symm
     simp[upd,h1,n5,e2]
    ·exact⟨wy (sn y i (by simp)) (wy (sn y i2 (by simp)) hb.1),Fo m1 (Fo m4 hb.2.1),hb.2.2.1,hb.2.2.2⟩
   cases e with
   | norm=>rw[XT];exact rv σ' H' h
   | ret=>
     rw[Sa,XN,XO,Sa];exact h
   | ex j=>
     rw[Mp];have h:if j=id2 then σ' i= .v (.int .i64 k)/\σ' n= .v (.int .i64 len)/\∃y,P (k+1) y/\MH σ H ks hk (sl y) (hp y) σ' H' else if j=id then K .norm σ' H' else K (.ex j) σ' H':=h
     split
     ·rename_i e;rw[if_pos e]at h;exact rv σ' H' h
     ·rename_i e;rw[if_neg e]at h;rw[R7,R8,Mp];exact h
 ·have hge':k=len:=by
   have:¬ ((k:Int) < len):=by simpa using hge
   have:k<=len:=hkl;omega
  subst hge';rw[XR,R7,R8,Mp,if_pos rfl];have:decide ((k:Int) < k)=false:=by simp
  rw[this];exact he x hP
end
end Go.Gv
