/- A part of the framework and of the walks: T11 T12. -/
import Derived.Test.YtphdikcommfnhaaGreatDoorGa17
set_option linter.unusedSimpArgs false
set_option linter.unusedVariables false

namespace Go.Gv
open Cod (enc dec)
@[simp] theorem qbM (H:aa) (x y:Value):FrzTo H (.v x) (.v y)=(x=y):=by
 refine propext ⟨fun h=> ?_,fun h=> h ▸ .same _⟩
 cases h;rfl
@[simp] theorem qeq (H:aa) (d:D):FrzTo H d d=True:=propext ⟨fun _=> trivial,fun _=> .same d⟩
@[simp] theorem qiF (H:aa) (n:Nat) (es:List D):FrzTo H (.v (.slice none 0 0)) (.list n es)=(es= []):=by
 refine propext ⟨fun h=> ?_,fun h=> h ▸ .nil n⟩
 cases h;rfl
theorem Wt {H:aa} {a b a' b':D} (h1:FrzTo H a a') (h2:FrzTo H b b'):FrzTo H (.tup [a,b]) (.tup [a',b']):=
 .tup rfl fun k c c' hc hc'=> by
  match k with
  | 0=> simp at hc hc';subst hc;subst hc';exact h1
  | 1=> simp at hc hc';subst hc;subst hc';exact h2
  | k+2=> simp at hc
theorem Ws {H:aa} {a b c a' b' c':D} (h1:FrzTo H a a') (h2:FrzTo H b b') (h3:FrzTo H c c'):FrzTo H (.tup [a,b,c]) (.tup [a',b',c']):=
 .tup rfl fun k d d' hc hc'=> by
  match k with
  | 0=> simp at hc hc';subst hc;subst hc';exact h1
  | 1=> simp at hc hc';subst hc;subst hc';exact h2
  | 2=> simp at hc hc';subst hc;subst hc';exact h3
  | k+3=> simp at hc
section
variable {P:Program} {S:Nat->Spc} {f:Nat} {im:List Nat} {cc:CC} {rs:List ar} {N:Nat}
end
end Go.Gv

namespace Go.Gv
open Cod (enc dec)
structure du (X:Type) where
 dec:List D->Option X
 view:X->List D
 le: ∀ds x,dec ds=some x->LeL ds (view x)
def cC {X Y:Type} (A:du X) (pre:X->Prop) (er:Y->D) (post:X->Y->Prop):Spc:=Sj A.dec pre fun x r=> ∃y,r=er y/\post x y
def dP {X:Type} (o:Option X) (k:X->Prop):Prop:=match o with | some x=> k x | none=> False
@[congr] theorem qdH {X:Type} {o o':Option X} {k:X->Prop} (h:o=o'):dP o k=dP o' k:=by subst h;rfl
@[simp] theorem qgw {X:Type} (x:X) (k:X->Prop):dP (some x) k=k x:=id rfl
@[simp] theorem sk {X Y:Type} (A:du X) (pre:X->Prop) (er:Y->D) (post:X->Y->Prop) (d:Nat) (ds:List D) (H:aa) (K:D->aa->Prop):
 (cC A pre er post).pt d ds H K=dP (A.dec ds) fun x=> pre x/\ ∀y,post x y->K (er y) H:=by
 refine propext ⟨fun h=> ?_,fun h=> ?_⟩
 ·obtain⟨⟨x,h1,h2⟩,h3⟩:=h
  rw[h1]
  refine⟨h2,fun y hy=> h3 _ fun x' hx' _=> ?_⟩
  rw[h1] at hx'
  cases hx'
  exact⟨y,rfl,hy⟩
 ·cases hd:A.dec ds with
  | none=> rw[hd] at h;exact h.elim
  | some x=>
    rw[hd] at h
    refine Rw x hd h.1 ?_
    rintro r ⟨y,rfl,hy⟩
    exact h.2 y hy
@[simp] theorem qdf {X Y:Type} (A:du X) (pre:X->Prop) (er:Y->D) (post:X->Y->Prop) (dst:Option Nat) (ds:List D) (H:aa) (K:D->aa->Prop):
 P4 dst (cC A pre er post) ds H K=dP (A.dec ds) fun x=> pre x/\ ∀y,post x y->K (er y) H:=sk A pre er post 0 ds H K
def Fin {Y:Type} (er:Y->D) (q:Y->Prop) (r:D) (H':aa):Prop:= ∃y,FrzTo H' r (er y)/\q y
theorem eR {Y:Type} {er:Y->D} {q:Y->Prop} {r:D} {H':aa} (y:Y) (h:FrzTo H' r (er y)) (hq:q y):Fin er q r H':=⟨y,h,hq⟩
@[simp] theorem qew (q:Int->Prop) (n:Int) (H':aa):Fin enc q (.v (.int .i64 n)) H'=q n:=by
 simp[Fin,WH]
@[simp] theorem qbQ (q:Bool->Prop) (n:Bool) (H':aa):Fin enc q (.v (.bool n)) H'=q n:=by
 refine propext ⟨fun⟨y,h1,h2⟩=> ?_,fun h=> ⟨n, .same _,h⟩⟩
 rw[TG,qbM] at h1
 cases h1
 exact h2
@[simp] theorem qev (q:ByteArray->Prop) (n:ByteArray) (H':aa):Fin enc q (.v (.string n)) H'=q n:=by
 refine propext ⟨fun⟨y,h1,h2⟩=> ?_,fun h=> ⟨n, .same _,h⟩⟩
 rw[WG,qbM] at h1
 cases h1
 exact h2
def aV {X Y:Type} (cc:CC) (rs:List ar) (S:Nat->Spc) (A:du X) (pre:X->Prop) (er:Y->D) (post:X->Y->Prop):Prop:=
 ∀x,pre x->vc S cc (rF rs fun r H'=> Fin er (post x) r H') (fY (A.view x)) ed
theorem ae {P:Program} {S:Nat->Spc} {f:Nat} {im:List Nat} {cc:CC} {rs:List ar} {N:Nat} {X Y:Type} {A:du X} {pre:X->Prop} {er:Y->D} {post:X->Y->Prop}
 (hS: ∀f,Tri P f (S f).pt) (h:ay P f im cc rs N) (hN: ∀x,(A.view x).length<=N) (hw:aV cc rs S A pre er post):Tri P f (cC A pre er post).pt:=
 RD hS h A.le hN fun x hp=> by
  refine sa cc _ _ (fun e σ H h=> ?_) (hw x hp)
  cases e with
  | ex i=> exact h
  | _=>
    simp only[rF] at h ⊢
    have key: ∀ (rs:List ar) (F G:List D->Prop),(∀ds,F ds->G ds)->ul rs σ H F->ul rs σ H G:=by
     intro rs
     induction rs with
     | nil=> exact fun F G hFG h=> hFG _ h
     | cons r rs ih=>
       intro F G hFG h
       cases r with
       | tmp t=> exact ih _ _ (fun ds h=> hFG _ h) h
       | cell t agg sz=> exact B6 (fun d h=> ih _ _ (fun ds h=> hFG _ h) h) h
    exact key rs _ _ (fun ds ⟨y,h1,h2⟩=> ⟨_,h1,y,rfl,h2⟩) h
theorem ib {P : Program} {f : Nat} {fn : Func} {c : Code} (h : P.funcs[f]? = some fn) (hn : (fn.name == "runtime.NumGoroutine") = false) (hb : fn.body = some c) : fg P f := by
 intro args w
 have hn' : ¬ fn.name = "runtime.NumGoroutine" := by simpa using hn
 unfold callFunc
 simp[h,hn',hb]
theorem ak {P:Program} {f:Nat} {im:List Nat} {cc:CC} {rs:List ar} {N:Nat} (KM:P.follows .mixedOrders=true)
 (h : ((P.funcs[f]?).bind fun g => if g.name == "runtime.NumGoroutine" then none else g.body.bind fun c => (aZ P im g.ntmps c).bind fun cc => (g.results.toList.mapM (iQ P)).bind fun rs => some (g.ntmps, cc, rs)) = some (N, cu cc, rs)) : ay P f im cc rs N := by
 cases hf:P.funcs[f]? with
 | none=> rw[hf] at h;cases h
 | some fn=>
   rw[hf] at h
   simp only[Option.bind_some] at h
   split at h
   ·cases h
   ·rename_i hn
    simp only[Option.bind_eq_some_iff,Option.some.injEq,Prod.mk.injEq] at h
    obtain⟨c,hb,q,hq,r,hr,rfl,rfl,rfl⟩:=h
    exact⟨KM,ib hf (by simpa using hn) hb,fn,c,hf,hb,rfl,hq,hr⟩
def a0:du Unit:=⟨Zl,fun _=> [],qm0⟩
def a1 (X:Type) [Cod X]:du X:=⟨Zk,fun x=> [enc x],qmZ⟩
def a2 (X Y:Type) [Cod X] [Cod Y]:du (X×Y):=⟨Zj,fun x=> [enc x.1,enc x.2],qmY⟩
def a3 (X Y Z:Type) [Cod X] [Cod Y] [Cod Z]:du (X×Y×Z):=⟨Zi,fun x=> [enc x.1,enc x.2.1,enc x.2.2],qmX⟩
def a4 (X Y Z W:Type) [Cod X] [Cod Y] [Cod Z] [Cod W]:du (X×Y×Z×W):=⟨Zh,fun x=> [enc x.1,enc x.2.1,enc x.2.2.1,enc x.2.2.2],qmW⟩
@[simp] theorem qjR:a0.dec []=some ():=id rfl
@[simp] theorem qjQ {X:Type} [Cod X] (a:D): (a1 X).dec [a]=dec a:=id rfl
@[simp] theorem Zz {X Y:Type} [Cod X] [Cod Y] (a b:D): (a2 X Y).dec [a,b]=(dec a).bind fun x=> (dec b).bind fun y=> some (x,y):=id rfl
@[simp] theorem qjP {X Y Z:Type} [Cod X] [Cod Y] [Cod Z] (a b c:D): (a3 X Y Z).dec [a,b,c]=(dec a).bind fun x=> (dec b).bind fun y=> (dec c).bind fun z=> some (x,y,z):=id rfl
@[simp] theorem qjO {X Y Z W:Type} [Cod X] [Cod Y] [Cod Z] [Cod W] (a b c d:D): (a4 X Y Z W).dec [a,b,c,d]=(dec a).bind fun x=> (dec b).bind fun y=> (dec c).bind fun z=> (dec d).bind fun w=> some (x,y,z,w):=id rfl
@[simp] theorem qfJ (x:Unit):a0.view x= []:=id rfl
@[simp] theorem qfI {X:Type} [Cod X] (x:X): (a1 X).view x= [enc x]:=id rfl
@[simp] theorem qfH {X Y:Type} [Cod X] [Cod Y] (x:X) (y:Y): (a2 X Y).view (x,y)= [enc x,enc y]:=id rfl
@[simp] theorem qfG {X Y Z:Type} [Cod X] [Cod Y] [Cod Z] (x:X) (y:Y) (z:Z): (a3 X Y Z).view (x,y,z)= [enc x,enc y,enc z]:=id rfl
@[simp] theorem qfF {X Y Z W:Type} [Cod X] [Cod Y] [Cod Z] [Cod W] (x:X) (y:Y) (z:Z) (w:W): (a4 X Y Z W).view (x,y,z,w)= [enc x,enc y,enc z,enc w]:=id rfl
attribute [simp] Cod.dec_enc
@[simp] theorem qjc (n:Int):dec (X:=Int) (.v (.int .i64 n))=some n:=id rfl
@[simp] theorem qe6 (n:Bool):dec (X:=Bool) (.v (.bool n))=some n:=id rfl
@[simp] theorem qja (n:ByteArray):dec (X:=ByteArray) (.v (.string n))=some n:=id rfl
@[simp] theorem qjb {X:Type} [Cod X]:dec (X:=List X) (.v (.slice none 0 0))=some []:=id rfl
@[simp] theorem qe5 {X:Type} [Cod X] (n:Nat) (es:List D):dec (X:=List X) (.list n es)=if n=Cod.wd X then es.mapM (dec (X:=X)) else none:=id rfl
attribute [simp] zn
@[simp] theorem Z5 {X:Type} [Cod X] (l:List X):l.mapM (dec (X:=X) ∘enc)=some l:=by
 have:=zn l
 rwa [List.mapM_map] at this
def J4 {Y Z:Type} [Cod Y] [Cod Z] (p:Y×Z):D:= .tup [enc p.1,enc p.2]
def qaj {Y Z W:Type} [Cod Y] [Cod Z] [Cod W] (p:Y×Z×W):D:= .tup [enc p.1,enc p.2.1,enc p.2.2]
def OS (_:Unit):D:= .tup []
@[simp] theorem qb0 {Y Z:Type} [Cod Y] [Cod Z] (y:Y) (z:Z):J4 (y,z)= .tup [enc y,enc z]:=id rfl
@[simp] theorem qmh {Y Z W:Type} [Cod Y] [Cod Z] [Cod W] (y:Y) (z:Z) (w:W):qaj (y,z,w)= .tup [enc y,enc z,enc w]:=id rfl
@[simp] theorem qey {Y Z:Type} [Cod Y] [Cod Z] (q:Y×Z->Prop) (a b:D) (H':aa):Fin J4 q (.tup [a,b]) H'= ∃y z,FrzTo H' a (enc y)/\FrzTo H' b (enc z)/\q (y,z):=by
 refine propext ⟨fun⟨⟨y,z⟩,h1,h2⟩=> ?_,fun⟨y,z,h1,h2,h3⟩=> ⟨(y,z),Wt h1 h2,h3⟩⟩
 cases h1 with
 | same=> exact⟨y,z, .same _, .same _,h2⟩
 | tup hl h=> exact⟨y,z,h 0 _ _ rfl rfl,h 1 _ _ rfl rfl,h2⟩
@[simp] theorem qex {Y Z W:Type} [Cod Y] [Cod Z] [Cod W] (q:Y×Z×W->Prop) (a b c:D) (H':aa):Fin qaj q (.tup [a,b,c]) H'= ∃y z w,FrzTo H' a (enc y)/\FrzTo H' b (enc z)/\FrzTo H' c (enc w)/\q (y,z,w):=by
 refine propext ⟨fun⟨⟨y,z,w⟩,h1,h2⟩=> ?_,fun⟨y,z,w,h1,h2,h3,h4⟩=> ⟨(y,z,w),Ws h1 h2 h3,h4⟩⟩
 cases h1 with
 | same=> exact⟨y,z,w, .same _, .same _, .same _,h2⟩
 | tup hl h=> exact⟨y,z,w,h 0 _ _ rfl rfl,h 1 _ _ rfl rfl,h 2 _ _ rfl rfl,h2⟩
@[simp] theorem qmi (u:Unit):OS u= .tup []:=id rfl
def qg:List (Nat×D)->Sg->Sg
 | [],σ=> σ
 | (t,d)::l,σ=> upd (qg l σ) t d
def gk:List (Nat×Res)->aa->aa
 | [],H=> H
 | (i,r)::l,H=> ah (gk l H) i (some r)
theorem N5 (σ:Sg):qg [] σ=σ:=id rfl
@[simp] theorem Zx (H:aa):gk [] H=H:=id rfl
@[simp] theorem qjL (i:Nat) (r:Res) (l:List (Nat×Res)) (H:aa):gk ((i,r)::l) H=ah (gk l H) i (some r):=id rfl
def r7 (ks:List Nat) (σ σ':Sg):Prop:= ∀t∈ks,σ' t=σ t
def vk (hk:List Nat) (H H':aa):Prop:= ∀i∈hk,H' i=H i
@[simp] theorem qio (σ σ':Sg):r7 [] σ σ'=True:=by simp[r7]
@[simp] theorem qip (t:Nat) (ks:List Nat) (σ σ':Sg):r7 (t::ks) σ σ'=(σ' t=σ t/\r7 ks σ σ'):=by simp[r7]
@[simp] theorem qec (σ σ':aa):vk [] σ σ'=True:=by simp[vk]
@[simp] theorem qed (t:Nat) (ks:List Nat) (σ σ':aa):vk (t::ks) σ σ'=(σ' t=σ t/\vk ks σ σ'):=by simp[vk]
theorem EU (ks:List Nat) (σ:Sg) (t:Nat):iM ks σ t=if t∈ks then σ t else .any:=by
 induction ks with
 | nil=> simp[qbF]
 | cons s ks ih=>
   rw[YW]
   simp only[upd,List.mem_cons]
   by_cases h:t=s
   ·simp[h]
   ·simp[h,ih]
theorem EV (ks:List Nat) (σ:aa) (t:Nat):jo ks σ t=if t∈ks then σ t else none:=by
 induction ks with
 | nil=> simp
 | cons s ks ih=>
   rw[We]
   simp only[ah,List.mem_cons]
   by_cases h:t=s
   ·simp[h]
   ·simp[h,ih]
theorem Xm {σ σ':Sg} {H H':aa} (h1: ∀t,Mi (σ t) (σ' t)) (h2: ∀i r,H' i=some r->H i=some r\/isNilRow r):Wk σ H σ' H':=by
 intro E a w hst
 obtain⟨hd,hN,tp,hw,hr⟩:=hst
 have hm:=hw.sub h2
 exact⟨hd,hN,tp,hm.1,fun t=> XK (h1 t) (hm.2 _ _ (hr t))⟩
theorem yD (d:D):Mi d d:=by simp
theorem ya {σ0 σ:Sg} {H0 H:aa} {ks hk:List Nat} {sl:List (Nat×D)} {hp:List (Nat×Res)} (h1:qi sl σ) (h2:r7 ks σ0 σ) (h3:ti hp H) (h4:vk hk H0 H):
 Wk σ H (qg sl (iM ks σ0)) (gk hp (jo hk H0)):=by
 refine Xm (fun t=> ?_) (fun i r=> ?_)
 ·induction sl with
  | nil=>
    rw[N5,EU]
    split
    ·rename_i h;rw[<-h2 t h];exact yD _
    ·exact trivial
  | cons p sl ih=>
    obtain⟨s,d⟩:=p
    simp only[qg,upd]
    split
    ·rename_i e;subst e;exact h1.1
    ·exact ih h1.2
 ·induction hp with
  | nil=>
    rw[Zx,EV]
    split
    ·rename_i h;rw[<-h4 i h];exact .inl
    ·intro h;cases h
  | cons p hp ih=>
    obtain⟨s,d⟩:=p
    simp only[gk,ah]
    split
    ·rename_i e;subst e;intro h;cases h;exact h3.1
    ·exact ih h3.2
def Oc (σ0:Sg) (H0:aa) (ks hk:List Nat) (sl:List (Nat×D)) (hp:List (Nat×Res)) (σ:Sg) (H:aa):Prop:=qi sl σ/\r7 ks σ0 σ/\ti hp H/\vk hk H0 H
@[simp] theorem qfu (σ0:Sg) (H0:aa) (ks hk:List Nat) (sl:List (Nat×D)) (hp:List (Nat×Res)) (σ:Sg) (H:aa):Oc σ0 H0 ks hk sl hp σ H=(qi sl σ/\r7 ks σ0 σ/\ti hp H/\vk hk H0 H):=id rfl
def Rl {X:Type} (P:X->Prop) (B:X->Sg->aa->Prop) (m:X->Nat) (x:X) (K:Ex->Sg->aa->Prop):Ex->Sg->aa->Prop:=fun e σ' H'=> match e with
 | .norm=> ∃y,P y/\B y σ' H'/\m y < m x
 | e=> K e σ' H'
@[simp ↓] theorem qfP {X:Type} (P:X->Prop) (B:X->Sg->aa->Prop) (m:X->Nat) (x:X) (K:Ex->Sg->aa->Prop) (σ':Sg) (H':aa):Rl P B m x K .norm σ' H'= ∃y,P y/\B y σ' H'/\m y < m x:=id rfl
@[simp ↓] theorem qfN {X:Type} (P:X->Prop) (B:X->Sg->aa->Prop) (m:X->Nat) (x:X) (K:Ex->Sg->aa->Prop) (i:Nat) (σ':Sg) (H':aa):Rl P B m x K (.ex i) σ' H'=K (.ex i) σ' H':=id rfl
@[simp ↓] theorem qfO {X:Type} (P:X->Prop) (B:X->Sg->aa->Prop) (m:X->Nat) (x:X) (K:Ex->Sg->aa->Prop) (σ':Sg) (H':aa):Rl P B m x K .ret σ' H'=K .ret σ' H':=id rfl
section
variable {S:Nat->Spc} {K:Ex->Sg->aa->Prop} {σ:Sg} {H:aa}
theorem aY {X:Type} (ks hk:List Nat) (P:X->Prop) (sl:X->List (Nat×D)) (hp:X->List (Nat×Res)) (m:X->Nat) (x0:X) {k:Nat} {b:CC} (h0:P x0) (hs:qi (sl x0) σ) (hh:ti (hp x0) H)
 (hr: ∀x,P x->vc S b (Rl P (fun y=> Oc σ H ks hk (sl y) (hp y)) m x K) (qg (sl x) (iM ks σ)) (gk (hp x) (jo hk H))):vc S (.loop k b) K σ H:=by
 rw[JD]
 refine⟨⟨X,P,fun x=> qg (sl x) (iM ks σ),fun x=> gk (hp x) (jo hk H),m⟩,⟨x0,h0,ya hs (fun _ _=> rfl) hh (fun _ _=> rfl)⟩,fun x hx=> sa b _ _ (fun e σ' H' h=> ?_) (hr x hx)⟩
 cases e with
 | norm=>
   obtain⟨y,h1,h2,h3⟩:=h
   exact⟨y,h1,ya h2.1 h2.2.1 h2.2.2.1 h2.2.2.2,h3⟩
 | ex i=> exact h
 | ret=> exact h
def Qp (Q:Sg->aa->Prop) (K:Ex->Sg->aa->Prop):Ex->Sg->aa->Prop:=fun e σ' H'=> match e with
 | .norm=> Q σ' H'
 | e=> K e σ' H'
@[simp ↓] theorem qgU (Q:Sg->aa->Prop) (σ':Sg) (H':aa):Qp Q K .norm σ' H'=Q σ' H':=id rfl
@[simp ↓] theorem qgS (Q:Sg->aa->Prop) (i:Nat) (σ':Sg) (H':aa):Qp Q K (.ex i) σ' H'=K (.ex i) σ' H':=id rfl
@[simp ↓] theorem qgT (Q:Sg->aa->Prop) (σ':Sg) (H':aa):Qp Q K .ret σ' H'=K .ret σ' H':=id rfl
def qQ (k:Nat) (a b:CC):CC:= .seq a (.cut k b)
theorem qO {X:Type} (ks hk:List Nat) (P:X->Prop) (sl:X->List (Nat×D)) (hp:X->List (Nat×Res)) {k:Nat} {a b:CC}
 (ha:vc S a (Qp (fun σ' H'=> ∃x,P x/\Oc σ H ks hk (sl x) (hp x) σ' H') K) σ H)
 (hb: ∀x,P x->vc S b K (qg (sl x) (iM ks σ)) (gk (hp x) (jo hk H))):vc S (qQ k a b) K σ H:=by
 unfold qQ
 rw[Lu]
 refine sa a _ _ (fun e σ' H' h=> ?_) ha
 cases e with
 | norm=>
   obtain⟨x,h1,h2⟩:=h
   rw[FC,TK]
   exact⟨_,_,ya h2.1 h2.2.1 h2.2.2.1 h2.2.2.2,hb x h1⟩
 | ex i=> exact h
 | ret=> exact h
def aP (id i n c id2:Nat) (body:CC) (i2:Nat):CC:=
 .block id (.loop 0 (.seq (.reg [.op (some c) none (.cmp .lss (.tmp i) (.tmp n))]) (.seq (.ite (.tmp c) .skip (.exit id)) (.seq (.block id2 (.cut 0 body)) (.reg [.op (some i2) none (.arith .add (.tmp i) (.const (.int .i64 1))), .op (some i) none (.mv (.tmp i2))])))))
def VF {X:Type} (id id2 i n:Nat) (len:Nat) (B:X->Sg->aa->Prop) (P:X->Prop) (k:Nat) (K:Ex->Sg->aa->Prop):Ex->Sg->aa->Prop:=fun e σ' H'=> match e with
 | .norm=> σ' i= .v (.int .i64 k)/\σ' n= .v (.int .i64 len)/\ ∃y,P y/\B y σ' H'
 | .ex j=> if j=id2 then σ' i= .v (.int .i64 k)/\σ' n= .v (.int .i64 len)/\ ∃y,P y/\B y σ' H' else if j=id then K .norm σ' H' else K (.ex j) σ' H'
 | .ret=> K .ret σ' H'
@[simp ↓] theorem qgg {X:Type} (id id2 i n:Nat) (len:Nat) (B:X->Sg->aa->Prop) (P:X->Prop) (k:Nat) (σ':Sg) (H':aa):VF id id2 i n len B P k K .norm σ' H'=(σ' i= .v (.int .i64 k)/\σ' n= .v (.int .i64 len)/\ ∃y,P y/\B y σ' H'):=_root_.id rfl
@[simp ↓] theorem qge {X:Type} (id id2 i n:Nat) (len:Nat) (B:X->Sg->aa->Prop) (P:X->Prop) (k j:Nat) (σ':Sg) (H':aa):VF id id2 i n len B P k K (.ex j) σ' H'=(if j=id2 then σ' i= .v (.int .i64 k)/\σ' n= .v (.int .i64 len)/\ ∃y,P y/\B y σ' H' else if j=id then K .norm σ' H' else K (.ex j) σ' H'):=_root_.id rfl
@[simp ↓] theorem qgf {X:Type} (id id2 i n:Nat) (len:Nat) (B:X->Sg->aa->Prop) (P:X->Prop) (k:Nat) (σ':Sg) (H':aa):VF id id2 i n len B P k K .ret σ' H'=K .ret σ' H':=_root_.id rfl
theorem xh {t:Nat} {d:D} : ∀ {sl:List (Nat×D)} {σ:Sg},(∀p∈sl,p.1≠t)->qi sl σ->qi sl (upd σ t d)
 | [],_,_,_=> trivial
 | (s,e)::sl,σ,h,hm=> by
  refine⟨?_,xh (fun p hp=> h p (by simp[hp])) hm.2⟩
  have:s≠t:=h (s,e) (by simp)
  simp only[upd,this,if_false]
  exact hm.1
theorem HE {t:Nat} {d:D} {ks:List Nat} {σ0 σ:Sg} (h:t∉ks) (hk:r7 ks σ0 σ):r7 ks σ0 (upd σ t d):=fun s hs=> by
 have:s≠t:=fun e=> h (e ▸hs)
 simp only[upd,this,if_false]
 exact hk s hs
theorem aA {X:Type} (ks hk:List Nat) (len:Nat) (P:Nat->X->Prop) (sl:X->List (Nat×D)) (hp:X->List (Nat×Res)) (x0:X) {id i n c id2 i2:Nat} {body:CC}
 (hi:σ i= .v (.int .i64 0)) (hn:σ n= .v (.int .i64 len)) (hlen: (len:Int)<=9223372036854775807) (hd: ([i,n,c,i2] ++ks).Nodup) (hd2: ∀x,∀p∈sl x,p.1∉ [i,n,c,i2])
 (h0:P 0 x0) (hs:qi (sl x0) σ) (hh:ti (hp x0) H)
 (hr: ∀k x,k < len->P k x->vc S body (VF id id2 i n len (fun y=> Oc σ H ks hk (sl y) (hp y)) (P (k+1)) k K) (qg ((i, .v (.int .i64 k)):: (n, .v (.int .i64 len))::sl x) (iM ks σ)) (gk (hp x) (jo hk H)))
 (he: ∀x,P len x->K .norm (upd (qg ((i, .v (.int .i64 len)):: (n, .v (.int .i64 len))::sl x) (iM ks σ)) c (.v (.bool false))) (gk (hp x) (jo hk H))):vc S (aP id i n c id2 body i2) K σ H:=by
 have ne:i≠n/\i≠c/\i≠i2/\n≠c/\n≠i2/\c≠i2/\i∉ks/\n∉ks/\c∉ks/\i2∉ks:=by
  simp only[List.cons_append,List.nil_append,List.nodup_cons,List.mem_cons,not_or] at hd
  obtain⟨⟨h1,h2,h3,h4⟩,⟨h5,h6,h7⟩,⟨h8,h9⟩,h10,_⟩:=hd
  exact⟨h1,h2,h3,h5,h6,h8,h4,h7,h9,h10⟩
 obtain⟨n1,n2,n3,n4,n5,n6,m1,m2,m3,m4⟩:=ne
 have sn: ∀x t,t∈ [i,n,c,i2]-> ∀p∈sl x,p.1≠t:=fun x t ht p hp e=> hd2 x p hp (e ▸ht)
 let st:Nat×X->Sg:=fun x=> qg ((i, .v (.int .i64 x.1)):: (n, .v (.int .i64 len))::sl x.2) (iM ks σ)
 let sh:Nat×X->aa:=fun x=> gk (hp x.2) (jo hk H)
 have back: ∀ (k:Nat) (y:X) (σ':Sg) (H':aa),σ' i= .v (.int .i64 k)->σ' n= .v (.int .i64 len)->Oc σ H ks hk (sl y) (hp y) σ' H'->Wk σ' H' (st (k,y)) (sh (k,y)):=by
  intro k y σ' H' e1 e2 ⟨b1,b2,b3,b4⟩
  exact ya (sl:=(i, .v (.int .i64 k)):: (n, .v (.int .i64 len))::sl y) ⟨by rw[e1];exact yD _,by rw[e2];exact yD _,b1⟩ b2 b3 b4
 unfold aP
 rw[JE,JD]
 refine⟨⟨Nat×X,fun x=> x.1<=len/\P x.1 x.2,st,sh,fun x=> len -x.1⟩,⟨(0,x0),⟨Nat.zero_le _,h0⟩,back 0 x0 σ H hi hn ⟨hs,fun _ _=> rfl,hh,fun _ _=> rfl⟩⟩,?_⟩
 rintro⟨k,x⟩ ⟨hkl,hP⟩
 have si:st (k,x) i= .v (.int .i64 k):=by simp[st,qg,upd]
 have sN:st (k,x) n= .v (.int .i64 len):=by
  have: ¬n=i:=fun e=> n1 e.symm
  simp[st,qg,upd,this]
 let inv:ZM:=⟨Nat×X,fun x=> x.1<=len/\P x.1 x.2,st,sh,fun x=> len -x.1⟩
 change vc S _ (Qs inv (k,x) (Q9 id K)) (st (k,x)) (sh (k,x))
 rw[Lu,XD,YO,qcn]
 simp only[Rv,si,sN,Zm,true_and,Ue,Zn]
 rw[XB,FC,Lu,qb5]
 have sc:ev (fh (st (k,x)) (some c) (.v (.bool (decide ((k:Int) < len))))) (.tmp c)= .v (.bool (decide ((k:Int) < len))):=by simp[upd]
 rw[sc,Zb]
 refine⟨fun hlt=> ?_,fun hge=> ?_⟩
 ·have hlt':k < len:=by simpa using hlt
  rw[Y7,FC,Lu,JE,TK]
  refine⟨st (k,x),sh (k,x),Xm (fun t=> ?_) (fun _ _ h=> .inl h),?_⟩
  ·rw[Ms,qaR]
   split
   ·rename_i e
    subst e
    have e1:st (k,x) t= .any:=by
     have hsl: ∀ (l:List (Nat×D)),(∀p∈l,p.1≠t)->qg l (iM ks σ) t= .any:=by
      intro l
      induction l with
      | nil=> intro _;rw[N5,EU,if_neg m3]
      | cons p l ih=>
        obtain⟨s,d⟩:=p
        intro h
        have: ¬t=s:=fun e=> h (s,d) (by simp) e.symm
        simp only[qg,upd,this,if_false]
        exact ih fun p hp=> h p (by simp[hp])
     have h1: ¬t=i:=fun e=> n2 e.symm
     have h2: ¬t=n:=fun e=> n4 e.symm
     simp only[st,qg,upd,h1,h2,if_false]
     exact hsl _ (sn x t (by simp))
    rw[e1]
    exact trivial
   ·exact yD _
  ·refine sa body _ _ (fun e σ' H' h=> ?_) (hr k x hlt' hP)
   have fin: ∀σ' H',(σ' i= .v (.int .i64 k)/\σ' n= .v (.int .i64 len)/\ ∃y,P (k+1) y/\Oc σ H ks hk (sl y) (hp y) σ' H')->
    RS S (.reg [.op (some i2) none (.arith .add (.tmp i) (.const (.int .i64 1))), .op (some i) none (.mv (.tmp i2))]) (Qs inv (k,x) (Q9 id K)) .norm σ' H':=by
    intro σ' H' ⟨e1,e2,y,hy,hb⟩
    rw[FC,XD,YO,WQ]
    simp only[Rv,Vr,qaO,e1,Uw,Wg,true_and,Rb,InR]
    refine⟨by omega,?_⟩
    rw[YO,qjm]
    dsimp only
    rw[XB]
    simp only[Rv,Ms]
    rw[Za]
    refine⟨(k+1,y),⟨by show k+1<=len;omega,hy⟩,back (k+1) y _ _ ?_ ?_ ?_,by show len - (k+1) < len -k;omega⟩
    ·simp[upd]
    ·have h1: ¬n=i:=fun e=> n1 e.symm
     simp[upd,h1,n5,e2]
    ·exact⟨xh (sn y i (by simp)) (xh (sn y i2 (by simp)) hb.1),HE m1 (HE m4 hb.2.1),hb.2.2.1,hb.2.2.2⟩
   cases e with
   | norm=> rw[Zd];exact fin σ' H' h
   | ret=>
     rw[TL,Y8,Y9,TL]
     exact h
   | ex j=>
     rw[NS]
     have h:if j=id2 then σ' i= .v (.int .i64 k)/\σ' n= .v (.int .i64 len)/\ ∃y,P (k+1) y/\Oc σ H ks hk (sl y) (hp y) σ' H' else if j=id then K .norm σ' H' else K (.ex j) σ' H':=h
     split
     ·rename_i e;rw[if_pos e] at h;exact fin σ' H' h
     ·rename_i e;rw[if_neg e] at h
      rw[TI,TJ,NS]
      exact h
 ·have hge':k=len:=by
   have: ¬ ((k:Int) < len):=by simpa using hge
   have:k<=len:=hkl
   omega
  subst hge'
  rw[Zc,TI,TJ,NS,if_pos rfl]
  have:decide ((k:Int) < k)=false:=by simp
  rw[this]
  exact he x hP
end
end Go.Gv
