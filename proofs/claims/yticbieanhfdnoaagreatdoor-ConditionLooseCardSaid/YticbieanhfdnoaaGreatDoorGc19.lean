/- A part of the framework and of the walks: T11 T12. -/
import Derived.Test.YticbieanhfdnoaaGreatDoorGc18
set_option linter.unusedSimpArgs false
set_option linter.unusedVariables false

namespace Go.Gv
open Cod (enc dec)
@[simp] theorem Vl (H:aa) (x y:Value):FrzTo H (.v x) (.v y)=(x=y):=by
 refine propext ⟨fun h=> ?_,fun h=> h ▸ .same _⟩
 cases h;rfl
@[simp] theorem XX (H:aa) (d:D):FrzTo H d d=True:=propext ⟨fun _=> trivial,fun _=> .same d⟩
@[simp] theorem qc9 (H:aa) (n:Nat) (es:List D):FrzTo H (.v (.slice none 0 0)) (.list n es)=(es= []):=by
 refine propext ⟨fun h=> ?_,fun h=> h ▸ .nil n⟩
 cases h;rfl
theorem Qa {H:aa} {a b a' b':D} (h1:FrzTo H a a') (h2:FrzTo H b b'):FrzTo H (.tup [a,b]) (.tup [a',b']):=
 .tup rfl fun k c c' hc hc'=> by
  match k with
  | 0=> simp at hc hc';subst hc;subst hc';exact h1
  | 1=> simp at hc hc';subst hc;subst hc';exact h2
  | k+2=> simp at hc
theorem P9 {H:aa} {a b c a' b' c':D} (h1:FrzTo H a a') (h2:FrzTo H b b') (h3:FrzTo H c c'):FrzTo H (.tup [a,b,c]) (.tup [a',b',c']):=
 .tup rfl fun k d d' hc hc'=> by
  match k with
  | 0=> simp at hc hc';subst hc;subst hc';exact h1
  | 1=> simp at hc hc';subst hc;subst hc';exact h2
  | 2=> simp at hc hc';subst hc;subst hc';exact h3
  | k+3=> simp at hc
section
variable {P:Program} {S:Nat→Spc} {f:Nat} {im:List Nat} {cc:CC} {rs:List au} {N:Nat}
end
end Go.Gv

namespace Go.Gv
open Cod (enc dec)
structure gK (X:Type) where
 dec:List D→Option X
 view:X→List D
 le: ∀ds x,dec ds=some x→LeL ds (view x)
def cv {X Y:Type} (A:gK X) (pre:X→Prop) (er:Y→D) (post:X→Y→Prop):Spc:=MU A.dec pre fun x r=> ∃y,r=er y∧post x y
def iN {X:Type} (o:Option X) (k:X→Prop):Prop:=match o with | some x=> k x | none=> False
@[congr] theorem Xo {X:Type} {o o':Option X} {k:X→Prop} (h:o=o'):iN o k=iN o' k:=by subst h;rfl
@[simp] theorem ZN {X:Type} (x:X) (k:X→Prop):iN (some x) k=k x:=id rfl
@[simp] theorem pN {X Y:Type} (A:gK X) (pre:X→Prop) (er:Y→D) (post:X→Y→Prop) (d:Nat) (ds:List D) (H:aa) (K:D→aa→Prop):
 (cv A pre er post).pt d ds H K=iN (A.dec ds) fun x=> pre x∧ ∀y,post x y→K (er y) H:=by
 refine propext ⟨fun h=> ?_,fun h=> ?_⟩
 ·obtain⟨⟨x,h1,h2⟩,h3⟩:=h
  rw[h1]
  refine⟨h2,fun y hy=> h3 _ fun x' hx' _=> ?_⟩
  rw[h1] at hx'
  cases hx'
  exact⟨y,rfl,hy⟩
 ·cases hd:A.dec ds with
  | none=> rw[hd] at h;exact h.elim
  | some x=>
    rw[hd] at h
    refine Mi x hd h.1 ?_
    rintro r ⟨y,rfl,hy⟩
    exact h.2 y hy
@[simp] theorem WP {X Y:Type} (A:gK X) (pre:X→Prop) (er:Y→D) (post:X→Y→Prop) (dst:Option Nat) (ds:List D) (H:aa) (K:D→aa→Prop):
 K5 dst (cv A pre er post) ds H K=iN (A.dec ds) fun x=> pre x∧ ∀y,post x y→K (er y) H:=pN A pre er post 0 ds H K
def Fin {Y:Type} (er:Y→D) (q:Y→Prop) (r:D) (H':aa):Prop:= ∃y,FrzTo H' r (er y)∧q y
theorem dE {Y:Type} {er:Y→D} {q:Y→Prop} {r:D} {H':aa} (y:Y) (h:FrzTo H' r (er y)) (hq:q y):Fin er q r H':=⟨y,h,hq⟩
@[simp] theorem XZ (q:Int→Prop) (n:Int) (H':aa):Fin enc q (.v (.int .i64 n)) H'=q n:=by
 simp[Fin,Qr]
@[simp] theorem Vp (q:Bool→Prop) (n:Bool) (H':aa):Fin enc q (.v (.bool n)) H'=q n:=by
 refine propext ⟨fun⟨y,h1,h2⟩=> ?_,fun h=> ⟨n, .same _,h⟩⟩
 rw[N3,Vl] at h1
 cases h1
 exact h2
@[simp] theorem XY (q:ByteArray→Prop) (n:ByteArray) (H':aa):Fin enc q (.v (.string n)) H'=q n:=by
 refine propext ⟨fun⟨y,h1,h2⟩=> ?_,fun h=> ⟨n, .same _,h⟩⟩
 rw[Qq,Vl] at h1
 cases h1
 exact h2
def aN {X Y:Type} (cc:CC) (rs:List au) (S:Nat→Spc) (A:gK X) (pre:X→Prop) (er:Y→D) (post:X→Y→Prop):Prop:=
 ∀x,pre x→vc S cc (oJ rs fun r H'=> Fin er (post x) r H') (dC (A.view x)) df
theorem ac {P:Program} {S:Nat→Spc} {f:Nat} {im:List Nat} {cc:CC} {rs:List au} {N:Nat} {X Y:Type} {A:gK X} {pre:X→Prop} {er:Y→D} {post:X→Y→Prop}
 (hS: ∀f,Tri P f (S f).pt) (h:ay P f im cc rs N) (hN: ∀x,(A.view x).length≤N) (hw:aN cc rs S A pre er post):Tri P f (cv A pre er post).pt:=
 Ml hS h A.le hN fun x hp=> by
  refine pK cc _ _ (fun e σ H h=> ?_) (hw x hp)
  cases e with
  | ex i=> exact h
  | _=>
    simp only[oJ] at h ⊢
    have key: ∀ (rs:List au) (F G:List D→Prop),(∀ds,F ds→G ds)→q9 rs σ H F→q9 rs σ H G:=by
     intro rs
     induction rs with
     | nil=> exact fun F G hFG h=> hFG _ h
     | cons r rs ih=>
       intro F G hFG h
       cases r with
       | tmp t=> exact ih _ _ (fun ds h=> hFG _ h) h
       | cell t agg sz=> exact ym (fun d h=> ih _ _ (fun ds h=> hFG _ h) h) h
    exact key rs _ _ (fun ds ⟨y,h1,h2⟩=> ⟨_,h1,y,rfl,h2⟩) h
theorem lm {P : Program} {f : Nat} {fn : Func} {c : Code} (h : P.funcs[f]? = some fn) (hn : (fn.name == "runtime.NumGoroutine") = false) (hb : fn.body = some c) : gm P f := by
 intro args w
 have hn' : ¬ fn.name = "runtime.NumGoroutine" := by simpa using hn
 unfold callFunc
 simp[h,hn',hb]
theorem ap {P:Program} {f:Nat} {im:List Nat} {cc:CC} {rs:List au} {N:Nat} (qn:P.follows .mixedOrders=true)
 (h : ((P.funcs[f]?).bind fun g => if g.name == "runtime.NumGoroutine" then none else g.body.bind fun c => (aK P im g.ntmps c).bind fun cc => (g.results.toList.mapM (fY P)).bind fun rs => some (g.ntmps, cc, rs)) = some (N, bP cc, rs)) : ay P f im cc rs N := by
 cases hf:P.funcs[f]? with
 | none=> rw[hf] at h;cases h
 | some fn=>
   rw[hf] at h
   simp only[Option.bind_some] at h
   split at h
   ·cases h
   ·rename_i hn
    simp only[Option.bind_eq_some_iff,Option.some.injEq,Prod.mk.injEq] at h
    obtain⟨c,hb,q,hq,r,hr,rfl,rfl,rfl⟩:=h
    exact⟨qn,lm hf (by simpa using hn) hb,fn,c,hf,hb,rfl,hq,hr⟩
def a0:gK Unit:=⟨SF,fun _=> [],qhe⟩
def a1 (X:Type) [Cod X]:gK X:=⟨SE,fun x=> [enc x],qhd⟩
def a2 (X Y:Type) [Cod X] [Cod Y]:gK (X×Y):=⟨SD,fun x=> [enc x.1,enc x.2],qhc⟩
def a3 (X Y Z:Type) [Cod X] [Cod Y] [Cod Z]:gK (X×Y×Z):=⟨SC,fun x=> [enc x.1,enc x.2.1,enc x.2.2],qhb⟩
def a4 (X Y Z W:Type) [Cod X] [Cod Y] [Cod Z] [Cod W]:gK (X×Y×Z×W):=⟨SB,fun x=> [enc x.1,enc x.2.1,enc x.2.2.1,enc x.2.2.2],qha⟩
def aT {X:Type} (A:gK X):gK (List Int×X):=⟨fun ds=> match ds with | .tape L::r=> (A.dec r).map fun x=> (L,x) | _=> none,fun x=> .tape x.1::A.view x.2,fun ds x h=> by
 split at h
 ·simp only[Option.map_eq_some_iff] at h
  obtain⟨y,hy,rfl⟩:=h
  exact .cons (.same _) (A.le _ _ hy)
 ·cases h⟩
@[simp] theorem qek:a0.dec []=some ():=id rfl
@[simp] theorem SR {X:Type} [Cod X] (a:D): (a1 X).dec [a]=dec a:=id rfl
@[simp] theorem qej {X Y:Type} [Cod X] [Cod Y] (a b:D): (a2 X Y).dec [a,b]=(dec a).bind fun x=> (dec b).bind fun y=> some (x,y):=id rfl
@[simp] theorem qei {X Y Z:Type} [Cod X] [Cod Y] [Cod Z] (a b c:D): (a3 X Y Z).dec [a,b,c]=(dec a).bind fun x=> (dec b).bind fun y=> (dec c).bind fun z=> some (x,y,z):=id rfl
@[simp] theorem qeh {X Y Z W:Type} [Cod X] [Cod Y] [Cod Z] [Cod W] (a b c d:D): (a4 X Y Z W).dec [a,b,c,d]=(dec a).bind fun x=> (dec b).bind fun y=> (dec c).bind fun z=> (dec d).bind fun w=> some (x,y,z,w):=id rfl
@[simp] theorem qec {X:Type} (A:gK X) (L:List Int) (r:List D): (aT A).dec (.tape L::r)=(A.dec r).map fun x=> (L,x):=id rfl
@[simp] theorem Y5 (x:Unit):a0.view x= []:=id rfl
@[simp] theorem Y4 {X:Type} [Cod X] (x:X): (a1 X).view x= [enc x]:=id rfl
@[simp] theorem Y3 {X Y:Type} [Cod X] [Cod Y] (x:X) (y:Y): (a2 X Y).view (x,y)= [enc x,enc y]:=id rfl
@[simp] theorem Y2 {X Y Z:Type} [Cod X] [Cod Y] [Cod Z] (x:X) (y:Y) (z:Z): (a3 X Y Z).view (x,y,z)= [enc x,enc y,enc z]:=id rfl
@[simp] theorem Y1 {X Y Z W:Type} [Cod X] [Cod Y] [Cod Z] [Cod W] (x:X) (y:Y) (z:Z) (w:W): (a4 X Y Z W).view (x,y,z,w)= [enc x,enc y,enc z,enc w]:=id rfl
@[simp] theorem YW {X:Type} (A:gK X) (L:List Int) (x:X): (aT A).view (L,x)= .tape L::A.view x:=id rfl
attribute [simp] Cod.dec_enc
@[simp] theorem qdv (n:Int):dec (X:=Int) (.v (.int .i64 n))=some n:=id rfl
@[simp] theorem Yn (n:Bool):dec (X:=Bool) (.v (.bool n))=some n:=id rfl
@[simp] theorem qdt (n:ByteArray):dec (X:=ByteArray) (.v (.string n))=some n:=id rfl
@[simp] theorem qdu {X:Type} [Cod X]:dec (X:=List X) (.v (.slice none 0 0))=some []:=id rfl
@[simp] theorem Ym {X:Type} [Cod X] (n:Nat) (es:List D):dec (X:=List X) (.list n es)=if n=Cod.wd X then es.mapM (dec (X:=X)) else none:=id rfl
attribute [simp] wg
@[simp] theorem TD {X:Type} [Cod X] (l:List X):l.mapM (dec (X:=X) ∘enc)=some l:=by
 have:=wg l
 rwa [List.mapM_map] at this
def tG {Y Z:Type} [Cod Y] [Cod Z] (p:Y×Z):D:= .tup [enc p.1,enc p.2]
def TN {Y Z W:Type} [Cod Y] [Cod Z] [Cod W] (p:Y×Z×W):D:= .tup [enc p.1,enc p.2.1,enc p.2.2]
def Ka (_:Unit):D:= .tup []
@[simp] theorem qgt {Y Z:Type} [Cod Y] [Cod Z] (y:Y) (z:Z):tG (y,z)= .tup [enc y,enc z]:=id rfl
@[simp] theorem qgs {Y Z W:Type} [Cod Y] [Cod Z] [Cod W] (y:Y) (z:Z) (w:W):TN (y,z,w)= .tup [enc y,enc z,enc w]:=id rfl
@[simp] theorem X1 {Y Z:Type} [Cod Y] [Cod Z] (q:Y×Z→Prop) (a b:D) (H':aa):Fin tG q (.tup [a,b]) H'= ∃y z,FrzTo H' a (enc y)∧FrzTo H' b (enc z)∧q (y,z):=by
 refine propext ⟨fun⟨⟨y,z⟩,h1,h2⟩=> ?_,fun⟨y,z,h1,h2,h3⟩=> ⟨(y,z),Qa h1 h2,h3⟩⟩
 cases h1 with
 | same=> exact⟨y,z, .same _, .same _,h2⟩
 | tup hl h=> exact⟨y,z,h 0 _ _ rfl rfl,h 1 _ _ rfl rfl,h2⟩
@[simp] theorem X0 {Y Z W:Type} [Cod Y] [Cod Z] [Cod W] (q:Y×Z×W→Prop) (a b c:D) (H':aa):Fin TN q (.tup [a,b,c]) H'= ∃y z w,FrzTo H' a (enc y)∧FrzTo H' b (enc z)∧FrzTo H' c (enc w)∧q (y,z,w):=by
 refine propext ⟨fun⟨⟨y,z,w⟩,h1,h2⟩=> ?_,fun⟨y,z,w,h1,h2,h3,h4⟩=> ⟨(y,z,w),P9 h1 h2 h3,h4⟩⟩
 cases h1 with
 | same=> exact⟨y,z,w, .same _, .same _, .same _,h2⟩
 | tup hl h=> exact⟨y,z,w,h 0 _ _ rfl rfl,h 1 _ _ rfl rfl,h 2 _ _ rfl rfl,h2⟩
@[simp] theorem qgu (u:Unit):Ka u= .tup []:=id rfl
def nK:List (Nat×D)→Sg→Sg
 | [],σ=> σ
 | (t,d)::l,σ=> upd (nK l σ) t d
def eT:List (Nat×Res)→aa→aa
 | [],H=> H
 | (i,r)::l,H=> aj (eT l H) i (some r)
theorem Jt (σ:Sg):nK [] σ=σ:=id rfl
@[simp] theorem SQ (H:aa):eT [] H=H:=id rfl
@[simp] theorem qea (i:Nat) (r:Res) (l:List (Nat×Res)) (H:aa):eT ((i,r)::l) H=aj (eT l H) i (some r):=id rfl
def pH (ks:List Nat) (σ σ':Sg):Prop:= ∀t∈ks,σ' t=σ t
def sY (hk:List Nat) (H H':aa):Prop:= ∀i∈hk,H' i=H i
@[simp] theorem qcZ (σ σ':Sg):pH [] σ σ'=True:=by simp[pH]
@[simp] theorem qc0 (t:Nat) (ks:List Nat) (σ σ':Sg):pH (t::ks) σ σ'=(σ' t=σ t∧pH ks σ σ'):=by simp[pH]
@[simp] theorem XL (σ σ':aa):sY [] σ σ'=True:=by simp[sY]
@[simp] theorem XM (t:Nat) (ks:List Nat) (σ σ':aa):sY (t::ks) σ σ'=(σ' t=σ t∧sY ks σ σ'):=by simp[sY]
theorem A1 (ks:List Nat) (σ:Sg) (t:Nat):gY ks σ t=if t∈ks then σ t else .any:=by
 induction ks with
 | nil=> simp[Va]
 | cons s ks ih=>
   rw[Sb]
   simp only[upd,List.mem_cons]
   by_cases h:t=s
   ·simp[h]
   ·simp[h,ih]
theorem A2 (ks:List Nat) (σ:aa) (t:Nat):iG ks σ t=if t∈ks then σ t else none:=by
 induction ks with
 | nil=> simp
 | cons s ks ih=>
   rw[PY]
   simp only[aj,List.mem_cons]
   by_cases h:t=s
   ·simp[h]
   ·simp[h,ih]
theorem QR {σ σ':Sg} {H H':aa} (h1: ∀t,Jv (σ t) (σ' t)) (h2: ∀i r,H' i=some r→H i=some r∨isNilRow r):Wk σ H σ' H':=by
 intro E a w hst
 obtain⟨hd,hN,tp,hw,hr⟩:=hst
 have hm:=hw.sub h2
 exact⟨hd,hN,tp,hm.1,fun t=> Rh (h1 t) (hm.2 _ _ (hr t))⟩
theorem vG (d:D):Jv d d:=by simp
theorem vg {σ0 σ:Sg} {H0 H:aa} {ks hk:List Nat} {sl:List (Nat×D)} {hp:List (Nat×Res)} (h1:nM sl σ) (h2:pH ks σ0 σ) (h3:qT hp H) (h4:sY hk H0 H):
 Wk σ H (nK sl (gY ks σ0)) (eT hp (iG hk H0)):=by
 refine QR (fun t=> ?_) (fun i r=> ?_)
 ·induction sl with
  | nil=>
    rw[Jt,A1]
    split
    ·rename_i h;rw[←h2 t h];exact vG _
    ·exact trivial
  | cons p sl ih=>
    obtain⟨s,d⟩:=p
    simp only[nK,upd]
    split
    ·rename_i e;subst e;exact h1.1
    ·exact ih h1.2
 ·induction hp with
  | nil=>
    rw[SQ,A2]
    split
    ·rename_i h;rw[←h4 i h];exact .inl
    ·intro h;cases h
  | cons p hp ih=>
    obtain⟨s,d⟩:=p
    simp only[eT,aj]
    split
    ·rename_i e;subst e;intro h;cases h;exact h3.1
    ·exact ih h3.2
def JD (σ0:Sg) (H0:aa) (ks hk:List Nat) (sl:List (Nat×D)) (hp:List (Nat×Res)) (σ:Sg) (H:aa):Prop:=nM sl σ∧pH ks σ0 σ∧qT hp H∧sY hk H0 H
@[simp] theorem YO (σ0:Sg) (H0:aa) (ks hk:List Nat) (sl:List (Nat×D)) (hp:List (Nat×Res)) (σ:Sg) (H:aa):JD σ0 H0 ks hk sl hp σ H=(nM sl σ∧pH ks σ0 σ∧qT hp H∧sY hk H0 H):=id rfl
def L6 {X:Type} (P:X→Prop) (B:X→Sg→aa→Prop) (m:X→Nat) (x:X) (K:Ex→Sg→aa→Prop):Ex→Sg→aa→Prop:=fun e σ' H'=> match e with
 | .norm=> ∃y,P y∧B y σ' H'∧m y < m x
 | e=> K e σ' H'
@[simp ↓] theorem Zb {X:Type} (P:X→Prop) (B:X→Sg→aa→Prop) (m:X→Nat) (x:X) (K:Ex→Sg→aa→Prop) (σ':Sg) (H':aa):L6 P B m x K .norm σ' H'= ∃y,P y∧B y σ' H'∧m y < m x:=id rfl
@[simp ↓] theorem Y9 {X:Type} (P:X→Prop) (B:X→Sg→aa→Prop) (m:X→Nat) (x:X) (K:Ex→Sg→aa→Prop) (i:Nat) (σ':Sg) (H':aa):L6 P B m x K (.ex i) σ' H'=K (.ex i) σ' H':=id rfl
@[simp ↓] theorem Za {X:Type} (P:X→Prop) (B:X→Sg→aa→Prop) (m:X→Nat) (x:X) (K:Ex→Sg→aa→Prop) (σ':Sg) (H':aa):L6 P B m x K .ret σ' H'=K .ret σ' H':=id rfl
section
variable {S:Nat→Spc} {K:Ex→Sg→aa→Prop} {σ:Sg} {H:aa}
theorem bq {X:Type} (ks hk:List Nat) (P:X→Prop) (sl:X→List (Nat×D)) (hp:X→List (Nat×Res)) (m:X→Nat) (x0:X) {k:Nat} {b:CC} (h0:P x0) (hs:nM (sl x0) σ) (hh:qT (hp x0) H)
 (hr: ∀x,P x→vc S b (L6 P (fun y=> JD σ H ks hk (sl y) (hp y)) m x K) (nK (sl x) (gY ks σ)) (eT (hp x) (iG hk H))):vc S (.loop k b) K σ H:=by
 rw[Fb]
 refine⟨⟨X,P,fun x=> nK (sl x) (gY ks σ),fun x=> eT (hp x) (iG hk H),m⟩,⟨x0,h0,vg hs (fun _ _=> rfl) hh (fun _ _=> rfl)⟩,fun x hx=> pK b _ _ (fun e σ' H' h=> ?_) (hr x hx)⟩
 cases e with
 | norm=>
   obtain⟨y,h1,h2,h3⟩:=h
   exact⟨y,h1,vg h2.1 h2.2.1 h2.2.2.1 h2.2.2.2,h3⟩
 | ex i=> exact h
 | ret=> exact h
def Nj (Q:Sg→aa→Prop) (K:Ex→Sg→aa→Prop):Ex→Sg→aa→Prop:=fun e σ' H'=> match e with
 | .norm=> Q σ' H'
 | e=> K e σ' H'
@[simp ↓] theorem Z3 (Q:Sg→aa→Prop) (σ':Sg) (H':aa):Nj Q K .norm σ' H'=Q σ' H':=id rfl
@[simp ↓] theorem Z2 (Q:Sg→aa→Prop) (σ':Sg) (H':aa):Nj Q K .ret σ' H'=K .ret σ' H':=id rfl
def eC (k:Nat) (a b:CC):CC:= .seq a (.cut k b)
theorem cS {X:Type} (ks hk:List Nat) (P:X→Prop) (sl:X→List (Nat×D)) (hp:X→List (Nat×Res)) {k:Nat} {a b:CC}
 (ha:vc S a (Nj (fun σ' H'=> ∃x,P x∧JD σ H ks hk (sl x) (hp x) σ' H') K) σ H)
 (hb: ∀x,P x→vc S b K (nK (sl x) (gY ks σ)) (eT (hp x) (iG hk H))):vc S (eC k a b) K σ H:=by
 unfold eC
 rw[He]
 refine pK a _ _ (fun e σ' H' h=> ?_) ha
 cases e with
 | norm=>
   obtain⟨x,h1,h2⟩:=h
   rw[By,N8]
   exact⟨_,_,vg h2.1 h2.2.1 h2.2.2.1 h2.2.2.2,hb x h1⟩
 | ex i=> exact h
 | ret=> exact h
def aw (id i n c id2:Nat) (body:CC) (i2:Nat):CC:=
 .block id (.loop 0 (.seq (.reg [.op (some c) none (.cmp .lss (.tmp i) (.tmp n))]) (.seq (.ite (.tmp c) .skip (.exit id)) (.seq (.block id2 (.cut 0 body)) (.reg [.op (some i2) none (.arith .add (.tmp i) (.const (.int .i64 1))), .op (some i) none (.mv (.tmp i2))])))))
def RR {X:Type} (id id2 i n:Nat) (len:Nat) (B:X→Sg→aa→Prop) (P:X→Prop) (k:Nat) (K:Ex→Sg→aa→Prop):Ex→Sg→aa→Prop:=fun e σ' H'=> match e with
 | .norm=> σ' i= .v (.int .i64 k)∧σ' n= .v (.int .i64 len)∧ ∃y,P y∧B y σ' H'
 | .ex j=> if j=id2 then σ' i= .v (.int .i64 k)∧σ' n= .v (.int .i64 len)∧ ∃y,P y∧B y σ' H' else if j=id then K .norm σ' H' else K (.ex j) σ' H'
 | .ret=> K .ret σ' H'
@[simp ↓] theorem ZD {X:Type} (id id2 i n:Nat) (len:Nat) (B:X→Sg→aa→Prop) (P:X→Prop) (k:Nat) (σ':Sg) (H':aa):RR id id2 i n len B P k K .norm σ' H'=(σ' i= .v (.int .i64 k)∧σ' n= .v (.int .i64 len)∧ ∃y,P y∧B y σ' H'):=_root_.id rfl
@[simp ↓] theorem ZC {X:Type} (id id2 i n:Nat) (len:Nat) (B:X→Sg→aa→Prop) (P:X→Prop) (k:Nat) (σ':Sg) (H':aa):RR id id2 i n len B P k K .ret σ' H'=K .ret σ' H':=_root_.id rfl
theorem uA {t:Nat} {d:D} : ∀ {sl:List (Nat×D)} {σ:Sg},(∀p∈sl,p.1≠t)→nM sl σ→nM sl (upd σ t d)
 | [],_,_,_=> trivial
 | (s,e)::sl,σ,h,hm=> by
  refine⟨?_,uA (fun p hp=> h p (by simp[hp])) hm.2⟩
  have:s≠t:=h (s,e) (by simp)
  simp only[upd,this,if_false]
  exact hm.1
theorem Dl {t:Nat} {d:D} {ks:List Nat} {σ0 σ:Sg} (h:t∉ks) (hk:pH ks σ0 σ):pH ks σ0 (upd σ t d):=fun s hs=> by
 have:s≠t:=fun e=> h (e ▸hs)
 simp only[upd,this,if_false]
 exact hk s hs
theorem aq {X:Type} (ks hk:List Nat) (len:Nat) (P:Nat→X→Prop) (sl:X→List (Nat×D)) (hp:X→List (Nat×Res)) (x0:X) {id i n c id2 i2:Nat} {body:CC}
 (hi:σ i= .v (.int .i64 0)) (hn:σ n= .v (.int .i64 len)) (hlen: (len:Int)≤9223372036854775807) (hd: ([i,n,c,i2] ++ks).Nodup) (hd2: ∀x,∀p∈sl x,p.1∉ [i,n,c,i2])
 (h0:P 0 x0) (hs:nM (sl x0) σ) (hh:qT (hp x0) H)
 (hr: ∀k x,k < len→P k x→vc S body (RR id id2 i n len (fun y=> JD σ H ks hk (sl y) (hp y)) (P (k+1)) k K) (nK ((i, .v (.int .i64 k)):: (n, .v (.int .i64 len))::sl x) (gY ks σ)) (eT (hp x) (iG hk H)))
 (he: ∀x,P len x→K .norm (upd (nK ((i, .v (.int .i64 len)):: (n, .v (.int .i64 len))::sl x) (gY ks σ)) c (.v (.bool false))) (eT (hp x) (iG hk H))):vc S (aw id i n c id2 body i2) K σ H:=by
 have ne:i≠n∧i≠c∧i≠i2∧n≠c∧n≠i2∧c≠i2∧i∉ks∧n∉ks∧c∉ks∧i2∉ks:=by
  simp only[List.cons_append,List.nil_append,List.nodup_cons,List.mem_cons,not_or] at hd
  obtain⟨⟨h1,h2,h3,h4⟩,⟨h5,h6,h7⟩,⟨h8,h9⟩,h10,_⟩:=hd
  exact⟨h1,h2,h3,h5,h6,h8,h4,h7,h9,h10⟩
 obtain⟨n1,n2,n3,n4,n5,n6,m1,m2,m3,m4⟩:=ne
 have sn: ∀x t,t∈ [i,n,c,i2]→ ∀p∈sl x,p.1≠t:=fun x t ht p hp e=> hd2 x p hp (e ▸ht)
 -- the state at the loop's head
 let st:Nat×X→Sg:=fun x=> nK ((i, .v (.int .i64 x.1)):: (n, .v (.int .i64 len))::sl x.2) (gY ks σ)
 let sh:Nat×X→aa:=fun x=> eT (hp x.2) (iG hk H)
 have back: ∀ (k:Nat) (y:X) (σ':Sg) (H':aa),σ' i= .v (.int .i64 k)→σ' n= .v (.int .i64 len)→JD σ H ks hk (sl y) (hp y) σ' H'→Wk σ' H' (st (k,y)) (sh (k,y)):=by
  intro k y σ' H' e1 e2 ⟨b1,b2,b3,b4⟩
  exact vg (sl:=(i, .v (.int .i64 k)):: (n, .v (.int .i64 len))::sl y) ⟨by rw[e1];exact vG _,by rw[e2];exact vG _,b1⟩ b2 b3 b4
 unfold aw
 rw[Fc,Fb]
 refine⟨⟨Nat×X,fun x=> x.1≤len∧P x.1 x.2,st,sh,fun x=> len -x.1⟩,⟨(0,x0),⟨Nat.zero_le _,h0⟩,back 0 x0 σ H hi hn ⟨hs,fun _ _=> rfl,hh,fun _ _=> rfl⟩⟩,?_⟩
 rintro⟨k,x⟩ ⟨hkl,hP⟩
 have si:st (k,x) i= .v (.int .i64 k):=by simp[st,nK,upd]
 have sN:st (k,x) n= .v (.int .i64 len):=by
  have: ¬n=i:=fun e=> n1 e.symm
  simp[st,nK,upd,this]
 let inv:Tc:=⟨Nat×X,fun x=> x.1≤len∧P x.1 x.2,st,sh,fun x=> len -x.1⟩
 change vc S _ (Lk inv (k,x) (LS id K)) (st (k,x)) (sh (k,x))
 rw[He,Re,Sa,VX]
 simp only[Mh,si,sN,SG,true_and,Ol,SH]
 rw[Ra,By,He,VD]
 have sc:ev (eA (st (k,x)) (some c) (.v (.bool (decide ((k:Int) < len))))) (.tmp c)= .v (.bool (decide ((k:Int) < len))):=by simp[upd]
 rw[sc,Sw]
 refine⟨fun hlt=> ?_,fun hge=> ?_⟩
 ·have hlt':k < len:=by simpa using hlt
  rw[Sr,By,He,Fc,N8]
  refine⟨st (k,x),sh (k,x),QR (fun t=> ?_) (fun _ _ h=> .inl h),?_⟩
  ·rw[H4,Uo]
   split
   ·rename_i e
    subst e
    have e1:st (k,x) t= .any:=by
     have hsl: ∀ (l:List (Nat×D)),(∀p∈l,p.1≠t)→nK l (gY ks σ) t= .any:=by
      intro l
      induction l with
      | nil=> intro _;rw[Jt,A1,if_neg m3]
      | cons p l ih=>
        obtain⟨s,d⟩:=p
        intro h
        have: ¬t=s:=fun e=> h (s,d) (by simp) e.symm
        simp only[nK,upd,this,if_false]
        exact ih fun p hp=> h p (by simp[hp])
     have h1: ¬t=i:=fun e=> n2 e.symm
     have h2: ¬t=n:=fun e=> n4 e.symm
     simp only[st,nK,upd,h1,h2,if_false]
     exact hsl _ (sn x t (by simp))
    rw[e1]
    exact trivial
   ·exact vG _
  ·refine pK body _ _ (fun e σ' H' h=> ?_) (hr k x hlt' hP)
   have fin: ∀σ' H',(σ' i= .v (.int .i64 k)∧σ' n= .v (.int .i64 len)∧ ∃y,P (k+1) y∧JD σ H ks hk (sl y) (hp y) σ' H')→
    Ii S (.reg [.op (some i2) none (.arith .add (.tmp i) (.const (.int .i64 1))), .op (some i) none (.mv (.tmp i2))]) (Lk inv (k,x) (LS id K)) .norm σ' H':=by
    intro σ' H' ⟨e1,e2,y,hy,hb⟩
    rw[By,Re,Sa,Qz]
    simp only[Mh,Pl,Uk,e1,OD,P1,true_and,LV,InR]
    refine⟨by omega,?_⟩
    rw[Sa,qdG]
    dsimp only
    rw[Ra]
    simp only[Mh,H4]
    rw[Sv]
    refine⟨(k+1,y),⟨by show k+1≤len;omega,hy⟩,back (k+1) y _ _ ?_ ?_ ?_,by show len - (k+1) < len -k;omega⟩
    ·simp[upd]
    ·have h1: ¬n=i:=fun e=> n1 e.symm
     simp[upd,h1,n5,e2]
    ·exact⟨uA (sn y i (by simp)) (uA (sn y i2 (by simp)) hb.1),Dl m1 (Dl m4 hb.2.1),hb.2.2.1,hb.2.2.2⟩
   cases e with
   | norm=> rw[Sy];exact fin σ' H' h
   | ret=>
     rw[N9,Ss,Su,N9]
     exact h
   | ex j=>
     rw[Jg]
     have h:if j=id2 then σ' i= .v (.int .i64 k)∧σ' n= .v (.int .i64 len)∧ ∃y,P (k+1) y∧JD σ H ks hk (sl y) (hp y) σ' H' else if j=id then K .norm σ' H' else K (.ex j) σ' H':=h
     split
     ·rename_i e;rw[if_pos e] at h;exact fin σ' H' h
     ·rename_i e;rw[if_neg e] at h
      rw[N6,N7,Jg]
      exact h
 ·have hge':k=len:=by
   have: ¬ ((k:Int) < len):=by simpa using hge
   have:k≤len:=hkl
   omega
  subst hge'
  rw[Sx,N6,N7,Jg,if_pos rfl]
  have:decide ((k:Int) < k)=false:=by simp
  rw[this]
  exact he x hP
end
end Go.Gv
