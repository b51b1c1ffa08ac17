/- A part of the framework and of the walks: T11 T12. -/
import Derived.Test.YticbieanhfdnoaaGreatDoorGb15
set_option linter.unusedSimpArgs false
set_option linter.unusedVariables false

namespace Go.Gv
open Cod (enc dec)
@[simp] theorem RS (H:aa) (x y:Value):FrzTo H (.v x) (.v y)=(x=y):=by
 refine propext ⟨fun h=> ?_,fun h=> h ▸ .same _⟩
 cases h;rfl
@[simp] theorem Ut (H:aa) (d:D):FrzTo H d d=True:=propext ⟨fun _=> trivial,fun _=> .same d⟩
@[simp] theorem ZS (H:aa) (n:Nat) (es:List D):FrzTo H (.v (.slice none 0 0)) (.list n es)=(es= []):=by
 refine propext ⟨fun h=> ?_,fun h=> h ▸ .nil n⟩
 cases h;rfl
theorem Nn {H:aa} {a b a' b':D} (h1:FrzTo H a a') (h2:FrzTo H b b'):FrzTo H (.tup [a,b]) (.tup [a',b']):=
 .tup rfl fun k c c' hc hc'=> by
  match k with
  | 0=> simp at hc hc';subst hc;subst hc';exact h1
  | 1=> simp at hc hc';subst hc;subst hc';exact h2
  | k+2=> simp at hc
theorem Nm {H:aa} {a b c a' b' c':D} (h1:FrzTo H a a') (h2:FrzTo H b b') (h3:FrzTo H c c'):FrzTo H (.tup [a,b,c]) (.tup [a',b',c']):=
 .tup rfl fun k d d' hc hc'=> by
  match k with
  | 0=> simp at hc hc';subst hc;subst hc';exact h1
  | 1=> simp at hc hc';subst hc;subst hc';exact h2
  | 2=> simp at hc hc';subst hc;subst hc';exact h3
  | k+3=> simp at hc
section
variable {P:Program} {S:Nat→Spc} {f:Nat} {im:List Nat} {cc:CC} {rs:List au} {N:Nat}
end
end Go.Gv

namespace Go.Gv
open Cod (enc dec)
structure gq (X:Type) where
 dec:List D→Option X
 view:X→List D
 le: ∀ds x,dec ds=some x→LeL ds (view x)
def cz {X Y:Type} (A:gq X) (pre:X→Prop) (er:Y→D) (post:X→Y→Prop):Spc:=KD A.dec pre fun x r=> ∃y,r=er y∧post x y
def il {X:Type} (o:Option X) (k:X→Prop):Prop:=match o with | some x=> k x | none=> False
@[congr] theorem TN {X:Type} {o o':Option X} {k:X→Prop} (h:o=o'):il o k=il o' k:=by subst h;rfl
@[simp] theorem Wr {X:Type} (x:X) (k:X→Prop):il (some x) k=k x:=id rfl
@[simp] theorem oR {X Y:Type} (A:gq X) (pre:X→Prop) (er:Y→D) (post:X→Y→Prop) (d:Nat) (ds:List D) (H:aa) (K:D→aa→Prop):
 (cz A pre er post).pt d ds H K=il (A.dec ds) fun x=> pre x∧ ∀y,post x y→K (er y) H:=by
 refine propext ⟨fun h=> ?_,fun h=> ?_⟩
 ·obtain⟨⟨x,h1,h2⟩,h3⟩:=h
  rw[h1]
  refine⟨h2,fun y hy=> h3 _ fun x' hx' _=> ?_⟩
  rw[h1] at hx'
  cases hx'
  exact⟨y,rfl,hy⟩
 ·cases hd:A.dec ds with
  | none=> rw[hd] at h;exact h.elim
  | some x=>
    rw[hd] at h
    refine JZ x hd h.1 ?_
    rintro r ⟨y,rfl,hy⟩
    exact h.2 y hy
@[simp] theorem Tn {X Y:Type} (A:gq X) (pre:X→Prop) (er:Y→D) (post:X→Y→Prop) (dst:Option Nat) (ds:List D) (H:aa) (K:D→aa→Prop):
 IU dst (cz A pre er post) ds H K=il (A.dec ds) fun x=> pre x∧ ∀y,post x y→K (er y) H:=oR A pre er post 0 ds H K
def Fin {Y:Type} (er:Y→D) (q:Y→Prop) (r:D) (H':aa):Prop:= ∃y,FrzTo H' r (er y)∧q y
theorem dK {Y:Type} {er:Y→D} {q:Y→Prop} {r:D} {H':aa} (y:Y) (h:FrzTo H' r (er y)) (hq:q y):Fin er q r H':=⟨y,h,hq⟩
@[simp] theorem Uv (q:Int→Prop) (n:Int) (H':aa):Fin enc q (.v (.int .i64 n)) H'=q n:=by
 simp[Fin,NC]
@[simp] theorem RW (q:Bool→Prop) (n:Bool) (H':aa):Fin enc q (.v (.bool n)) H'=q n:=by
 refine propext ⟨fun⟨y,h1,h2⟩=> ?_,fun h=> ⟨n, .same _,h⟩⟩
 rw[LA,RS] at h1
 cases h1
 exact h2
@[simp] theorem Uu (q:ByteArray→Prop) (n:ByteArray) (H':aa):Fin enc q (.v (.string n)) H'=q n:=by
 refine propext ⟨fun⟨y,h1,h2⟩=> ?_,fun h=> ⟨n, .same _,h⟩⟩
 rw[NB,RS] at h1
 cases h1
 exact h2
def aK {X Y:Type} (cc:CC) (rs:List au) (S:Nat→Spc) (A:gq X) (pre:X→Prop) (er:Y→D) (post:X→Y→Prop):Prop:=
 ∀x,pre x→vc S cc (qf rs fun r H'=> Fin er (post x) r H') (dN (A.view x)) di
theorem ac {P:Program} {S:Nat→Spc} {f:Nat} {im:List Nat} {cc:CC} {rs:List au} {N:Nat} {X Y:Type} {A:gq X} {pre:X→Prop} {er:Y→D} {post:X→Y→Prop}
 (hS: ∀f,Tri P f (S f).pt) (h:ay P f im cc rs N) (hN: ∀x,(A.view x).length≤N) (hw:aK cc rs S A pre er post):Tri P f (cz A pre er post).pt:=
 J2 hS h A.le hN fun x hp=> by
  refine oO cc _ _ (fun e σ H h=> ?_) (hw x hp)
  cases e with
  | ex i=> exact h
  | _=>
    simp only[qf] at h ⊢
    have key: ∀ (rs:List au) (F G:List D→Prop),(∀ds,F ds→G ds)→qg rs σ H F→qg rs σ H G:=by
     intro rs
     induction rs with
     | nil=> exact fun F G hFG h=> hFG _ h
     | cons r rs ih=>
       intro F G hFG h
       cases r with
       | tmp t=> exact ih _ _ (fun ds h=> hFG _ h) h
       | cell t agg sz=> exact wX (fun d h=> ih _ _ (fun ds h=> hFG _ h) h) h
    exact key rs _ _ (fun ds ⟨y,h1,h2⟩=> ⟨_,h1,y,rfl,h2⟩) h
theorem kC {P : Program} {f : Nat} {fn : Func} {c : Code} (h : P.funcs[f]? = some fn) (hn : (fn.name == "runtime.NumGoroutine") = false) (hb : fn.body = some c) : fY P f := by
 intro args w
 have hn' : ¬ fn.name = "runtime.NumGoroutine" := by simpa using hn
 unfold callFunc
 simp[h,hn',hb]
theorem ap {P:Program} {f:Nat} {im:List Nat} {cc:CC} {rs:List au} {N:Nat} (qo:P.follows .mixedOrders=true)
 (h : ((P.funcs[f]?).bind fun g => if g.name == "runtime.NumGoroutine" then none else g.body.bind fun c => (aI P im g.ntmps c).bind fun cc => (g.results.toList.mapM (fG P)).bind fun rs => some (g.ntmps, cc, rs)) = some (N, bH cc, rs)) : ay P f im cc rs N := by
 cases hf:P.funcs[f]? with
 | none=> rw[hf] at h;cases h
 | some fn=>
   rw[hf] at h
   simp only[Option.bind_some] at h
   split at h
   ·cases h
   ·rename_i hn
    simp only[Option.bind_eq_some_iff,Option.some.injEq,Prod.mk.injEq] at h
    obtain⟨c,hb,q,hq,r,hr,rfl,rfl,rfl⟩:=h
    exact⟨qo,kC hf (by simpa using hn) hb,fn,c,hf,hb,rfl,hq,hr⟩
def a0:gq Unit:=⟨PA,fun _=> [],qdM⟩
def a1 (X:Type) [Cod X]:gq X:=⟨Pz,fun x=> [enc x],qdL⟩
def a2 (X Y:Type) [Cod X] [Cod Y]:gq (X×Y):=⟨Py,fun x=> [enc x.1,enc x.2],qdK⟩
def a3 (X Y Z:Type) [Cod X] [Cod Y] [Cod Z]:gq (X×Y×Z):=⟨Px,fun x=> [enc x.1,enc x.2.1,enc x.2.2],qdJ⟩
def a4 (X Y Z W:Type) [Cod X] [Cod Y] [Cod Z] [Cod W]:gq (X×Y×Z×W):=⟨Pw,fun x=> [enc x.1,enc x.2.1,enc x.2.2.1,enc x.2.2.2],qdI⟩
def aT {X:Type} (A:gq X):gq (List Int×X):=⟨fun ds=> match ds with | .tape L::r=> (A.dec r).map fun x=> (L,x) | _=> none,fun x=> .tape x.1::A.view x.2,fun ds x h=> by
 split at h
 ·simp only[Option.map_eq_some_iff] at h
  obtain⟨y,hy,rfl⟩:=h
  exact .cons (.same _) (A.le _ _ hy)
 ·cases h⟩
@[simp] theorem qaY:a0.dec []=some ():=id rfl
@[simp] theorem PN {X:Type} [Cod X] (a:D): (a1 X).dec [a]=dec a:=id rfl
@[simp] theorem qaX {X Y:Type} [Cod X] [Cod Y] (a b:D): (a2 X Y).dec [a,b]=(dec a).bind fun x=> (dec b).bind fun y=> some (x,y):=id rfl
@[simp] theorem qaW {X Y Z:Type} [Cod X] [Cod Y] [Cod Z] (a b c:D): (a3 X Y Z).dec [a,b,c]=(dec a).bind fun x=> (dec b).bind fun y=> (dec c).bind fun z=> some (x,y,z):=id rfl
@[simp] theorem qaV {X Y Z W:Type} [Cod X] [Cod Y] [Cod Z] [Cod W] (a b c d:D): (a4 X Y Z W).dec [a,b,c,d]=(dec a).bind fun x=> (dec b).bind fun y=> (dec c).bind fun z=> (dec d).bind fun w=> some (x,y,z,w):=id rfl
@[simp] theorem qaS {X:Type} (A:gq X) (L:List Int) (r:List D): (aT A).dec (.tape L::r)=(A.dec r).map fun x=> (L,x):=id rfl
@[simp] theorem Vz (x:Unit):a0.view x= []:=id rfl
@[simp] theorem Vy {X:Type} [Cod X] (x:X): (a1 X).view x= [enc x]:=id rfl
@[simp] theorem Vx {X Y:Type} [Cod X] [Cod Y] (x:X) (y:Y): (a2 X Y).view (x,y)= [enc x,enc y]:=id rfl
@[simp] theorem Vw {X Y Z:Type} [Cod X] [Cod Y] [Cod Z] (x:X) (y:Y) (z:Z): (a3 X Y Z).view (x,y,z)= [enc x,enc y,enc z]:=id rfl
@[simp] theorem Vv {X Y Z W:Type} [Cod X] [Cod Y] [Cod Z] [Cod W] (x:X) (y:Y) (z:Z) (w:W): (a4 X Y Z W).view (x,y,z,w)= [enc x,enc y,enc z,enc w]:=id rfl
@[simp] theorem Vq {X:Type} (A:gq X) (L:List Int) (x:X): (aT A).view (L,x)= .tape L::A.view x:=id rfl
attribute [simp] Cod.dec_enc
@[simp] theorem qad (n:Int):dec (X:=Int) (.v (.int .i64 n))=some n:=id rfl
@[simp] theorem UT (n:Bool):dec (X:=Bool) (.v (.bool n))=some n:=id rfl
@[simp] theorem qab (n:ByteArray):dec (X:=ByteArray) (.v (.string n))=some n:=id rfl
@[simp] theorem qac {X:Type} [Cod X]:dec (X:=List X) (.v (.slice none 0 0))=some []:=id rfl
@[simp] theorem US {X:Type} [Cod X] (n:Nat) (es:List D):dec (X:=List X) (.list n es)=if n=Cod.wd X then es.mapM (dec (X:=X)) else none:=id rfl
attribute [simp] uY
@[simp] theorem Qm {X:Type} [Cod X] (l:List X):l.mapM (dec (X:=X) ∘enc)=some l:=by
 have:=uY l
 rwa [List.mapM_map] at this
def sy {Y Z:Type} [Cod Y] [Cod Z] (p:Y×Z):D:= .tup [enc p.1,enc p.2]
def Qu {Y Z W:Type} [Cod Y] [Cod Z] [Cod W] (p:Y×Z×W):D:= .tup [enc p.1,enc p.2.1,enc p.2.2]
def H3 (_:Unit):D:= .tup []
@[simp] theorem qc2 {Y Z:Type} [Cod Y] [Cod Z] (y:Y) (z:Z):sy (y,z)= .tup [enc y,enc z]:=id rfl
@[simp] theorem qc1 {Y Z W:Type} [Cod Y] [Cod Z] [Cod W] (y:Y) (z:Z) (w:W):Qu (y,z,w)= .tup [enc y,enc z,enc w]:=id rfl
@[simp] theorem Ux {Y Z:Type} [Cod Y] [Cod Z] (q:Y×Z→Prop) (a b:D) (H':aa):Fin sy q (.tup [a,b]) H'= ∃y z,FrzTo H' a (enc y)∧FrzTo H' b (enc z)∧q (y,z):=by
 refine propext ⟨fun⟨⟨y,z⟩,h1,h2⟩=> ?_,fun⟨y,z,h1,h2,h3⟩=> ⟨(y,z),Nn h1 h2,h3⟩⟩
 cases h1 with
 | same=> exact⟨y,z, .same _, .same _,h2⟩
 | tup hl h=> exact⟨y,z,h 0 _ _ rfl rfl,h 1 _ _ rfl rfl,h2⟩
@[simp] theorem Uw {Y Z W:Type} [Cod Y] [Cod Z] [Cod W] (q:Y×Z×W→Prop) (a b c:D) (H':aa):Fin Qu q (.tup [a,b,c]) H'= ∃y z w,FrzTo H' a (enc y)∧FrzTo H' b (enc z)∧FrzTo H' c (enc w)∧q (y,z,w):=by
 refine propext ⟨fun⟨⟨y,z,w⟩,h1,h2⟩=> ?_,fun⟨y,z,w,h1,h2,h3,h4⟩=> ⟨(y,z,w),Nm h1 h2 h3,h4⟩⟩
 cases h1 with
 | same=> exact⟨y,z,w, .same _, .same _, .same _,h2⟩
 | tup hl h=> exact⟨y,z,w,h 0 _ _ rfl rfl,h 1 _ _ rfl rfl,h 2 _ _ rfl rfl,h2⟩
@[simp] theorem qc3 (u:Unit):H3 u= .tup []:=id rfl
def mS:List (Nat×D)→Sg→Sg
 | [],σ=> σ
 | (t,d)::l,σ=> lQ (mS l σ) t d
def fR:List (Nat×Res)→aa→aa
 | [],H=> H
 | (i,r)::l,H=> aj (fR l H) i (some r)
theorem Hw (σ:Sg):mS [] σ=σ:=id rfl
@[simp] theorem PM (H:aa):fR [] H=H:=id rfl
@[simp] theorem qaQ (i:Nat) (r:Res) (l:List (Nat×Res)) (H:aa):fR ((i,r)::l) H=aj (fR l H) i (some r):=id rfl
def oJ (ks:List Nat) (σ σ':Sg):Prop:= ∀t∈ks,σ' t=σ t
def rT (hk:List Nat) (H H':aa):Prop:= ∀i∈hk,H' i=H i
@[simp] theorem ZI (σ σ':Sg):oJ [] σ σ'=True:=by simp[oJ]
@[simp] theorem ZJ (t:Nat) (ks:List Nat) (σ σ':Sg):oJ (t::ks) σ σ'=(σ' t=σ t∧oJ ks σ σ'):=by simp[oJ]
@[simp] theorem Uh (σ σ':aa):rT [] σ σ'=True:=by simp[rT]
@[simp] theorem Ui (t:Nat) (ks:List Nat) (σ σ':aa):rT (t::ks) σ σ'=(σ' t=σ t∧rT ks σ σ'):=by simp[rT]
theorem zF (ks:List Nat) (σ:Sg) (t:Nat):gE ks σ t=if t∈ks then σ t else .any:=by
 induction ks with
 | nil=> simp[RH]
 | cons s ks ih=>
   rw[Pa]
   simp only[lQ,List.mem_cons]
   by_cases h:t=s
   ·simp[h]
   ·simp[h,ih]
theorem zG (ks:List Nat) (σ:aa) (t:Nat):hU ks σ t=if t∈ks then σ t else none:=by
 induction ks with
 | nil=> simp
 | cons s ks ih=>
   rw[Nd]
   simp only[aj,List.mem_cons]
   by_cases h:t=s
   ·simp[h]
   ·simp[h,ih]
theorem NY {σ σ':Sg} {H H':aa} (h1: ∀t,Hx (σ t) (σ' t)) (h2: ∀i r,H' i=some r→H i=some r∨isNilRow r):Wk σ H σ' H':=by
 intro E a w hst
 obtain⟨hd,hN,tp,hw,hr⟩:=hst
 have hm:=hw.sub h2
 exact⟨hd,hN,tp,hm.1,fun t=> Om (h1 t) (hm.2 _ _ (hr t))⟩
theorem uB (d:D):Hx d d:=by simp
theorem ua {σ0 σ:Sg} {H0 H:aa} {ks hk:List Nat} {sl:List (Nat×D)} {hp:List (Nat×Res)} (h1:mU sl σ) (h2:oJ ks σ0 σ) (h3:pX hp H) (h4:rT hk H0 H):
 Wk σ H (mS sl (gE ks σ0)) (fR hp (hU hk H0)):=by
 refine NY (fun t=> ?_) (fun i r=> ?_)
 ·induction sl with
  | nil=>
    rw[Hw,zF]
    split
    ·rename_i h;rw[←h2 t h];exact uB _
    ·exact trivial
  | cons p sl ih=>
    obtain⟨s,d⟩:=p
    simp only[mS,lQ]
    split
    ·rename_i e;subst e;exact h1.1
    ·exact ih h1.2
 ·induction hp with
  | nil=>
    rw[PM,zG]
    split
    ·rename_i h;rw[←h4 i h];exact .inl
    ·intro h;cases h
  | cons p hp ih=>
    obtain⟨s,d⟩:=p
    simp only[fR,aj]
    split
    ·rename_i e;subst e;intro h;cases h;exact h3.1
    ·exact ih h3.2
def HC (σ0:Sg) (H0:aa) (ks hk:List Nat) (sl:List (Nat×D)) (hp:List (Nat×Res)) (σ:Sg) (H:aa):Prop:=mU sl σ∧oJ ks σ0 σ∧pX hp H∧rT hk H0 H
@[simp] theorem Vi (σ0:Sg) (H0:aa) (ks hk:List Nat) (sl:List (Nat×D)) (hp:List (Nat×Res)) (σ:Sg) (H:aa):HC σ0 H0 ks hk sl hp σ H=(mU sl σ∧oJ ks σ0 σ∧pX hp H∧rT hk H0 H):=id rfl
def JO {X:Type} (P:X→Prop) (B:X→Sg→aa→Prop) (m:X→Nat) (x:X) (K:Ex→Sg→aa→Prop):Ex→Sg→aa→Prop:=fun e σ' H'=> match e with
 | .norm=> ∃y,P y∧B y σ' H'∧m y < m x
 | e=> K e σ' H'
@[simp ↓] theorem VE {X:Type} (P:X→Prop) (B:X→Sg→aa→Prop) (m:X→Nat) (x:X) (K:Ex→Sg→aa→Prop) (σ':Sg) (H':aa):JO P B m x K .norm σ' H'= ∃y,P y∧B y σ' H'∧m y < m x:=id rfl
@[simp ↓] theorem VC {X:Type} (P:X→Prop) (B:X→Sg→aa→Prop) (m:X→Nat) (x:X) (K:Ex→Sg→aa→Prop) (i:Nat) (σ':Sg) (H':aa):JO P B m x K (.ex i) σ' H'=K (.ex i) σ' H':=id rfl
@[simp ↓] theorem VD {X:Type} (P:X→Prop) (B:X→Sg→aa→Prop) (m:X→Nat) (x:X) (K:Ex→Sg→aa→Prop) (σ':Sg) (H':aa):JO P B m x K .ret σ' H'=K .ret σ' H':=id rfl
section
variable {S:Nat→Spc} {K:Ex→Sg→aa→Prop} {σ:Sg} {H:aa}
theorem bh {X:Type} (ks hk:List Nat) (P:X→Prop) (sl:X→List (Nat×D)) (hp:X→List (Nat×Res)) (m:X→Nat) (x0:X) {k:Nat} {b:CC} (h0:P x0) (hs:mU (sl x0) σ) (hh:pX (hp x0) H)
 (hr: ∀x,P x→vc S b (JO P (fun y=> HC σ H ks hk (sl y) (hp y)) m x K) (mS (sl x) (gE ks σ)) (fR (hp x) (hU hk H))):vc S (.loop k b) K σ H:=by
 rw[Ds]
 refine⟨⟨X,P,fun x=> mS (sl x) (gE ks σ),fun x=> fR (hp x) (hU hk H),m⟩,⟨x0,h0,ua hs (fun _ _=> rfl) hh (fun _ _=> rfl)⟩,fun x hx=> oO b _ _ (fun e σ' H' h=> ?_) (hr x hx)⟩
 cases e with
 | norm=>
   obtain⟨y,h1,h2,h3⟩:=h
   exact⟨y,h1,ua h2.1 h2.2.1 h2.2.2.1 h2.2.2.2,h3⟩
 | ex i=> exact h
 | ret=> exact h
def K0 (Q:Sg→aa→Prop) (K:Ex→Sg→aa→Prop):Ex→Sg→aa→Prop:=fun e σ' H'=> match e with
 | .norm=> Q σ' H'
 | e=> K e σ' H'
@[simp ↓] theorem WC (Q:Sg→aa→Prop) (σ':Sg) (H':aa):K0 Q K .norm σ' H'=Q σ' H':=id rfl
@[simp ↓] theorem WB (Q:Sg→aa→Prop) (σ':Sg) (H':aa):K0 Q K .ret σ' H'=K .ret σ' H':=id rfl
def eI (k:Nat) (a b:CC):CC:= .seq a (.cut k b)
theorem cO {X:Type} (ks hk:List Nat) (P:X→Prop) (sl:X→List (Nat×D)) (hp:X→List (Nat×Res)) {k:Nat} {a b:CC}
 (ha:vc S a (K0 (fun σ' H'=> ∃x,P x∧HC σ H ks hk (sl x) (hp x) σ' H') K) σ H)
 (hb: ∀x,P x→vc S b K (mS (sl x) (gE ks σ)) (fR (hp x) (hU hk H))):vc S (eI k a b) K σ H:=by
 unfold eI
 rw[Fi]
 refine oO a _ _ (fun e σ' H' h=> ?_) ha
 cases e with
 | norm=>
   obtain⟨x,h1,h2⟩:=h
   rw[Ab,LF]
   exact⟨_,_,ua h2.1 h2.2.1 h2.2.2.1 h2.2.2.2,hb x h1⟩
 | ex i=> exact h
 | ret=> exact h
def ax (id i n c id2:Nat) (body:CC) (i2:Nat):CC:=
 .block id (.loop 0 (.seq (.reg [.op (some c) none (.cmp .lss (.tmp i) (.tmp n))]) (.seq (.ite (.tmp c) .skip (.exit id)) (.seq (.block id2 (.cut 0 body)) (.reg [.op (some i2) none (.arith .add (.tmp i) (.const (.int .i64 1))), .op (some i) none (.mv (.tmp i2))])))))
def OW {X:Type} (id id2 i n:Nat) (len:Nat) (B:X→Sg→aa→Prop) (P:X→Prop) (k:Nat) (K:Ex→Sg→aa→Prop):Ex→Sg→aa→Prop:=fun e σ' H'=> match e with
 | .norm=> σ' i= .v (.int .i64 k)∧σ' n= .v (.int .i64 len)∧ ∃y,P y∧B y σ' H'
 | .ex j=> if j=id2 then σ' i= .v (.int .i64 k)∧σ' n= .v (.int .i64 len)∧ ∃y,P y∧B y σ' H' else if j=id then K .norm σ' H' else K (.ex j) σ' H'
 | .ret=> K .ret σ' H'
@[simp ↓] theorem Wg {X:Type} (id id2 i n:Nat) (len:Nat) (B:X→Sg→aa→Prop) (P:X→Prop) (k:Nat) (σ':Sg) (H':aa):OW id id2 i n len B P k K .norm σ' H'=(σ' i= .v (.int .i64 k)∧σ' n= .v (.int .i64 len)∧ ∃y,P y∧B y σ' H'):=_root_.id rfl
@[simp ↓] theorem Wf {X:Type} (id id2 i n:Nat) (len:Nat) (B:X→Sg→aa→Prop) (P:X→Prop) (k:Nat) (σ':Sg) (H':aa):OW id id2 i n len B P k K .ret σ' H'=K .ret σ' H':=_root_.id rfl
theorem ts {t:Nat} {d:D} : ∀ {sl:List (Nat×D)} {σ:Sg},(∀p∈sl,p.1≠t)→mU sl σ→mU sl (lQ σ t d)
 | [],_,_,_=> trivial
 | (s,e)::sl,σ,h,hm=> by
  refine⟨?_,ts (fun p hp=> h p (by simp[hp])) hm.2⟩
  have:s≠t:=h (s,e) (by simp)
  simp only[lQ,this,if_false]
  exact hm.1
theorem BI {t:Nat} {d:D} {ks:List Nat} {σ0 σ:Sg} (h:t∉ks) (hk:oJ ks σ0 σ):oJ ks σ0 (lQ σ t d):=fun s hs=> by
 have:s≠t:=fun e=> h (e ▸hs)
 simp only[lQ,this,if_false]
 exact hk s hs
theorem ar {X:Type} (ks hk:List Nat) (len:Nat) (P:Nat→X→Prop) (sl:X→List (Nat×D)) (hp:X→List (Nat×Res)) (x0:X) {id i n c id2 i2:Nat} {body:CC}
 (hi:σ i= .v (.int .i64 0)) (hn:σ n= .v (.int .i64 len)) (hlen: (len:Int)≤9223372036854775807) (hd: ([i,n,c,i2] ++ks).Nodup) (hd2: ∀x,∀p∈sl x,p.1∉ [i,n,c,i2])
 (h0:P 0 x0) (hs:mU (sl x0) σ) (hh:pX (hp x0) H)
 (hr: ∀k x,k < len→P k x→vc S body (OW id id2 i n len (fun y=> HC σ H ks hk (sl y) (hp y)) (P (k+1)) k K) (mS ((i, .v (.int .i64 k)):: (n, .v (.int .i64 len))::sl x) (gE ks σ)) (fR (hp x) (hU hk H)))
 (he: ∀x,P len x→K .norm (lQ (mS ((i, .v (.int .i64 len)):: (n, .v (.int .i64 len))::sl x) (gE ks σ)) c (.v (.bool false))) (fR (hp x) (hU hk H))):vc S (ax id i n c id2 body i2) K σ H:=by
 have ne:i≠n∧i≠c∧i≠i2∧n≠c∧n≠i2∧c≠i2∧i∉ks∧n∉ks∧c∉ks∧i2∉ks:=by
  simp only[List.cons_append,List.nil_append,List.nodup_cons,List.mem_cons,not_or] at hd
  obtain⟨⟨h1,h2,h3,h4⟩,⟨h5,h6,h7⟩,⟨h8,h9⟩,h10,_⟩:=hd
  exact⟨h1,h2,h3,h5,h6,h8,h4,h7,h9,h10⟩
 obtain⟨n1,n2,n3,n4,n5,n6,m1,m2,m3,m4⟩:=ne
 have sn: ∀x t,t∈ [i,n,c,i2]→ ∀p∈sl x,p.1≠t:=fun x t ht p hp e=> hd2 x p hp (e ▸ht)
 -- the state at the loop's head
 let st:Nat×X→Sg:=fun x=> mS ((i, .v (.int .i64 x.1)):: (n, .v (.int .i64 len))::sl x.2) (gE ks σ)
 let sh:Nat×X→aa:=fun x=> fR (hp x.2) (hU hk H)
 have back: ∀ (k:Nat) (y:X) (σ':Sg) (H':aa),σ' i= .v (.int .i64 k)→σ' n= .v (.int .i64 len)→HC σ H ks hk (sl y) (hp y) σ' H'→Wk σ' H' (st (k,y)) (sh (k,y)):=by
  intro k y σ' H' e1 e2 ⟨b1,b2,b3,b4⟩
  exact ua (sl:=(i, .v (.int .i64 k)):: (n, .v (.int .i64 len))::sl y) ⟨by rw[e1];exact uB _,by rw[e2];exact uB _,b1⟩ b2 b3 b4
 unfold ax
 rw[Dt,Ds]
 refine⟨⟨Nat×X,fun x=> x.1≤len∧P x.1 x.2,st,sh,fun x=> len -x.1⟩,⟨(0,x0),⟨Nat.zero_le _,h0⟩,back 0 x0 σ H hi hn ⟨hs,fun _ _=> rfl,hh,fun _ _=> rfl⟩⟩,?_⟩
 rintro⟨k,x⟩ ⟨hkl,hP⟩
 have si:st (k,x) i= .v (.int .i64 k):=by simp[st,mS,lQ]
 have sN:st (k,x) n= .v (.int .i64 len):=by
  have: ¬n=i:=fun e=> n1 e.symm
  simp[st,mS,lQ,this]
 let inv:PX:=⟨Nat×X,fun x=> x.1≤len∧P x.1 x.2,st,sh,fun x=> len -x.1⟩
 change vc S _ (Jb inv (k,x) (JD id K)) (st (k,x)) (sh (k,x))
 rw[Fi,Oj,O9,Sx]
 simp only[JY,si,sN,PB,true_and,LS,PD]
 rw[Og,Ab,Fi,Sc]
 have sc:ev (ej (st (k,x)) (some c) (.v (.bool (decide ((k:Int) < len))))) (.tmp c)= .v (.bool (decide ((k:Int) < len))):=by simp[lQ]
 rw[sc,Pr]
 refine⟨fun hlt=> ?_,fun hge=> ?_⟩
 ·have hlt':k < len:=by simpa using hlt
  rw[Pn,Ab,Fi,Dt,LF]
  refine⟨st (k,x),sh (k,x),NY (fun t=> ?_) (fun _ _ h=> .inl h),?_⟩
  ·rw[F7,QV]
   split
   ·rename_i e
    subst e
    have e1:st (k,x) t= .any:=by
     have hsl: ∀ (l:List (Nat×D)),(∀p∈l,p.1≠t)→mS l (gE ks σ) t= .any:=by
      intro l
      induction l with
      | nil=> intro _;rw[Hw,zF,if_neg m3]
      | cons p l ih=>
        obtain⟨s,d⟩:=p
        intro h
        have: ¬t=s:=fun e=> h (s,d) (by simp) e.symm
        simp only[mS,lQ,this,if_false]
        exact ih fun p hp=> h p (by simp[hp])
     have h1: ¬t=i:=fun e=> n2 e.symm
     have h2: ¬t=n:=fun e=> n4 e.symm
     simp only[st,mS,lQ,h1,h2,if_false]
     exact hsl _ (sn x t (by simp))
    rw[e1]
    exact trivial
   ·exact uB _
  ·refine oO body _ _ (fun e σ' H' h=> ?_) (hr k x hlt' hP)
   have fin: ∀σ' H',(σ' i= .v (.int .i64 k)∧σ' n= .v (.int .i64 len)∧ ∃y,P (k+1) y∧HC σ H ks hk (sl y) (hp y) σ' H')→
    Gm S (.reg [.op (some i2) none (.arith .add (.tmp i) (.const (.int .i64 1))), .op (some i) none (.mv (.tmp i2))]) (Jb inv (k,x) (JD id K)) .norm σ' H':=by
    intro σ' H' ⟨e1,e2,y,hy,hb⟩
    rw[Ab,Oj,O9,NI]
    simp only[JY,MI,QS,e1,L5,Nf,true_and,JG,InR]
    refine⟨by omega,?_⟩
    rw[O9,qan]
    dsimp only
    rw[Og]
    simp only[JY,F7]
    rw[Pq]
    refine⟨(k+1,y),⟨by show k+1≤len;omega,hy⟩,back (k+1) y _ _ ?_ ?_ ?_,by show len - (k+1) < len -k;omega⟩
    ·simp[lQ]
    ·have h1: ¬n=i:=fun e=> n1 e.symm
     simp[lQ,h1,n5,e2]
    ·exact⟨ts (sn y i (by simp)) (ts (sn y i2 (by simp)) hb.1),BI m1 (BI m4 hb.2.1),hb.2.2.1,hb.2.2.2⟩
   cases e with
   | norm=> rw[Pt];exact fin σ' H' h
   | ret=>
     rw[LG,Po,Pp,LG]
     exact h
   | ex j=>
     rw[Hj]
     have h:if j=id2 then σ' i= .v (.int .i64 k)∧σ' n= .v (.int .i64 len)∧ ∃y,P (k+1) y∧HC σ H ks hk (sl y) (hp y) σ' H' else if j=id then K .norm σ' H' else K (.ex j) σ' H':=h
     split
     ·rename_i e;rw[if_pos e] at h;exact fin σ' H' h
     ·rename_i e;rw[if_neg e] at h
      rw[LD,LE,Hj]
      exact h
 ·have hge':k=len:=by
   have: ¬ ((k:Int) < len):=by simpa using hge
   have:k≤len:=hkl
   omega
  subst hge'
  rw[Ps,LD,LE,Hj,if_pos rfl]
  have:decide ((k:Int) < k)=false:=by simp
  rw[this]
  exact he x hP
end
end Go.Gv
