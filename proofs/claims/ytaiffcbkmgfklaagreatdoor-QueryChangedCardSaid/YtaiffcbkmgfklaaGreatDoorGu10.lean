/- A part of the framework and of the walks: T12 T13 V1 Cd. -/
import Derived.Test.YtaiffcbkmgfklaaGreatDoorProg
import Derived.Test.YtaiffcbkmgfklaaGreatDoorGu09
set_option linter.unusedSimpArgs false
set_option linter.unusedVariables false

namespace Go.Gv
open Cod (enc dec)
structure ix (X:Type) where
 dec:List D→Option X
 view:X→List D
 le: ∀ds x,dec ds=some x→LeL ds (view x)
def dG {X Y:Type} (A:ix X) (pre:X→Prop) (er:Y→D) (post:X→Y→Prop):Spc:=UQ A.dec pre fun x r=> ∃y,r=er y∧post x y
def gE {X:Type} (o:Option X) (k:X→Prop):Prop:=match o with | some x=> k x | none=> False
@[congr] theorem qew {X:Type} {o o':Option X} {k:X→Prop} (h:o=o'):gE o k=gE o' k:=by subst h;rfl
@[simp] theorem qgq {X:Type} (x:X) (k:X→Prop):gE (some x) k=k x:=id rfl
@[simp] theorem tE {X Y:Type} (A:ix X) (pre:X→Prop) (er:Y→D) (post:X→Y→Prop) (d:Nat) (ds:List D) (H:ab) (K:D→ab→Prop):
 (dG A pre er post).pt d ds H K=gE (A.dec ds) fun x=> pre x∧ ∀y,post x y→K (er y) H:=by
 refine propext ⟨fun h=> ?_,fun h=> ?_⟩
 ·obtain⟨⟨x,h1,h2⟩,h3⟩:=h
  rw[h1]
  refine⟨h2,fun y hy=> h3 _ fun x' hx' _=> ?_⟩
  rw[h1] at hx'
  cases hx'
  exact⟨y,rfl,hy⟩
 ·cases hd:A.dec ds with
  | none=> rw[hd] at h;exact h.elim
  | some x=>
    rw[hd] at h
    refine Uh x hd h.1 ?_
    rintro r ⟨y,rfl,hy⟩
    exact h.2 y hy
@[simp] theorem qd7 {X Y:Type} (A:ix X) (pre:X→Prop) (er:Y→D) (post:X→Y→Prop) (dst:Option Nat) (ds:List D) (H:ab) (K:D→ab→Prop):
 Sb dst (dG A pre er post) ds H K=gE (A.dec ds) fun x=> pre x∧ ∀y,post x y→K (er y) H:=tE A pre er post 0 ds H K
def Fin {Y:Type} (er:Y→D) (q:Y→Prop) (r:D) (H':ab):Prop:= ∃y,FrzTo H' r (er y)∧q y
theorem fK {Y:Type} {er:Y→D} {q:Y→Prop} {r:D} {H':ab} (y:Y) (h:FrzTo H' r (er y)) (hq:q y):Fin er q r H':=⟨y,h,hq⟩
@[simp] theorem qe7 (q:Int→Prop) (n:Int) (H':ab):Fin enc q (.v (.int .i64 n)) H'=q n:=by
 simp[Fin,YV]
@[simp] theorem qdc (q:Bool→Prop) (n:Bool) (H':ab):Fin enc q (.v (.bool n)) H'=q n:=by
 refine propext ⟨fun⟨y,h1,h2⟩=> ?_,fun h=> ⟨n, .same _,h⟩⟩
 rw[Wn,qc8] at h1
 cases h1
 exact h2
@[simp] theorem qe6 (q:ByteArray→Prop) (n:ByteArray) (H':ab):Fin enc q (.v (.string n)) H'=q n:=by
 refine propext ⟨fun⟨y,h1,h2⟩=> ?_,fun h=> ⟨n, .same _,h⟩⟩
 rw[YU,qc8] at h1
 cases h1
 exact h2
def Walk {X Y:Type} (cc:CC) (rs:List aI) (S:Nat→Spc) (A:ix X) (pre:X→Prop) (er:Y→D) (post:X→Y→Prop):Prop:=
 ∀x,pre x→vc S cc (uX rs fun r H'=> Fin er (post x) r H') (d9 (A.view x)) cF
theorem ax {P:Program} {S:Nat→Spc} {f:Nat} {im:List Nat} {cc:CC} {rs:List aI} {N:Nat} {X Y:Type} {A:ix X} {pre:X→Prop} {er:Y→D} {post:X→Y→Prop}
 (hS: ∀f,Tri P f (S f).pt) (h:aR P f im cc rs N) (hN: ∀x,(A.view x).length≤N) (hw:Walk cc rs S A pre er post):Tri P f (dG A pre er post).pt:=
 Uk hS h A.le hN fun x hp=> by
  refine rE cc _ _ (fun e σ H h=> ?_) (hw x hp)
  cases e with
  | ex i=> exact h
  | _=>
    simp only[uX] at h ⊢
    have key: ∀ (rs:List aI) (F G:List D→Prop),(∀ds,F ds→G ds)→ln rs σ H F→ln rs σ H G:=by
     intro rs
     induction rs with
     | nil=> exact fun F G hFG h=> hFG _ h
     | cons r rs ih=>
       intro F G hFG h
       cases r with
       | tmp t=> exact ih _ _ (fun ds h=> hFG _ h) h
       | cell t agg sz=> exact vU (fun d h=> ih _ _ (fun ds h=> hFG _ h) h) h
    exact key rs _ _ (fun ds ⟨y,h1,h2⟩=> ⟨_,h1,y,rfl,h2⟩) h
theorem pV {P : Program} {f : Nat} {fn : Func} {c : Code} (h : P.funcs[f]? = some fn) (hn : (fn.name == "runtime.NumGoroutine") = false) (hb : fn.body = some c) : fF P f := by
 intro args w
 have hn' : ¬ fn.name = "runtime.NumGoroutine" := by simpa using hn
 unfold callFunc
 simp[h,hn',hb]
theorem aA {P:Program} {f:Nat} {im:List Nat} {cc:CC} {rs:List aI} {N:Nat} (EZ:P.follows .mixedOrders=true)
 (h : ((P.funcs[f]?).bind fun g => if g.name == "runtime.NumGoroutine" then none else g.body.bind fun c => (bd P im g.ntmps c).bind fun cc => (g.results.toList.mapM (eO P)).bind fun rs => some (g.ntmps, cc, rs)) = some (N, dZ cc, rs)) : aR P f im cc rs N := by
 cases hf:P.funcs[f]? with
 | none=> rw[hf] at h;cases h
 | some fn=>
   rw[hf] at h
   simp only[Option.bind_some] at h
   split at h
   ·cases h
   ·rename_i hn
    simp only[Option.bind_eq_some_iff,Option.some.injEq,Prod.mk.injEq] at h
    obtain⟨c,hb,q,hq,r,hr,rfl,rfl,rfl⟩:=h
    exact⟨EZ,pV hf (by simpa using hn) hb,fn,c,hf,hb,rfl,hq,hr⟩
def a0:ix Unit:=⟨qa7,fun _=> [],qmo⟩
def a1 (X:Type) [Cod X]:ix X:=⟨qa6,fun x=> [enc x],qmn⟩
def a2 (X Y:Type) [Cod X] [Cod Y]:ix (X×Y):=⟨qa5,fun x=> [enc x.1,enc x.2],qmm⟩
def a3 (X Y Z:Type) [Cod X] [Cod Y] [Cod Z]:ix (X×Y×Z):=⟨qa4,fun x=> [enc x.1,enc x.2.1,enc x.2.2],qml⟩
def a4 (X Y Z W:Type) [Cod X] [Cod Y] [Cod Z] [Cod W]:ix (X×Y×Z×W):=⟨qa3,fun x=> [enc x.1,enc x.2.1,enc x.2.2.1,enc x.2.2.2],qmk⟩
def aT {X:Type} (A:ix X):ix (List Int×X):=⟨fun ds=> match ds with | .tape L::r=> (A.dec r).map fun x=> (L,x) | _=> none,fun x=> .tape x.1::A.view x.2,fun ds x h=> by
 split at h
 ·simp only[Option.map_eq_some_iff] at h
  obtain⟨y,hy,rfl⟩:=h
  exact .cons (.same _) (A.le _ _ hy)
 ·cases h⟩
@[simp] theorem qjD:a0.dec []=some ():=id rfl
@[simp] theorem qjC {X:Type} [Cod X] (a:D): (a1 X).dec [a]=dec a:=id rfl
@[simp] theorem qjB {X Y:Type} [Cod X] [Cod Y] (a b:D): (a2 X Y).dec [a,b]=(dec a).bind fun x=> (dec b).bind fun y=> some (x,y):=id rfl
@[simp] theorem qjA {X Y Z:Type} [Cod X] [Cod Y] [Cod Z] (a b c:D): (a3 X Y Z).dec [a,b,c]=(dec a).bind fun x=> (dec b).bind fun y=> (dec c).bind fun z=> some (x,y,z):=id rfl
@[simp] theorem qjz {X Y Z W:Type} [Cod X] [Cod Y] [Cod Z] [Cod W] (a b c d:D): (a4 X Y Z W).dec [a,b,c,d]=(dec a).bind fun x=> (dec b).bind fun y=> (dec c).bind fun z=> (dec d).bind fun w=> some (x,y,z,w):=id rfl
@[simp] theorem qjw {X:Type} (A:ix X) (L:List Int) (r:List D): (aT A).dec (.tape L::r)=(A.dec r).map fun x=> (L,x):=id rfl
@[simp] theorem qfS (x:Unit):a0.view x= []:=id rfl
@[simp] theorem qfR {X:Type} [Cod X] (x:X): (a1 X).view x= [enc x]:=id rfl
@[simp] theorem qfQ {X Y:Type} [Cod X] [Cod Y] (x:X) (y:Y): (a2 X Y).view (x,y)= [enc x,enc y]:=id rfl
@[simp] theorem qfP {X Y Z:Type} [Cod X] [Cod Y] [Cod Z] (x:X) (y:Y) (z:Z): (a3 X Y Z).view (x,y,z)= [enc x,enc y,enc z]:=id rfl
@[simp] theorem qfO {X Y Z W:Type} [Cod X] [Cod Y] [Cod Z] [Cod W] (x:X) (y:Y) (z:Z) (w:W): (a4 X Y Z W).view (x,y,z,w)= [enc x,enc y,enc z,enc w]:=id rfl
@[simp] theorem qfK {X:Type} (A:ix X) (L:List Int) (x:X): (aT A).view (L,x)= .tape L::A.view x:=id rfl
attribute [simp] Cod.dec_enc
@[simp] theorem qi1 (n:Int):dec (X:=Int) (.v (.int .i64 n))=some n:=id rfl
@[simp] theorem qfo (n:Bool):dec (X:=Bool) (.v (.bool n))=some n:=id rfl
@[simp] theorem qiZ (n:ByteArray):dec (X:=ByteArray) (.v (.string n))=some n:=id rfl
@[simp] theorem qi0 {X:Type} [Cod X]:dec (X:=List X) (.v (.slice none 0 0))=some []:=id rfl
@[simp] theorem qfn {X:Type} [Cod X] (n:Nat) (es:List D):dec (X:=List X) (.list n es)=if n=Cod.wd X then es.mapM (dec (X:=X)) else none:=id rfl
attribute [simp] A4
@[simp] theorem qbM {X:Type} [Cod X] (l:List X):l.mapM (dec (X:=X) ∘enc)=some l:=by
 have:=A4 l
 rwa [List.mapM_map] at this
def LS {Y Z:Type} [Cod Y] [Cod Z] (p:Y×Z):D:= .tup [enc p.1,enc p.2]
def Wm {Y Z W:Type} [Cod Y] [Cod Z] [Cod W] (p:Y×Z×W):D:= .tup [enc p.1,enc p.2.1,enc p.2.2]
def Tx (_:Unit):D:= .tup []
@[simp] theorem qlK {Y Z:Type} [Cod Y] [Cod Z] (y:Y) (z:Z):LS (y,z)= .tup [enc y,enc z]:=id rfl
@[simp] theorem qlJ {Y Z W:Type} [Cod Y] [Cod Z] [Cod W] (y:Y) (z:Z) (w:W):Wm (y,z,w)= .tup [enc y,enc z,enc w]:=id rfl
@[simp] theorem qe9 {Y Z:Type} [Cod Y] [Cod Z] (q:Y×Z→Prop) (a b:D) (H':ab):Fin LS q (.tup [a,b]) H'= ∃y z,FrzTo H' a (enc y)∧FrzTo H' b (enc z)∧q (y,z):=by
 refine propext ⟨fun⟨⟨y,z⟩,h1,h2⟩=> ?_,fun⟨y,z,h1,h2,h3⟩=> ⟨(y,z),YJ h1 h2,h3⟩⟩
 cases h1 with
 | same=> exact⟨y,z, .same _, .same _,h2⟩
 | tup hl h=> exact⟨y,z,h 0 _ _ rfl rfl,h 1 _ _ rfl rfl,h2⟩
@[simp] theorem qe8 {Y Z W:Type} [Cod Y] [Cod Z] [Cod W] (q:Y×Z×W→Prop) (a b c:D) (H':ab):Fin Wm q (.tup [a,b,c]) H'= ∃y z w,FrzTo H' a (enc y)∧FrzTo H' b (enc z)∧FrzTo H' c (enc w)∧q (y,z,w):=by
 refine propext ⟨fun⟨⟨y,z,w⟩,h1,h2⟩=> ?_,fun⟨y,z,w,h1,h2,h3,h4⟩=> ⟨(y,z,w),YI h1 h2 h3,h4⟩⟩
 cases h1 with
 | same=> exact⟨y,z,w, .same _, .same _, .same _,h2⟩
 | tup hl h=> exact⟨y,z,w,h 0 _ _ rfl rfl,h 1 _ _ rfl rfl,h 2 _ _ rfl rfl,h2⟩
@[simp] theorem qlL (u:Unit):Tx u= .tup []:=id rfl
def rj:List (Nat×D)→Sg→Sg
 | [],σ=> σ
 | (t,d)::l,σ=> l5 (rj l σ) t d
def gG:List (Nat×Res)→ab→ab
 | [],H=> H
 | (i,r)::l,H=> au (gG l H) i (some r)
theorem Qf (σ:Sg):rj [] σ=σ:=id rfl
@[simp] theorem qbm (H:ab):gG [] H=H:=id rfl
@[simp] theorem qju (i:Nat) (r:Res) (l:List (Nat×Res)) (H:ab):gG ((i,r)::l) H=au (gG l H) i (some r):=id rfl
def tt (ks:List Nat) (σ σ':Sg):Prop:= ∀t∈ks,σ' t=σ t
def xj (hk:List Nat) (H H':ab):Prop:= ∀i∈hk,H' i=H i
@[simp] theorem qio (σ σ':Sg):tt [] σ σ'=True:=by simp[tt]
@[simp] theorem qip (t:Nat) (ks:List Nat) (σ σ':Sg):tt (t::ks) σ σ'=(σ' t=σ t∧tt ks σ σ'):=by simp[tt]
@[simp] theorem qeT (σ σ':ab):xj [] σ σ'=True:=by simp[xj]
@[simp] theorem qeU (t:Nat) (ks:List Nat) (σ σ':ab):xj (t::ks) σ σ'=(σ' t=σ t∧xj ks σ σ'):=by simp[xj]
theorem G2 (ks:List Nat) (σ:Sg) (t:Nat):jW ks σ t=if t∈ks then σ t else .any:=by
 induction ks with
 | nil=> simp[qc2]
 | cons s ks ih=>
   rw[qaF]
   simp only[l5,List.mem_cons]
   by_cases h:t=s
   ·simp[h]
   ·simp[h,ih]
theorem G3 (ks:List Nat) (σ:ab) (t:Nat):jX ks σ t=if t∈ks then σ t else none:=by
 induction ks with
 | nil=> simp
 | cons s ks ih=>
   rw[YE]
   simp only[au,List.mem_cons]
   by_cases h:t=s
   ·simp[h]
   ·simp[h,ih]
theorem Zj {σ σ':Sg} {H H':ab} (h1: ∀t,Qg (σ t) (σ' t)) (h2: ∀i r,H' i=some r→H i=some r∨isNilRow r):Wk σ H σ' H':=by
 intro E a w hst
 obtain⟨hd,hN,tp,hw,hr⟩:=hst
 have hm:=hw.sub h2
 exact⟨hd,hN,tp,hm.1,fun t=> ZE (h1 t) (hm.2 _ _ (hr t))⟩
theorem Ao (d:D):Qg d d:=by simp
theorem z8 {σ0 σ:Sg} {H0 H:ab} {ks hk:List Nat} {sl:List (Nat×D)} {hp:List (Nat×Res)} (h1:rk sl σ) (h2:tt ks σ0 σ) (h3:uG hp H) (h4:xj hk H0 H):
 Wk σ H (rj sl (jW ks σ0)) (gG hp (jX hk H0)):=by
 refine Zj (fun t=> ?_) (fun i r=> ?_)
 ·induction sl with
  | nil=>
    rw[Qf,G2]
    split
    ·rename_i h;rw[←h2 t h];exact Ao _
    ·exact trivial
  | cons p sl ih=>
    obtain⟨s,d⟩:=p
    simp only[rj,l5]
    split
    ·rename_i e;subst e;exact h1.1
    ·exact ih h1.2
 ·induction hp with
  | nil=>
    rw[qbm,G3]
    split
    ·rename_i h;rw[←h4 i h];exact .inl
    ·intro h;cases h
  | cons p hp ih=>
    obtain⟨s,d⟩:=p
    simp only[gG,au]
    split
    ·rename_i e;subst e;intro h;cases h;exact h3.1
    ·exact ih h3.2
def Qo (σ0:Sg) (H0:ab) (ks hk:List Nat) (sl:List (Nat×D)) (hp:List (Nat×Res)) (σ:Sg) (H:ab):Prop:=rk sl σ∧tt ks σ0 σ∧uG hp H∧xj hk H0 H
@[simp] theorem qfE (σ0:Sg) (H0:ab) (ks hk:List Nat) (sl:List (Nat×D)) (hp:List (Nat×Res)) (σ:Sg) (H:ab):Qo σ0 H0 ks hk sl hp σ H=(rk sl σ∧tt ks σ0 σ∧uG hp H∧xj hk H0 H):=id rfl
def TG {X:Type} (P:X→Prop) (B:X→Sg→ab→Prop) (m:X→Nat) (x:X) (K:Ex→Sg→ab→Prop):Ex→Sg→ab→Prop:=fun e σ' H'=> match e with
 | .norm=> ∃y,P y∧B y σ' H'∧m y < m x
 | e=> K e σ' H'
@[simp ↓] theorem qf0 {X:Type} (P:X→Prop) (B:X→Sg→ab→Prop) (m:X→Nat) (x:X) (K:Ex→Sg→ab→Prop) (σ':Sg) (H':ab):TG P B m x K .norm σ' H'= ∃y,P y∧B y σ' H'∧m y < m x:=id rfl
@[simp ↓] theorem qfY {X:Type} (P:X→Prop) (B:X→Sg→ab→Prop) (m:X→Nat) (x:X) (K:Ex→Sg→ab→Prop) (i:Nat) (σ':Sg) (H':ab):TG P B m x K (.ex i) σ' H'=K (.ex i) σ' H':=id rfl
@[simp ↓] theorem qfZ {X:Type} (P:X→Prop) (B:X→Sg→ab→Prop) (m:X→Nat) (x:X) (K:Ex→Sg→ab→Prop) (σ':Sg) (H':ab):TG P B m x K .ret σ' H'=K .ret σ' H':=id rfl
section
variable {S:Nat→Spc} {K:Ex→Sg→ab→Prop} {σ:Sg} {H:ab}
theorem cy {X:Type} (ks hk:List Nat) (P:X→Prop) (sl:X→List (Nat×D)) (hp:X→List (Nat×Res)) (m:X→Nat) (x0:X) {k:Nat} {b:CC} (h0:P x0) (hs:rk (sl x0) σ) (hh:uG (hp x0) H)
 (hr: ∀x,P x→vc S b (TG P (fun y=> Qo σ H ks hk (sl y) (hp y)) m x K) (rj (sl x) (jW ks σ)) (gG (hp x) (jX hk H))):vc S (.loop k b) K σ H:=by
 rw[LW]
 refine⟨⟨X,P,fun x=> rj (sl x) (jW ks σ),fun x=> gG (hp x) (jX hk H),m⟩,⟨x0,h0,z8 hs (fun _ _=> rfl) hh (fun _ _=> rfl)⟩,fun x hx=> rE b _ _ (fun e σ' H' h=> ?_) (hr x hx)⟩
 cases e with
 | norm=>
   obtain⟨y,h1,h2,h3⟩:=h
   exact⟨y,h1,z8 h2.1 h2.2.1 h2.2.2.1 h2.2.2.2,h3⟩
 | ex i=> exact h
 | ret=> exact h
def Vm (Q:Sg→ab→Prop) (K:Ex→Sg→ab→Prop):Ex→Sg→ab→Prop:=fun e σ' H'=> match e with
 | .norm=> Q σ' H'
 | e=> K e σ' H'
@[simp ↓] theorem qgB (Q:Sg→ab→Prop) (σ':Sg) (H':ab):Vm Q K .norm σ' H'=Q σ' H':=id rfl
@[simp ↓] theorem qgA (Q:Sg→ab→Prop) (σ':Sg) (H':ab):Vm Q K .ret σ' H'=K .ret σ' H':=id rfl
def iB (k:Nat) (a b:CC):CC:= .seq a (.cut k b)
theorem fG {X:Type} (ks hk:List Nat) (P:X→Prop) (sl:X→List (Nat×D)) (hp:X→List (Nat×Res)) {k:Nat} {a b:CC}
 (ha:vc S a (Vm (fun σ' H'=> ∃x,P x∧Qo σ H ks hk (sl x) (hp x) σ' H') K) σ H)
 (hb: ∀x,P x→vc S b K (rj (sl x) (jW ks σ)) (gG (hp x) (jX hk H))):vc S (iB k a b) K σ H:=by
 unfold iB
 rw[NU]
 refine rE a _ _ (fun e σ' H' h=> ?_) ha
 cases e with
 | norm=>
   obtain⟨x,h1,h2⟩:=h
   rw[HH,Q8]
   exact⟨_,_,z8 h2.1 h2.2.1 h2.2.2.1 h2.2.2.2,hb x h1⟩
 | ex i=> exact h
 | ret=> exact h
def bi (id i n c id2:Nat) (body:CC) (i2:Nat):CC:=
 .block id (.loop 0 (.seq (.reg [.op (some c) none (.cmp .lss (.tmp i) (.tmp n))]) (.seq (.ite (.tmp c) .skip (.exit id)) (.seq (.block id2 (.cut 0 body)) (.reg [.op (some i2) none (.arith .add (.tmp i) (.const (.int .i64 1))), .op (some i) none (.mv (.tmp i2))])))))
def Yh {X:Type} (id id2 i n:Nat) (len:Nat) (B:X→Sg→ab→Prop) (P:X→Prop) (k:Nat) (K:Ex→Sg→ab→Prop):Ex→Sg→ab→Prop:=fun e σ' H'=> match e with
 | .norm=> σ' i= .v (.int .i64 k)∧σ' n= .v (.int .i64 len)∧ ∃y,P y∧B y σ' H'
 | .ex j=> if j=id2 then σ' i= .v (.int .i64 k)∧σ' n= .v (.int .i64 len)∧ ∃y,P y∧B y σ' H' else if j=id then K .norm σ' H' else K (.ex j) σ' H'
 | .ret=> K .ret σ' H'
@[simp ↓] theorem qgb {X:Type} (id id2 i n:Nat) (len:Nat) (B:X→Sg→ab→Prop) (P:X→Prop) (k:Nat) (σ':Sg) (H':ab):Yh id id2 i n len B P k K .norm σ' H'=(σ' i= .v (.int .i64 k)∧σ' n= .v (.int .i64 len)∧ ∃y,P y∧B y σ' H'):=_root_.id rfl
@[simp ↓] theorem qf9 {X:Type} (id id2 i n:Nat) (len:Nat) (B:X→Sg→ab→Prop) (P:X→Prop) (k j:Nat) (σ':Sg) (H':ab):Yh id id2 i n len B P k K (.ex j) σ' H'=(if j=id2 then σ' i= .v (.int .i64 k)∧σ' n= .v (.int .i64 len)∧ ∃y,P y∧B y σ' H' else if j=id then K .norm σ' H' else K (.ex j) σ' H'):=_root_.id rfl
@[simp ↓] theorem qga {X:Type} (id id2 i n:Nat) (len:Nat) (B:X→Sg→ab→Prop) (P:X→Prop) (k:Nat) (σ':Sg) (H':ab):Yh id id2 i n len B P k K .ret σ' H'=K .ret σ' H':=_root_.id rfl
theorem zz {t:Nat} {d:D} : ∀ {sl:List (Nat×D)} {σ:Sg},(∀p∈sl,p.1≠t)→rk sl σ→rk sl (l5 σ t d)
 | [],_,_,_=> trivial
 | (s,e)::sl,σ,h,hm=> by
  refine⟨?_,zz (fun p hp=> h p (by simp[hp])) hm.2⟩
  have:s≠t:=h (s,e) (by simp)
  simp only[l5,this,if_false]
  exact hm.1
theorem JI {t:Nat} {d:D} {ks:List Nat} {σ0 σ:Sg} (h:t∉ks) (hk:tt ks σ0 σ):tt ks σ0 (l5 σ t d):=fun s hs=> by
 have:s≠t:=fun e=> h (e ▸hs)
 simp only[l5,this,if_false]
 exact hk s hs
theorem aO {X:Type} (ks hk:List Nat) (len:Nat) (P:Nat→X→Prop) (sl:X→List (Nat×D)) (hp:X→List (Nat×Res)) (x0:X) {id i n c id2 i2:Nat} {body:CC}
 (hi:σ i= .v (.int .i64 0)) (hn:σ n= .v (.int .i64 len)) (hlen: (len:Int)≤9223372036854775807) (hd: ([i,n,c,i2] ++ks).Nodup) (hd2: ∀x,∀p∈sl x,p.1∉ [i,n,c,i2])
 (h0:P 0 x0) (hs:rk (sl x0) σ) (hh:uG (hp x0) H)
 (hr: ∀k x,k < len→P k x→vc S body (Yh id id2 i n len (fun y=> Qo σ H ks hk (sl y) (hp y)) (P (k+1)) k K) (rj ((i, .v (.int .i64 k)):: (n, .v (.int .i64 len))::sl x) (jW ks σ)) (gG (hp x) (jX hk H)))
 (he: ∀x,P len x→K .norm (l5 (rj ((i, .v (.int .i64 len)):: (n, .v (.int .i64 len))::sl x) (jW ks σ)) c (.v (.bool false))) (gG (hp x) (jX hk H))):vc S (bi id i n c id2 body i2) K σ H:=by
 have ne:i≠n∧i≠c∧i≠i2∧n≠c∧n≠i2∧c≠i2∧i∉ks∧n∉ks∧c∉ks∧i2∉ks:=by
  simp only[List.cons_append,List.nil_append,List.nodup_cons,List.mem_cons,not_or] at hd
  obtain⟨⟨h1,h2,h3,h4⟩,⟨h5,h6,h7⟩,⟨h8,h9⟩,h10,_⟩:=hd
  exact⟨h1,h2,h3,h5,h6,h8,h4,h7,h9,h10⟩
 obtain⟨n1,n2,n3,n4,n5,n6,m1,m2,m3,m4⟩:=ne
 have sn: ∀x t,t∈ [i,n,c,i2]→ ∀p∈sl x,p.1≠t:=fun x t ht p hp e=> hd2 x p hp (e ▸ht)
 -- the state at the loop's head
 let st:Nat×X→Sg:=fun x=> rj ((i, .v (.int .i64 x.1)):: (n, .v (.int .i64 len))::sl x.2) (jW ks σ)
 let sh:Nat×X→ab:=fun x=> gG (hp x.2) (jX hk H)
 have back: ∀ (k:Nat) (y:X) (σ':Sg) (H':ab),σ' i= .v (.int .i64 k)→σ' n= .v (.int .i64 len)→Qo σ H ks hk (sl y) (hp y) σ' H'→Wk σ' H' (st (k,y)) (sh (k,y)):=by
  intro k y σ' H' e1 e2 ⟨b1,b2,b3,b4⟩
  exact z8 (sl:=(i, .v (.int .i64 k)):: (n, .v (.int .i64 len))::sl y) ⟨by rw[e1];exact Ao _,by rw[e2];exact Ao _,b1⟩ b2 b3 b4
 unfold bi
 rw[LX,LW]
 refine⟨⟨Nat×X,fun x=> x.1≤len∧P x.1 x.2,st,sh,fun x=> len -x.1⟩,⟨(0,x0),⟨Nat.zero_le _,h0⟩,back 0 x0 σ H hi hn ⟨hs,fun _ _=> rfl,hh,fun _ _=> rfl⟩⟩,?_⟩
 rintro⟨k,x⟩ ⟨hkl,hP⟩
 have si:st (k,x) i= .v (.int .i64 k):=by simp[st,rj,l5]
 have sN:st (k,x) n= .v (.int .i64 len):=by
  have: ¬n=i:=fun e=> n1 e.symm
  simp[st,rj,l5,this]
 let inv:qbu:=⟨Nat×X,fun x=> x.1≤len∧P x.1 x.2,st,sh,fun x=> len -x.1⟩
 change vc S _ (Sw inv (k,x) (Tl id K)) (st (k,x)) (sh (k,x))
 rw[NU,Zy,qaE,qdC]
 simp only[Ug,si,sN,qbe,true_and,WE,qbg]
 rw[Zv,HH,NU,qdk]
 have sc:ev (f9 (st (k,x)) (some c) (.v (.bool (decide ((k:Int) < len))))) (.tmp c)= .v (.bool (decide ((k:Int) < len))):=by simp[l5]
 rw[sc,qaY]
 refine⟨fun hlt=> ?_,fun hge=> ?_⟩
 ·have hlt':k < len:=by simpa using hlt
  rw[qaU,HH,NU,LX,Q8]
  refine⟨st (k,x),sh (k,x),Zj (fun t=> ?_) (fun _ _ h=> .inl h),?_⟩
  ·rw[OQ,qch]
   split
   ·rename_i e
    subst e
    have e1:st (k,x) t= .any:=by
     have hsl: ∀ (l:List (Nat×D)),(∀p∈l,p.1≠t)→rj l (jW ks σ) t= .any:=by
      intro l
      induction l with
      | nil=> intro _;rw[Qf,G2,if_neg m3]
      | cons p l ih=>
        obtain⟨s,d⟩:=p
        intro h
        have: ¬t=s:=fun e=> h (s,d) (by simp) e.symm
        simp only[rj,l5,this,if_false]
        exact ih fun p hp=> h p (by simp[hp])
     have h1: ¬t=i:=fun e=> n2 e.symm
     have h2: ¬t=n:=fun e=> n4 e.symm
     simp only[st,rj,l5,h1,h2,if_false]
     exact hsl _ (sn x t (by simp))
    rw[e1]
    exact trivial
   ·exact Ao _
  ·refine rE body _ _ (fun e σ' H' h=> ?_) (hr k x hlt' hP)
   have fin: ∀σ' H',(σ' i= .v (.int .i64 k)∧σ' n= .v (.int .i64 len)∧ ∃y,P (k+1) y∧Qo σ H ks hk (sl y) (hp y) σ' H')→
    O1 S (.reg [.op (some i2) none (.arith .add (.tmp i) (.const (.int .i64 1))), .op (some i) none (.mv (.tmp i2))]) (Sw inv (k,x) (Tl id K)) .norm σ' H':=by
    intro σ' H' ⟨e1,e2,y,hy,hb⟩
    rw[HH,Zy,qaE,Y3]
    simp only[Ug,X3,qcf,e1,WQ,true_and,To,InR]
    refine⟨by omega,?_⟩
    rw[qaE,qi8]
    dsimp only
    rw[Zv]
    simp only[Ug,OQ]
    rw[qaX]
    refine⟨(k+1,y),⟨by show k+1≤len;omega,hy⟩,back (k+1) y _ _ ?_ ?_ ?_,by show len - (k+1) < len -k;omega⟩
    ·simp[l5]
    ·have h1: ¬n=i:=fun e=> n1 e.symm
     simp[l5,h1,n5,e2]
    ·exact⟨zz (sn y i (by simp)) (zz (sn y i2 (by simp)) hb.1),JI m1 (JI m4 hb.2.1),hb.2.2.1,hb.2.2.2⟩
   cases e with
   | norm=> rw[qa1];exact fin σ' H' h
   | ret=>
     rw[Wr,qaV,qaW,Wr]
     exact h
   | ex j=>
     rw[P2]
     have h:if j=id2 then σ' i= .v (.int .i64 k)∧σ' n= .v (.int .i64 len)∧ ∃y,P (k+1) y∧Qo σ H ks hk (sl y) (hp y) σ' H' else if j=id then K .norm σ' H' else K (.ex j) σ' H':=h
     split
     ·rename_i e;rw[if_pos e] at h;exact fin σ' H' h
     ·rename_i e;rw[if_neg e] at h
      rw[Wo,Wq,P2]
      exact h
 ·have hge':k=len:=by
   have: ¬ ((k:Int) < len):=by simpa using hge
   have:k≤len:=hkl
   omega
  subst hge'
  rw[qa0,Wo,Wq,P2,if_pos rfl]
  have:decide ((k:Int) < k)=false:=by simp
  rw[this]
  exact he x hP
end
end Go.Gv

namespace Go.Gv
open Cod (enc dec)
theorem jP {X:Type} [Cod X] {x y:X} (h:enc x=enc y):x=y:=by
 have:=congrArg (dec (X:=X)) h
 simpa using this
@[simp] theorem qiR {X:Type} [Cod X] (l l':List X): (l.map enc=l'.map enc)=(l=l'):=by
 refine propext ⟨fun h=> ?_,fun h=> h ▸rfl⟩
 induction l generalizing l' with
 | nil=> cases l' with
   | nil=> rfl
   | cons y l'=> simp at h
 | cons x l ih=> cases l' with
   | nil=> simp at h
   | cons y l'=>
     simp only[List.map_cons,List.cons.injEq] at h
     rw[jP h.1,ih _ h.2]
theorem th {X:Type} [Cod X] {H:ab} {id n:Nat} {v:Value} {l:List X} (el:Nat) (h:H id=some (.row v el n (l.map enc))) (hn:n=Cod.wd X:=by rfl):FrzTo H (.own id v) (.list n (l.map enc)):=by
 subst hn;exact SN h
inductive Ky where
 | e
 | o (k:Ky)
 | i (k:Ky)
deriving DecidableEq
inductive Tr where
 | nil
 | nd (d:D) (l r:Tr)
def Tr.get:Tr→Ky→D
 | .nil,_=> .any
 | .nd d _ _, .e=> d
 | .nd _ l _, .o k=> l.get k
 | .nd _ _ r, .i k=> r.get k
def Tr.set:Tr→Ky→D→Tr
 | .nil, .e,x=> .nd x .nil .nil
 | .nil, .o k,x=> .nd .any (Tr.set .nil k x) .nil
 | .nil, .i k,x=> .nd .any .nil (Tr.set .nil k x)
 | .nd _ l r, .e,x=> .nd x l r
 | .nd d l r, .o k,x=> .nd d (l.set k x) r
 | .nd d l r, .i k,x=> .nd d l (r.set k x)
noncomputable def Tr.frz (id:Nat) (x:Value) (L:D):Tr→Tr
 | .nil=> .nil
 | .nd d l r=> .nd (Hy id x L d) (l.frz id x L) (r.frz id x L)
def qc1:Nat→Nat→Ky
 | 0,_=> .e
 | f+1,n=> if n=0 then .e else if(n -1) % 2=0 then .o (qc1 f ((n -1) /2)) else .i (qc1 f ((n -1) /2))
def ky (n:Nat):Ky:=qc1 n n
def Ky.val:Ky→Nat
 | .e=> 0
 | .o k=> 2*k.val+1
 | .i k=> 2*k.val+2
theorem E1: ∀ (f n:Nat),n≤f→(qc1 f n).val=n
 | 0,n,h=> by
   have:n=0:=by omega
   subst this;rfl
 | f+1,n,h=> by
   unfold qc1
   split
   ·rename_i e;subst e;rfl
   ·split
    ·simp only[Ky.val]
     rw[E1 f _ (by omega)]
     omega
    ·simp only[Ky.val]
     rw[E1 f _ (by omega)]
     omega
theorem Vz {m n:Nat} (h:ky m=ky n):m=n:=by
 have h1:=E1 m m (Nat.le_refl _)
 have h2:=E1 n n (Nat.le_refl _)
 unfold ky at h
 rw[h] at h1
 exact h1.symm.trans h2
theorem xp: ∀ (T:Tr) (k j:Ky) (x:D),(T.set k x).get j=if j=k then x else T.get j
 | .nil, .e,j,x=> by cases j <;> simp[Tr.set,Tr.get]
 | .nil, .o k,j,x=> by
   have ih:=fun j=> xp .nil k j x
   cases j <;> simp[Tr.set,Tr.get,ih]
 | .nil, .i k,j,x=> by
   have ih:=fun j=> xp .nil k j x
   cases j <;> simp[Tr.set,Tr.get,ih]
 | .nd d l r, .e,j,x=> by cases j <;> simp[Tr.set,Tr.get]
 | .nd d l r, .o k,j,x=> by
   have ih:=fun j=> xp l k j x
   cases j <;> simp[Tr.set,Tr.get,ih]
 | .nd d l r, .i k,j,x=> by
   have ih:=fun j=> xp r k j x
   cases j <;> simp[Tr.set,Tr.get,ih]
def EM (T:Tr):Sg:=fun t=> T.get (ky t)
@[simp] theorem qeZ (T:Tr) (t:Nat):EM T t=T.get (ky t):=id rfl
@[simp] theorem qjM (T:Tr) (t:Nat) (d:D):l5 (EM T) t d=EM (T.set (ky t) d):=by
 funext s
 simp only[l5,EM,xp]
 by_cases h:s=t
 ·simp[h]
 ·have: ¬ky s=ky t:=fun e=> h (Vz e)
  simp[h,this]
theorem VS:EM .nil=fun _=> .any:=by
 funext t
 simp[EM,Tr.get]
@[simp] theorem qiq (σ:Sg):jW [] σ=EM .nil:=by rw[VS];rfl
@[simp] theorem qeV (t:Nat) (l:List Nat) (σ:Sg):jW (t::l) σ=l5 (jW l σ) t (σ t):=id rfl
@[simp] theorem qjv (σ:Sg):rj [] σ=σ:=id rfl
@[simp] theorem qfL (t:Nat) (d:D) (l:List (Nat×D)) (σ:Sg):rj ((t,d)::l) σ=l5 (rj l σ) t d:=id rfl
def DW:Nat→List D→Tr
 | _, []=> .nil
 | n,d::l=> (DW (n+1) l).set (ky n) d
@[simp] theorem qbN (n:Nat):DW n []= .nil:=id rfl
@[simp] theorem qaG (n:Nat) (d:D) (l:List D):DW n (d::l)=(DW (n+1) l).set (ky n) d:=id rfl
theorem JK: ∀ (l:List D) (n t:Nat),(DW n l).get (ky t)=if n≤t then(l[t -n]?).getD .any else .any
 | [],n,t=> by simp[DW,Tr.get]
 | d::l,n,t=> by
   rw[DW,xp,JK l (n+1) t]
   by_cases h:t=n
   ·subst h;simp
   ·have: ¬ky t=ky n:=fun e=> h (Vz e)
    rw[if_neg this]
    by_cases h2:n+1≤t
    ·have h3:n≤t:=by omega
     rw[if_pos h2,if_pos h3]
     have:t -n=(t - (n+1)) +1:=by omega
     rw[this];simp
    ·have h3: ¬n≤t:=by omega
     rw[if_neg h2,if_neg h3]
@[simp] theorem qis (l:List D):d9 l=EM (DW 0 l):=by
 funext t
 simp[d9,EM,JK]
@[simp] theorem qlI (id:Nat) (x:Value) (L:D) (T:Tr):SP id x L (EM T)=EM (T.frz id x L):=by
 funext t
 simp only[SP,EM]
 generalize ky t=k
 induction T generalizing k with
 | nil=> simp[Tr.frz,Tr.get,Hy]
 | nd d l r ihl ihr=>
   cases k with
   | e=> rfl
   | o k=> exact ihl k
   | i k=> exact ihr k
@[simp] theorem qc9 (id:Nat) (x:Value) (L:D):Tr.nil.frz id x L= .nil:=_root_.id rfl
@[simp] theorem qe2 (id:Nat) (x:Value) (L d:D) (l r:Tr): (Tr.nd d l r).frz id x L= .nd (Hy id x L d) (l.frz id x L) (r.frz id x L):=_root_.id rfl
@[simp] theorem qmd (d:D) (l r:Tr): (Tr.nd d l r).get .e=d:=id rfl
@[simp] theorem qmb (d:D) (l r:Tr) (k:Ky): (Tr.nd d l r).get (.o k)=l.get k:=id rfl
@[simp] theorem qmc (d:D) (l r:Tr) (k:Ky): (Tr.nd d l r).get (.i k)=r.get k:=id rfl
@[simp] theorem qjP (x:D):Tr.nil.set .e x= .nd x .nil .nil:=id rfl
@[simp] theorem qjN (k:Ky) (x:D):Tr.nil.set (.o k) x= .nd .any (Tr.set .nil k x) .nil:=id rfl
@[simp] theorem qjO (k:Ky) (x:D):Tr.nil.set (.i k) x= .nd .any .nil (Tr.set .nil k x):=id rfl
@[simp] theorem qma (d:D) (l r:Tr) (x:D): (Tr.nd d l r).set .e x= .nd x l r:=id rfl
@[simp] theorem ql8 (d:D) (l r:Tr) (k:Ky) (x:D): (Tr.nd d l r).set (.o k) x= .nd d (l.set k x) r:=id rfl
@[simp] theorem ql9 (d:D) (l r:Tr) (k:Ky) (x:D): (Tr.nd d l r).set (.i k) x= .nd d l (r.set k x):=id rfl
@[simp] theorem qmA:ky 0=Ky.e:=id rfl
@[simp] theorem qmz:ky 1=Ky.o (Ky.e):=id rfl
@[simp] theorem qmy:ky 2=Ky.i (Ky.e):=id rfl
@[simp] theorem qmx:ky 3=Ky.o (Ky.o (Ky.e)):=id rfl
@[simp] theorem qmw:ky 4=Ky.i (Ky.o (Ky.e)):=id rfl
@[simp] theorem qmv:ky 5=Ky.o (Ky.i (Ky.e)):=id rfl
@[simp] theorem qmu:ky 6=Ky.i (Ky.i (Ky.e)):=id rfl
@[simp] theorem qmt:ky 7=Ky.o (Ky.o (Ky.o (Ky.e))):=id rfl
@[simp] theorem qms:ky 8=Ky.i (Ky.o (Ky.o (Ky.e))):=id rfl
@[simp] theorem qmr:ky 9=Ky.o (Ky.i (Ky.o (Ky.e))):=id rfl
@[simp] theorem qlD:ky 10=Ky.i (Ky.i (Ky.o (Ky.e))):=id rfl
@[simp] theorem qlC:ky 11=Ky.o (Ky.o (Ky.i (Ky.e))):=id rfl
@[simp] theorem qlB:ky 12=Ky.i (Ky.o (Ky.i (Ky.e))):=id rfl
@[simp] theorem qlA:ky 13=Ky.o (Ky.i (Ky.i (Ky.e))):=id rfl
@[simp] theorem qlz:ky 14=Ky.i (Ky.i (Ky.i (Ky.e))):=id rfl
@[simp] theorem qly:ky 15=Ky.o (Ky.o (Ky.o (Ky.o (Ky.e)))):=id rfl
@[simp] theorem qlx:ky 16=Ky.i (Ky.o (Ky.o (Ky.o (Ky.e)))):=id rfl
@[simp] theorem qlw:ky 17=Ky.o (Ky.i (Ky.o (Ky.o (Ky.e)))):=id rfl
@[simp] theorem qlv:ky 18=Ky.i (Ky.i (Ky.o (Ky.o (Ky.e)))):=id rfl
@[simp] theorem qlu:ky 19=Ky.o (Ky.o (Ky.i (Ky.o (Ky.e)))):=id rfl
@[simp] theorem qlt:ky 20=Ky.i (Ky.o (Ky.i (Ky.o (Ky.e)))):=id rfl
@[simp] theorem qls:ky 21=Ky.o (Ky.i (Ky.i (Ky.o (Ky.e)))):=id rfl
@[simp] theorem qlr:ky 22=Ky.i (Ky.i (Ky.i (Ky.o (Ky.e)))):=id rfl
@[simp] theorem qlq:ky 23=Ky.o (Ky.o (Ky.o (Ky.i (Ky.e)))):=id rfl
@[simp] theorem qlp:ky 24=Ky.i (Ky.o (Ky.o (Ky.i (Ky.e)))):=id rfl
@[simp] theorem qlo:ky 25=Ky.o (Ky.i (Ky.o (Ky.i (Ky.e)))):=id rfl
@[simp] theorem qln:ky 26=Ky.i (Ky.i (Ky.o (Ky.i (Ky.e)))):=id rfl
@[simp] theorem qlm:ky 27=Ky.o (Ky.o (Ky.i (Ky.i (Ky.e)))):=id rfl
@[simp] theorem qll:ky 28=Ky.i (Ky.o (Ky.i (Ky.i (Ky.e)))):=id rfl
@[simp] theorem qlk:ky 29=Ky.o (Ky.i (Ky.i (Ky.i (Ky.e)))):=id rfl
@[simp] theorem qlj:ky 30=Ky.i (Ky.i (Ky.i (Ky.i (Ky.e)))):=id rfl
@[simp] theorem qli:ky 31=Ky.o (Ky.o (Ky.o (Ky.o (Ky.o (Ky.e))))):=id rfl
@[simp] theorem qlh:ky 32=Ky.i (Ky.o (Ky.o (Ky.o (Ky.o (Ky.e))))):=id rfl
@[simp] theorem qlg:ky 33=Ky.o (Ky.i (Ky.o (Ky.o (Ky.o (Ky.e))))):=id rfl
@[simp] theorem qlf:ky 34=Ky.i (Ky.i (Ky.o (Ky.o (Ky.o (Ky.e))))):=id rfl
@[simp] theorem qle:ky 35=Ky.o (Ky.o (Ky.i (Ky.o (Ky.o (Ky.e))))):=id rfl
@[simp] theorem qld:ky 36=Ky.i (Ky.o (Ky.i (Ky.o (Ky.o (Ky.e))))):=id rfl
@[simp] theorem qlc:ky 37=Ky.o (Ky.i (Ky.i (Ky.o (Ky.o (Ky.e))))):=id rfl
@[simp] theorem qlb:ky 38=Ky.i (Ky.i (Ky.i (Ky.o (Ky.o (Ky.e))))):=id rfl
@[simp] theorem qla:ky 39=Ky.o (Ky.o (Ky.o (Ky.i (Ky.o (Ky.e))))):=id rfl
@[simp] theorem qk9:ky 40=Ky.i (Ky.o (Ky.o (Ky.i (Ky.o (Ky.e))))):=id rfl
@[simp] theorem qk8:ky 41=Ky.o (Ky.i (Ky.o (Ky.i (Ky.o (Ky.e))))):=id rfl
@[simp] theorem qk7:ky 42=Ky.i (Ky.i (Ky.o (Ky.i (Ky.o (Ky.e))))):=id rfl
@[simp] theorem qk6:ky 43=Ky.o (Ky.o (Ky.i (Ky.i (Ky.o (Ky.e))))):=id rfl
@[simp] theorem qk5:ky 44=Ky.i (Ky.o (Ky.i (Ky.i (Ky.o (Ky.e))))):=id rfl
@[simp] theorem qk4:ky 45=Ky.o (Ky.i (Ky.i (Ky.i (Ky.o (Ky.e))))):=id rfl
@[simp] theorem qk3:ky 46=Ky.i (Ky.i (Ky.i (Ky.i (Ky.o (Ky.e))))):=id rfl
@[simp] theorem qk2:ky 47=Ky.o (Ky.o (Ky.o (Ky.o (Ky.i (Ky.e))))):=id rfl
@[simp] theorem qk1:ky 48=Ky.i (Ky.o (Ky.o (Ky.o (Ky.i (Ky.e))))):=id rfl
@[simp] theorem qk0:ky 49=Ky.o (Ky.i (Ky.o (Ky.o (Ky.i (Ky.e))))):=id rfl
@[simp] theorem qkZ:ky 50=Ky.i (Ky.i (Ky.o (Ky.o (Ky.i (Ky.e))))):=id rfl
@[simp] theorem qkY:ky 51=Ky.o (Ky.o (Ky.i (Ky.o (Ky.i (Ky.e))))):=id rfl
@[simp] theorem qkX:ky 52=Ky.i (Ky.o (Ky.i (Ky.o (Ky.i (Ky.e))))):=id rfl
@[simp] theorem qkW:ky 53=Ky.o (Ky.i (Ky.i (Ky.o (Ky.i (Ky.e))))):=id rfl
@[simp] theorem qkV:ky 54=Ky.i (Ky.i (Ky.i (Ky.o (Ky.i (Ky.e))))):=id rfl
@[simp] theorem qkU:ky 55=Ky.o (Ky.o (Ky.o (Ky.i (Ky.i (Ky.e))))):=id rfl
@[simp] theorem qkT:ky 56=Ky.i (Ky.o (Ky.o (Ky.i (Ky.i (Ky.e))))):=id rfl
@[simp] theorem qkS:ky 57=Ky.o (Ky.i (Ky.o (Ky.i (Ky.i (Ky.e))))):=id rfl
@[simp] theorem qkR:ky 58=Ky.i (Ky.i (Ky.o (Ky.i (Ky.i (Ky.e))))):=id rfl
@[simp] theorem qkQ:ky 59=Ky.o (Ky.o (Ky.i (Ky.i (Ky.i (Ky.e))))):=id rfl
@[simp] theorem qkP:ky 60=Ky.i (Ky.o (Ky.i (Ky.i (Ky.i (Ky.e))))):=id rfl
@[simp] theorem qkO:ky 61=Ky.o (Ky.i (Ky.i (Ky.i (Ky.i (Ky.e))))):=id rfl
@[simp] theorem qkN:ky 62=Ky.i (Ky.i (Ky.i (Ky.i (Ky.i (Ky.e))))):=id rfl
@[simp] theorem qkM:ky 63=Ky.o (Ky.o (Ky.o (Ky.o (Ky.o (Ky.o (Ky.e)))))):=id rfl
@[simp] theorem qkL:ky 64=Ky.i (Ky.o (Ky.o (Ky.o (Ky.o (Ky.o (Ky.e)))))):=id rfl
@[simp] theorem qkK:ky 65=Ky.o (Ky.i (Ky.o (Ky.o (Ky.o (Ky.o (Ky.e)))))):=id rfl
@[simp] theorem qkJ:ky 66=Ky.i (Ky.i (Ky.o (Ky.o (Ky.o (Ky.o (Ky.e)))))):=id rfl
@[simp] theorem qkI:ky 67=Ky.o (Ky.o (Ky.i (Ky.o (Ky.o (Ky.o (Ky.e)))))):=id rfl
@[simp] theorem qkH:ky 68=Ky.i (Ky.o (Ky.i (Ky.o (Ky.o (Ky.o (Ky.e)))))):=id rfl
@[simp] theorem qkG:ky 69=Ky.o (Ky.i (Ky.i (Ky.o (Ky.o (Ky.o (Ky.e)))))):=id rfl
@[simp] theorem qkF:ky 70=Ky.i (Ky.i (Ky.i (Ky.o (Ky.o (Ky.o (Ky.e)))))):=id rfl
@[simp] theorem qkE:ky 71=Ky.o (Ky.o (Ky.o (Ky.i (Ky.o (Ky.o (Ky.e)))))):=id rfl
@[simp] theorem qkD:ky 72=Ky.i (Ky.o (Ky.o (Ky.i (Ky.o (Ky.o (Ky.e)))))):=id rfl
@[simp] theorem qkC:ky 73=Ky.o (Ky.i (Ky.o (Ky.i (Ky.o (Ky.o (Ky.e)))))):=id rfl
@[simp] theorem qkB:ky 74=Ky.i (Ky.i (Ky.o (Ky.i (Ky.o (Ky.o (Ky.e)))))):=id rfl
@[simp] theorem qkA:ky 75=Ky.o (Ky.o (Ky.i (Ky.i (Ky.o (Ky.o (Ky.e)))))):=id rfl
@[simp] theorem qkz:ky 76=Ky.i (Ky.o (Ky.i (Ky.i (Ky.o (Ky.o (Ky.e)))))):=id rfl
@[simp] theorem qky:ky 77=Ky.o (Ky.i (Ky.i (Ky.i (Ky.o (Ky.o (Ky.e)))))):=id rfl
@[simp] theorem qkx:ky 78=Ky.i (Ky.i (Ky.i (Ky.i (Ky.o (Ky.o (Ky.e)))))):=id rfl
@[simp] theorem qkw:ky 79=Ky.o (Ky.o (Ky.o (Ky.o (Ky.i (Ky.o (Ky.e)))))):=id rfl
@[simp] theorem qkv:ky 80=Ky.i (Ky.o (Ky.o (Ky.o (Ky.i (Ky.o (Ky.e)))))):=id rfl
@[simp] theorem qku:ky 81=Ky.o (Ky.i (Ky.o (Ky.o (Ky.i (Ky.o (Ky.e)))))):=id rfl
@[simp] theorem qkt:ky 82=Ky.i (Ky.i (Ky.o (Ky.o (Ky.i (Ky.o (Ky.e)))))):=id rfl
@[simp] theorem qks:ky 83=Ky.o (Ky.o (Ky.i (Ky.o (Ky.i (Ky.o (Ky.e)))))):=id rfl
@[simp] theorem qkr:ky 84=Ky.i (Ky.o (Ky.i (Ky.o (Ky.i (Ky.o (Ky.e)))))):=id rfl
@[simp] theorem qkq:ky 85=Ky.o (Ky.i (Ky.i (Ky.o (Ky.i (Ky.o (Ky.e)))))):=id rfl
@[simp] theorem qkp:ky 86=Ky.i (Ky.i (Ky.i (Ky.o (Ky.i (Ky.o (Ky.e)))))):=id rfl
@[simp] theorem qko:ky 87=Ky.o (Ky.o (Ky.o (Ky.i (Ky.i (Ky.o (Ky.e)))))):=id rfl
@[simp] theorem qkn:ky 88=Ky.i (Ky.o (Ky.o (Ky.i (Ky.i (Ky.o (Ky.e)))))):=id rfl
@[simp] theorem qkm:ky 89=Ky.o (Ky.i (Ky.o (Ky.i (Ky.i (Ky.o (Ky.e)))))):=id rfl
@[simp] theorem qkl:ky 90=Ky.i (Ky.i (Ky.o (Ky.i (Ky.i (Ky.o (Ky.e)))))):=id rfl
@[simp] theorem qkk:ky 91=Ky.o (Ky.o (Ky.i (Ky.i (Ky.i (Ky.o (Ky.e)))))):=id rfl
@[simp] theorem qkj:ky 92=Ky.i (Ky.o (Ky.i (Ky.i (Ky.i (Ky.o (Ky.e)))))):=id rfl
@[simp] theorem qki:ky 93=Ky.o (Ky.i (Ky.i (Ky.i (Ky.i (Ky.o (Ky.e)))))):=id rfl
@[simp] theorem qkh:ky 94=Ky.i (Ky.i (Ky.i (Ky.i (Ky.i (Ky.o (Ky.e)))))):=id rfl
@[simp] theorem qkg:ky 95=Ky.o (Ky.o (Ky.o (Ky.o (Ky.o (Ky.i (Ky.e)))))):=id rfl
@[simp] theorem qkf:ky 96=Ky.i (Ky.o (Ky.o (Ky.o (Ky.o (Ky.i (Ky.e)))))):=id rfl
@[simp] theorem qke:ky 97=Ky.o (Ky.i (Ky.o (Ky.o (Ky.o (Ky.i (Ky.e)))))):=id rfl
@[simp] theorem qkd:ky 98=Ky.i (Ky.i (Ky.o (Ky.o (Ky.o (Ky.i (Ky.e)))))):=id rfl
@[simp] theorem qkc:ky 99=Ky.o (Ky.o (Ky.i (Ky.o (Ky.o (Ky.i (Ky.e)))))):=id rfl
@[simp] theorem qik:ky 100=Ky.i (Ky.o (Ky.i (Ky.o (Ky.o (Ky.i (Ky.e)))))):=id rfl
@[simp] theorem qij:ky 101=Ky.o (Ky.i (Ky.i (Ky.o (Ky.o (Ky.i (Ky.e)))))):=id rfl
@[simp] theorem qii:ky 102=Ky.i (Ky.i (Ky.i (Ky.o (Ky.o (Ky.i (Ky.e)))))):=id rfl
@[simp] theorem qih:ky 103=Ky.o (Ky.o (Ky.o (Ky.i (Ky.o (Ky.i (Ky.e)))))):=id rfl
@[simp] theorem qig:ky 104=Ky.i (Ky.o (Ky.o (Ky.i (Ky.o (Ky.i (Ky.e)))))):=id rfl
@[simp] theorem qif:ky 105=Ky.o (Ky.i (Ky.o (Ky.i (Ky.o (Ky.i (Ky.e)))))):=id rfl
@[simp] theorem qie:ky 106=Ky.i (Ky.i (Ky.o (Ky.i (Ky.o (Ky.i (Ky.e)))))):=id rfl
@[simp] theorem qid:ky 107=Ky.o (Ky.o (Ky.i (Ky.i (Ky.o (Ky.i (Ky.e)))))):=id rfl
@[simp] theorem qic:ky 108=Ky.i (Ky.o (Ky.i (Ky.i (Ky.o (Ky.i (Ky.e)))))):=id rfl
@[simp] theorem qib:ky 109=Ky.o (Ky.i (Ky.i (Ky.i (Ky.o (Ky.i (Ky.e)))))):=id rfl
@[simp] theorem qia:ky 110=Ky.i (Ky.i (Ky.i (Ky.i (Ky.o (Ky.i (Ky.e)))))):=id rfl
@[simp] theorem qh9:ky 111=Ky.o (Ky.o (Ky.o (Ky.o (Ky.i (Ky.i (Ky.e)))))):=id rfl
@[simp] theorem qh8:ky 112=Ky.i (Ky.o (Ky.o (Ky.o (Ky.i (Ky.i (Ky.e)))))):=id rfl
@[simp] theorem qh7:ky 113=Ky.o (Ky.i (Ky.o (Ky.o (Ky.i (Ky.i (Ky.e)))))):=id rfl
@[simp] theorem qh6:ky 114=Ky.i (Ky.i (Ky.o (Ky.o (Ky.i (Ky.i (Ky.e)))))):=id rfl
@[simp] theorem qh5:ky 115=Ky.o (Ky.o (Ky.i (Ky.o (Ky.i (Ky.i (Ky.e)))))):=id rfl
@[simp] theorem qh4:ky 116=Ky.i (Ky.o (Ky.i (Ky.o (Ky.i (Ky.i (Ky.e)))))):=id rfl
@[simp] theorem qh3:ky 117=Ky.o (Ky.i (Ky.i (Ky.o (Ky.i (Ky.i (Ky.e)))))):=id rfl
@[simp] theorem qh2:ky 118=Ky.i (Ky.i (Ky.i (Ky.o (Ky.i (Ky.i (Ky.e)))))):=id rfl
@[simp] theorem qh1:ky 119=Ky.o (Ky.o (Ky.o (Ky.i (Ky.i (Ky.i (Ky.e)))))):=id rfl
@[simp] theorem qh0:ky 120=Ky.i (Ky.o (Ky.o (Ky.i (Ky.i (Ky.i (Ky.e)))))):=id rfl
@[simp] theorem qhZ:ky 121=Ky.o (Ky.i (Ky.o (Ky.i (Ky.i (Ky.i (Ky.e)))))):=id rfl
@[simp] theorem qhY:ky 122=Ky.i (Ky.i (Ky.o (Ky.i (Ky.i (Ky.i (Ky.e)))))):=id rfl
@[simp] theorem qhX:ky 123=Ky.o (Ky.o (Ky.i (Ky.i (Ky.i (Ky.i (Ky.e)))))):=id rfl
@[simp] theorem qhW:ky 124=Ky.i (Ky.o (Ky.i (Ky.i (Ky.i (Ky.i (Ky.e)))))):=id rfl
@[simp] theorem qhV:ky 125=Ky.o (Ky.i (Ky.i (Ky.i (Ky.i (Ky.i (Ky.e)))))):=id rfl
@[simp] theorem qhU:ky 126=Ky.i (Ky.i (Ky.i (Ky.i (Ky.i (Ky.i (Ky.e)))))):=id rfl
@[simp] theorem qhT:ky 127=Ky.o (Ky.o (Ky.o (Ky.o (Ky.o (Ky.o (Ky.o (Ky.e))))))):=id rfl
@[simp] theorem qhS:ky 128=Ky.i (Ky.o (Ky.o (Ky.o (Ky.o (Ky.o (Ky.o (Ky.e))))))):=id rfl
@[simp] theorem qhR:ky 129=Ky.o (Ky.i (Ky.o (Ky.o (Ky.o (Ky.o (Ky.o (Ky.e))))))):=id rfl
@[simp] theorem qhQ:ky 130=Ky.i (Ky.i (Ky.o (Ky.o (Ky.o (Ky.o (Ky.o (Ky.e))))))):=id rfl
@[simp] theorem qhP:ky 131=Ky.o (Ky.o (Ky.i (Ky.o (Ky.o (Ky.o (Ky.o (Ky.e))))))):=id rfl
@[simp] theorem qhO:ky 132=Ky.i (Ky.o (Ky.i (Ky.o (Ky.o (Ky.o (Ky.o (Ky.e))))))):=id rfl
@[simp] theorem qhN:ky 133=Ky.o (Ky.i (Ky.i (Ky.o (Ky.o (Ky.o (Ky.o (Ky.e))))))):=id rfl
@[simp] theorem qhM:ky 134=Ky.i (Ky.i (Ky.i (Ky.o (Ky.o (Ky.o (Ky.o (Ky.e))))))):=id rfl
@[simp] theorem qhL:ky 135=Ky.o (Ky.o (Ky.o (Ky.i (Ky.o (Ky.o (Ky.o (Ky.e))))))):=id rfl
@[simp] theorem qhK:ky 136=Ky.i (Ky.o (Ky.o (Ky.i (Ky.o (Ky.o (Ky.o (Ky.e))))))):=id rfl
@[simp] theorem qhJ:ky 137=Ky.o (Ky.i (Ky.o (Ky.i (Ky.o (Ky.o (Ky.o (Ky.e))))))):=id rfl
@[simp] theorem qhI:ky 138=Ky.i (Ky.i (Ky.o (Ky.i (Ky.o (Ky.o (Ky.o (Ky.e))))))):=id rfl
@[simp] theorem qhH:ky 139=Ky.o (Ky.o (Ky.i (Ky.i (Ky.o (Ky.o (Ky.o (Ky.e))))))):=id rfl
@[simp] theorem qhG:ky 140=Ky.i (Ky.o (Ky.i (Ky.i (Ky.o (Ky.o (Ky.o (Ky.e))))))):=id rfl
@[simp] theorem qhF:ky 141=Ky.o (Ky.i (Ky.i (Ky.i (Ky.o (Ky.o (Ky.o (Ky.e))))))):=id rfl
@[simp] theorem qhE:ky 142=Ky.i (Ky.i (Ky.i (Ky.i (Ky.o (Ky.o (Ky.o (Ky.e))))))):=id rfl
@[simp] theorem qhD:ky 143=Ky.o (Ky.o (Ky.o (Ky.o (Ky.i (Ky.o (Ky.o (Ky.e))))))):=id rfl
@[simp] theorem qhC:ky 144=Ky.i (Ky.o (Ky.o (Ky.o (Ky.i (Ky.o (Ky.o (Ky.e))))))):=id rfl
@[simp] theorem qhB:ky 145=Ky.o (Ky.i (Ky.o (Ky.o (Ky.i (Ky.o (Ky.o (Ky.e))))))):=id rfl
@[simp] theorem qhA:ky 146=Ky.i (Ky.i (Ky.o (Ky.o (Ky.i (Ky.o (Ky.o (Ky.e))))))):=id rfl
@[simp] theorem qhz:ky 147=Ky.o (Ky.o (Ky.i (Ky.o (Ky.i (Ky.o (Ky.o (Ky.e))))))):=id rfl
@[simp] theorem qhy:ky 148=Ky.i (Ky.o (Ky.i (Ky.o (Ky.i (Ky.o (Ky.o (Ky.e))))))):=id rfl
@[simp] theorem qhx:ky 149=Ky.o (Ky.i (Ky.i (Ky.o (Ky.i (Ky.o (Ky.o (Ky.e))))))):=id rfl
@[simp] theorem qhw:ky 150=Ky.i (Ky.i (Ky.i (Ky.o (Ky.i (Ky.o (Ky.o (Ky.e))))))):=id rfl
@[simp] theorem qhv:ky 151=Ky.o (Ky.o (Ky.o (Ky.i (Ky.i (Ky.o (Ky.o (Ky.e))))))):=id rfl
@[simp] theorem qhu:ky 152=Ky.i (Ky.o (Ky.o (Ky.i (Ky.i (Ky.o (Ky.o (Ky.e))))))):=id rfl
@[simp] theorem qht:ky 153=Ky.o (Ky.i (Ky.o (Ky.i (Ky.i (Ky.o (Ky.o (Ky.e))))))):=id rfl
@[simp] theorem qhs:ky 154=Ky.i (Ky.i (Ky.o (Ky.i (Ky.i (Ky.o (Ky.o (Ky.e))))))):=id rfl
@[simp] theorem qhr:ky 155=Ky.o (Ky.o (Ky.i (Ky.i (Ky.i (Ky.o (Ky.o (Ky.e))))))):=id rfl
@[simp] theorem qhq:ky 156=Ky.i (Ky.o (Ky.i (Ky.i (Ky.i (Ky.o (Ky.o (Ky.e))))))):=id rfl
@[simp] theorem qhp:ky 157=Ky.o (Ky.i (Ky.i (Ky.i (Ky.i (Ky.o (Ky.o (Ky.e))))))):=id rfl
@[simp] theorem qho:ky 158=Ky.i (Ky.i (Ky.i (Ky.i (Ky.i (Ky.o (Ky.o (Ky.e))))))):=id rfl
@[simp] theorem qhn:ky 159=Ky.o (Ky.o (Ky.o (Ky.o (Ky.o (Ky.i (Ky.o (Ky.e))))))):=id rfl
@[simp] theorem qhm:ky 160=Ky.i (Ky.o (Ky.o (Ky.o (Ky.o (Ky.i (Ky.o (Ky.e))))))):=id rfl
@[simp] theorem qhl:ky 161=Ky.o (Ky.i (Ky.o (Ky.o (Ky.o (Ky.i (Ky.o (Ky.e))))))):=id rfl
@[simp] theorem qhk:ky 162=Ky.i (Ky.i (Ky.o (Ky.o (Ky.o (Ky.i (Ky.o (Ky.e))))))):=id rfl
@[simp] theorem qhj:ky 163=Ky.o (Ky.o (Ky.i (Ky.o (Ky.o (Ky.i (Ky.o (Ky.e))))))):=id rfl
@[simp] theorem qhi:ky 164=Ky.i (Ky.o (Ky.i (Ky.o (Ky.o (Ky.i (Ky.o (Ky.e))))))):=id rfl
@[simp] theorem qhh:ky 165=Ky.o (Ky.i (Ky.i (Ky.o (Ky.o (Ky.i (Ky.o (Ky.e))))))):=id rfl
@[simp] theorem qhg:ky 166=Ky.i (Ky.i (Ky.i (Ky.o (Ky.o (Ky.i (Ky.o (Ky.e))))))):=id rfl
@[simp] theorem qhf:ky 167=Ky.o (Ky.o (Ky.o (Ky.i (Ky.o (Ky.i (Ky.o (Ky.e))))))):=id rfl
@[simp] theorem qhe:ky 168=Ky.i (Ky.o (Ky.o (Ky.i (Ky.o (Ky.i (Ky.o (Ky.e))))))):=id rfl
@[simp] theorem qhd:ky 169=Ky.o (Ky.i (Ky.o (Ky.i (Ky.o (Ky.i (Ky.o (Ky.e))))))):=id rfl
@[simp] theorem qhc:ky 170=Ky.i (Ky.i (Ky.o (Ky.i (Ky.o (Ky.i (Ky.o (Ky.e))))))):=id rfl
@[simp] theorem qhb:ky 171=Ky.o (Ky.o (Ky.i (Ky.i (Ky.o (Ky.i (Ky.o (Ky.e))))))):=id rfl
@[simp] theorem qha:ky 172=Ky.i (Ky.o (Ky.i (Ky.i (Ky.o (Ky.i (Ky.o (Ky.e))))))):=id rfl
@[simp] theorem qg9:ky 173=Ky.o (Ky.i (Ky.i (Ky.i (Ky.o (Ky.i (Ky.o (Ky.e))))))):=id rfl
@[simp] theorem qg8:ky 174=Ky.i (Ky.i (Ky.i (Ky.i (Ky.o (Ky.i (Ky.o (Ky.e))))))):=id rfl
@[simp] theorem qg7:ky 175=Ky.o (Ky.o (Ky.o (Ky.o (Ky.i (Ky.i (Ky.o (Ky.e))))))):=id rfl
@[simp] theorem qg6:ky 176=Ky.i (Ky.o (Ky.o (Ky.o (Ky.i (Ky.i (Ky.o (Ky.e))))))):=id rfl
@[simp] theorem qg5:ky 177=Ky.o (Ky.i (Ky.o (Ky.o (Ky.i (Ky.i (Ky.o (Ky.e))))))):=id rfl
@[simp] theorem qg4:ky 178=Ky.i (Ky.i (Ky.o (Ky.o (Ky.i (Ky.i (Ky.o (Ky.e))))))):=id rfl
@[simp] theorem qg3:ky 179=Ky.o (Ky.o (Ky.i (Ky.o (Ky.i (Ky.i (Ky.o (Ky.e))))))):=id rfl
@[simp] theorem qg2:ky 180=Ky.i (Ky.o (Ky.i (Ky.o (Ky.i (Ky.i (Ky.o (Ky.e))))))):=id rfl
@[simp] theorem qg1:ky 181=Ky.o (Ky.i (Ky.i (Ky.o (Ky.i (Ky.i (Ky.o (Ky.e))))))):=id rfl
@[simp] theorem qg0:ky 182=Ky.i (Ky.i (Ky.i (Ky.o (Ky.i (Ky.i (Ky.o (Ky.e))))))):=id rfl
@[simp] theorem qgZ:ky 183=Ky.o (Ky.o (Ky.o (Ky.i (Ky.i (Ky.i (Ky.o (Ky.e))))))):=id rfl
@[simp] theorem qgY:ky 184=Ky.i (Ky.o (Ky.o (Ky.i (Ky.i (Ky.i (Ky.o (Ky.e))))))):=id rfl
@[simp] theorem qgX:ky 185=Ky.o (Ky.i (Ky.o (Ky.i (Ky.i (Ky.i (Ky.o (Ky.e))))))):=id rfl
@[simp] theorem qgW:ky 186=Ky.i (Ky.i (Ky.o (Ky.i (Ky.i (Ky.i (Ky.o (Ky.e))))))):=id rfl
@[simp] theorem qgV:ky 187=Ky.o (Ky.o (Ky.i (Ky.i (Ky.i (Ky.i (Ky.o (Ky.e))))))):=id rfl
@[simp] theorem qgU:ky 188=Ky.i (Ky.o (Ky.i (Ky.i (Ky.i (Ky.i (Ky.o (Ky.e))))))):=id rfl
@[simp] theorem qgT:ky 189=Ky.o (Ky.i (Ky.i (Ky.i (Ky.i (Ky.i (Ky.o (Ky.e))))))):=id rfl
@[simp] theorem qgS:ky 190=Ky.i (Ky.i (Ky.i (Ky.i (Ky.i (Ky.i (Ky.o (Ky.e))))))):=id rfl
@[simp] theorem qgR:ky 191=Ky.o (Ky.o (Ky.o (Ky.o (Ky.o (Ky.o (Ky.i (Ky.e))))))):=id rfl
@[simp] theorem qgQ:ky 192=Ky.i (Ky.o (Ky.o (Ky.o (Ky.o (Ky.o (Ky.i (Ky.e))))))):=id rfl
@[simp] theorem qgP:ky 193=Ky.o (Ky.i (Ky.o (Ky.o (Ky.o (Ky.o (Ky.i (Ky.e))))))):=id rfl
@[simp] theorem qgO:ky 194=Ky.i (Ky.i (Ky.o (Ky.o (Ky.o (Ky.o (Ky.i (Ky.e))))))):=id rfl
@[simp] theorem qgN:ky 195=Ky.o (Ky.o (Ky.i (Ky.o (Ky.o (Ky.o (Ky.i (Ky.e))))))):=id rfl
@[simp] theorem qgM:ky 196=Ky.i (Ky.o (Ky.i (Ky.o (Ky.o (Ky.o (Ky.i (Ky.e))))))):=id rfl
@[simp] theorem qgL:ky 197=Ky.o (Ky.i (Ky.i (Ky.o (Ky.o (Ky.o (Ky.i (Ky.e))))))):=id rfl
@[simp] theorem qgK:ky 198=Ky.i (Ky.i (Ky.i (Ky.o (Ky.o (Ky.o (Ky.i (Ky.e))))))):=id rfl
@[simp] theorem qgJ:ky 199=Ky.o (Ky.o (Ky.o (Ky.i (Ky.o (Ky.o (Ky.i (Ky.e))))))):=id rfl
@[simp] theorem qgI:ky 200=Ky.i (Ky.o (Ky.o (Ky.i (Ky.o (Ky.o (Ky.i (Ky.e))))))):=id rfl
@[simp] theorem qgH:ky 201=Ky.o (Ky.i (Ky.o (Ky.i (Ky.o (Ky.o (Ky.i (Ky.e))))))):=id rfl
@[simp] theorem qeF (H:ab) (i:Nat):ck [] H i=H i:=id rfl
@[simp] theorem qeH (d:Option Nat) (g:Option (Nat×Bool)) (c:COp) (l:List CI) (H:ab) (i:Nat):ck (.op d g c::l) H i=if(CI.op d g c).wid=some i then none else ck l H i:=id rfl
@[simp] theorem qeG (a b:Nat) (l:List CI) (H:ab) (i:Nat):ck (.frz a b::l) H i=H i:=id rfl
@[simp] theorem qfW (dst_:Option Nat) (gd_:Option (Nat×Bool)) (x:Operand): (CI.op dst_ gd_ (.mv x)).wid=dst_:=id rfl
@[simp] theorem qca (dst_:Option Nat) (gd_:Option (Nat×Bool)) (c:Operand) (x:Operand) (y:Operand): (CI.op dst_ gd_ (.pick c x y)).wid=dst_:=id rfl
@[simp] theorem qbF (dst_:Option Nat) (gd_:Option (Nat×Bool)) (el:Nat) (z:List Value): (CI.op dst_ gd_ (.alloc el z)).wid=dst_:=id rfl
@[simp] theorem qbD (dst_:Option Nat) (gd_:Option (Nat×Bool)) (z:List Value) (parts:List (Nat×Nat×Operand)): (CI.op dst_ gd_ (.build z parts)).wid=dst_:=id rfl
@[simp] theorem ZQ (dst_:Option Nat) (gd_:Option (Nat×Bool)) (el:Nat) (n:Nat) (parts:List Operand): (CI.op dst_ gd_ (.bslice el n parts)).wid=dst_:=id rfl
@[simp] theorem qcb (dst_:Option Nat) (gd_:Option (Nat×Bool)) (agg:Bool) (sz:Nat) (x:Operand): (CI.op dst_ gd_ (.load agg sz x)).wid=dst_:=id rfl
@[simp] theorem Zk (d:Option Nat) (g:Option (Nat×Bool)) (r sz:Nat) (x y:Operand): (CI.op d g (.store (some r) sz x y)).wid=some r:=id rfl
@[simp] theorem qbz (dst_:Option Nat) (gd_:Option (Nat×Bool)) (x:Operand): (CI.op dst_ gd_ (.nilck x)).wid=dst_:=id rfl
@[simp] theorem qbE (dst_:Option Nat) (gd_:Option (Nat×Bool)) (op:BinOp) (x:Operand) (y:Operand): (CI.op dst_ gd_ (.arith op x y)).wid=dst_:=id rfl
@[simp] theorem qdY (dst_:Option Nat) (gd_:Option (Nat×Bool)) (neg:Bool) (agg:Bool) (ks:List Oy) (x:Operand) (y:Operand): (CI.op dst_ gd_ (.eql neg agg ks x y)).wid=dst_:=id rfl
@[simp] theorem qb9 (dst_:Option Nat) (gd_:Option (Nat×Bool)) (x:Operand) (y:Operand): (CI.op dst_ gd_ (.scat x y)).wid=dst_:=id rfl
@[simp] theorem qbB (dst_:Option Nat) (gd_:Option (Nat×Bool)) (off:Nat) (x:Operand): (CI.op dst_ gd_ (.faddr off x)).wid=dst_:=id rfl
@[simp] theorem qbA (dst_:Option Nat) (gd_:Option (Nat×Bool)) (n:Nat) (x:Operand) (i:Operand): (CI.op dst_ gd_ (.iaddr n x i)).wid=dst_:=id rfl
@[simp] theorem qdX (dst_:Option Nat) (gd_:Option (Nat×Bool)) (x:Operand) (i:Nat): (CI.op dst_ gd_ (.ext x i)).wid=dst_:=id rfl
@[simp] theorem qdW (dst_:Option Nat) (gd_:Option (Nat×Bool)) (x:Operand): (CI.op dst_ gd_ (.len x)).wid=dst_:=id rfl
@[simp] theorem qfX (dst_:Option Nat) (gd_:Option (Nat×Bool)) (mx:Bool) (xs:List Operand): (CI.op dst_ gd_ (.mm mx xs)).wid=dst_:=id rfl
@[simp] theorem qcc (dst_:Option Nat) (gd_:Option (Nat×Bool)) (f:Nat) (args:List Operand): (CI.op dst_ gd_ (.call f args)).wid=dst_:=id rfl
@[simp] theorem qbC (dst_:Option Nat) (gd_:Option (Nat×Bool)) (r f:Nat) (args:List Operand): (CI.op dst_ gd_ (.callb r f args)).wid=some r:=id rfl
end Go.Gv

namespace Go.Gv
open Cod (enc dec)
abbrev B:=ByteArray
structure U8 where
 val:Int
deriving DecidableEq
instance:Cod U8 where
 wd:=1
 enc n:= .v (.int .u8 n.val)
 dec | .v (.int .u8 n)=> some ⟨n⟩ | _=> none
 kn _:=rfl
 wid _:=rfl
 dec_enc _:=rfl
 le d x h:=by
  split at h
  ·cases h;exact .same _
  ·cases h
@[simp] theorem qiQ (n:U8):enc n= .v (.int .u8 n.val):=id rfl
@[simp] theorem qiY (n:Int):dec (X:=U8) (.v (.int .u8 n))=some ⟨n⟩:=id rfl
@[simp] theorem qiN (n:U8):U8.mk n.val=n:=id rfl
structure qdO where
 nm:B
 vl:B
deriving DecidableEq
instance:Cod qdO where
 wd:=2
 enc s:= .agg [enc s.nm,enc s.vl]
 dec | .agg [x0,x1]=> (dec x0).bind fun x0=> (dec x1).bind fun x1=> some ⟨x0,x1⟩ | _=> none
 kn _:=rfl
 wid _:=rfl
 dec_enc s:=by simp
 le d x h:=by
  split at h
  ·simp only[Option.bind_eq_some_iff] at h
   obtain⟨x0,h0,x1,h1,h⟩:=h
   cases h
   exact LeL.agg (.cons (Cod.le _ _ h0) (.cons (Cod.le _ _ h1) .nil))
  ·cases h
structure Span where
 b:Int
 e:Int
deriving DecidableEq
instance:Cod Span where
 wd:=2
 enc s:= .agg [enc s.b,enc s.e]
 dec | .agg [x0,x1]=> (dec x0).bind fun x0=> (dec x1).bind fun x1=> some ⟨x0,x1⟩ | _=> none
 kn _:=rfl
 wid _:=rfl
 dec_enc s:=by simp
 le d x h:=by
  split at h
  ·simp only[Option.bind_eq_some_iff] at h
   obtain⟨x0,h0,x1,h1,h⟩:=h
   cases h
   exact LeL.agg (.cons (Cod.le _ _ h0) (.cons (Cod.le _ _ h1) .nil))
  ·cases h
structure Region where
 ty:B
 b:Int
 e:Int
 kv:List qdO
deriving DecidableEq
instance:Cod Region where
 wd:=4
 enc s:= .agg [enc s.ty,enc s.b,enc s.e,enc s.kv]
 dec | .agg [x0,x1,x2,x3]=> (dec x0).bind fun x0=> (dec x1).bind fun x1=> (dec x2).bind fun x2=> (dec x3).bind fun x3=> some ⟨x0,x1,x2,x3⟩ | _=> none
 kn _:=rfl
 wid _:=rfl
 dec_enc s:=by simp
 le d x h:=by
  split at h
  ·simp only[Option.bind_eq_some_iff] at h
   obtain⟨x0,h0,x1,h1,x2,h2,x3,h3,h⟩:=h
   cases h
   exact LeL.agg (.cons (Cod.le _ _ h0) (.cons (Cod.le _ _ h1) (.cons (Cod.le _ _ h2) (.cons (Cod.le _ _ h3) .nil))))
  ·cases h
end Go.Gv

namespace Go.Gv
open Go.Proofs
abbrev oA (d s:Nat):CI:= .op (some d) none (.mv (.tmp s))
abbrev oB (d:Nat) (c:COp):CI:= .op (some d) none c
abbrev oC (d w s:Nat):CI:= .op (some d) none (.load false w (.tmp s))
abbrev oD (d w s:Nat):CI:= .op (some d) none (.load true w (.tmp s))
abbrev oE (d n s:Nat):CI:= .op (some d) none (.faddr n (.tmp s))
abbrev oF (w a b:Nat):CI:= .op none none (.store none w (.tmp a) (.tmp b))
abbrev oG (d s:Nat):CI:= .op (some d) none (.nilck (.tmp s))
abbrev oH (d g:Nat) (c:COp):CI:= .op (some d) (some (g,true)) c
abbrev oI (d g:Nat) (c:COp):CI:= .op (some d) (some (g,false)) c
abbrev oT (n:Nat):Operand:= .tmp n
abbrev oK (v:Value):Operand:= .const v
abbrev oN (n:Int):Operand:= .const (.int .i64 n)
abbrev oS (b:ByteArray):Operand:= .const (.string b)
abbrev oi:Value:= .int .i64 0
abbrev oe:Value:= .string ⟨#[]⟩
abbrev ob:Value:= .bool false
abbrev on:Value:= .slice none 0 0
abbrev oZ (d f:Nat) (l:List Operand):CI:= .op (some d) none (.call f l)
abbrev oX (l:List CI) (a b:List Nat) (x:CC):CC:= .seq (.reg l) (.keep a b x)
def oR:Nat:=4
def Bq:Nat:=9
def ap:Nat:=10
def ep:Nat:=11
def oM:Nat:=12
def qE:Nat:=13
def kQ:Nat:=14
def mI:Nat:=15
def jl:Nat:=16
def hX:Nat:=17
def jk:Nat:=18
def cz:Nat:=21
def oO:Nat:=22
def bC:Nat:=24
def mL:Nat:=26
def bB:Nat:=28
def qD:Nat:=29
def dA:Nat:=30
def ah:Nat:=31
def dz:Nat:=32
def eH:Nat:=33
def fl:Nat:=34
def bR:Nat:=35
def af:Nat:=36
def bF:Nat:=37
def dy:Nat:=38
def am:Nat:=39
def dO:Nat:=40
def fe:Nat:=41
def kM:Nat:=42
def dq:Nat:=43
def dn:Nat:=44
def cN:Nat:=45
def aZ:Nat:=46
def f7:Nat:=47
def mM:Nat:=48
def bx:Nat:=49
def ir:Nat:=50
def ft:Nat:=51
def cp:Nat:=52
def LQ:Nat:=53
def kO:Nat:=54
def aP:Nat:=55
def cq:Nat:=56
def fD:Nat:=57
def gu:Nat:=58
def bP:Nat:=59
def ac:Nat:=60
def ym:Nat:=61
def cw:Nat:=62
def cx:Nat:=63
def dh:Nat:=64
def kN:Nat:=65
def eN:Nat:=67
def kP:Nat:=69
def gq:Nat:=70
def ff:Nat:=72
def a5:Nat:=73
def cL:Nat:=74
def ae:Nat:=75
def cK:Nat:=76
def aQ:Nat:=77
def bf:Nat:=78
def bL:Nat:=79
def bc:Nat:=80
def az:Nat:=81
def gO:Nat:=82
def gA:Nat:=83
def oJ:Nat:=84
def fA:Nat:=85
def eI:Nat:=86
def bJ:Nat:=87
def oL:Nat:=88
def dt:Nat:=89
def dr:Nat:=90
def oQ:Nat:=91
def oP:Nat:=92
def a7:Nat:=93
def b9:Nat:=94
def aW:Nat:=95
def aN:Nat:=96
def ba:Nat:=97
def bl:Nat:=98
def gp:Nat:=99
def du:Nat:=100
def cv:Nat:=101
def hU:Nat:=102
def cV:Nat:=103
def mK:Nat:=104
def EO:Nat:=105
def I5:Nat:=106
def LR:Nat:=107
def dN:Nat:=108
def gD:Nat:=109
def dW:Nat:=110
def fE:Nat:=111
def cX:Nat:=112
def gr:Nat:=113
def eB:Nat:=114
def cA:Nat:=115
def sp:Nat:=116
def HC:Nat:=117
def bS:Nat:=118
def eA:Nat:=120
def gB:Nat:=124
def fM:Nat:=125
def di:Nat:=128
def cM:Nat:=129
def gU:Nat:=130
def ef:Nat:=131
def dD:Nat:=132
def dV:Nat:=133
def fp:Nat:=134
def aJ:Nat:=135
def fB:Nat:=136
def eU:Nat:=137
def bO:Nat:=138
def gn:Nat:=139
def eJ:Nat:=140
def f6:Nat:=141
def mJ:Nat:=142
def dP:Nat:=145
def dU:Nat:=146
def dx:Nat:=149
def gP:Nat:=150
def ei:Nat:=151
def ji:Nat:=153
def gC:Nat:=154
def eD:Nat:=155
def fm:Nat:=156
def ch:Nat:=157
def jj:Nat:=158
def eT:Nat:=159
def eS:Nat:=160
def eg:Nat:=161
def ea:Nat:=162
def bw:Nat:=163
def gl:Nat:=164
def bb:Nat:=165
def gk:Nat:=166
def gj:Nat:=167
def gm:Nat:=168
def bG:Nat:=169
def vo:Nat:=171
def vn:Nat:=172
def ez:Nat:=174
def d6:Nat:=175
def iq:Nat:=176
def bQ:Nat:=179
def cB:Nat:=180
def eW:Nat:=181
def bM:Nat:=182
def ak:Nat:=183
def eV:Nat:=184
def eC:Nat:=185
def d5:Nat:=186
def dT:Nat:=187
def gi:Nat:=189
def dB:Nat:=191
def fL:Nat:=192
def dj:Nat:=193
def bp:Nat:=194
def fC:Nat:=195
def kX:Nat:=200
def uo:Nat:=201
def EN:Nat:=202
def lW:Nat:=203
def cY:Nat:=204
def dM:Nat:=205
def un:Nat:=206
def tm:Nat:=207
def rD:Nat:=208
def bT:Nat:=209
def dC:Nat:=210
def de:Nat:=211
def cf:Nat:=212
def eh:Nat:=223
def fq:Nat:=224
def bK:Nat:=233
def eX:Nat:=236
def ZY:Nat:=3
def vD:Nat:=5
def aF:Nat:=9
def aH:Nat:=29
def ag:Nat:=32
def aq:Nat:=35
def gJ:Nat:=38
def xL:Nat:=61
def aB:Nat:=63
def kV:Nat:=67
def tD:Nat:=75
def db:Nat:=83
def aC:Nat:=86
def vE:Nat:=99
def rG:Nat:=103
def yK:Nat:=106
def uJ:Nat:=108
def Jg:Nat:=119
def xK:Nat:=189
theorem ay:Tryz.prog.follows .mixedOrders=true:=by kernel_rfl
end Go.Gv
