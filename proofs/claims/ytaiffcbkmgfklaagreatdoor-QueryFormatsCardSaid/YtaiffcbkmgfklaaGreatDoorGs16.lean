/- A part of the framework and of the walks: T11 T12. -/
import Derived.Test.YtaiffcbkmgfklaaGreatDoorGs15
set_option linter.unusedSimpArgs false
set_option linter.unusedVariables false

namespace Go.Gv
open Cod (enc dec)
@[simp] theorem qbG (H:ae) (x y:Value):FrzTo H (.v x) (.v y)=(x=y):=by
 refine propext ⟨fun h=> ?_,fun h=> h ▸ .same _⟩
 cases h;rfl
@[simp] theorem qdz (H:ae) (d:D):FrzTo H d d=True:=propext ⟨fun _=> trivial,fun _=> .same d⟩
@[simp] theorem qgM (H:ae) (n:Nat) (es:List D):FrzTo H (.v (.slice none 0 0)) (.list n es)=(es= []):=by
 refine propext ⟨fun h=> ?_,fun h=> h ▸ .nil n⟩
 cases h;rfl
theorem Xp {H:ae} {a b a' b':D} (h1:FrzTo H a a') (h2:FrzTo H b b'):FrzTo H (.tup [a,b]) (.tup [a',b']):=
 .tup rfl fun k c c' hc hc'=> by
  match k with
  | 0=> simp at hc hc';subst hc;subst hc';exact h1
  | 1=> simp at hc hc';subst hc;subst hc';exact h2
  | k+2=> simp at hc
section
variable {P:Program} {S:Nat→Spc} {f:Nat} {im:List Nat} {cc:CC} {rs:List aK} {N:Nat}
end
end Go.Gv

namespace Go.Gv
open Cod (enc dec)
structure lB (X:Type) where
 dec:List D→Option X
 view:X→List D
 le: ∀ds x,dec ds=some x→LeL ds (view x)
def cY {X Y:Type} (A:lB X) (pre:X→Prop) (er:Y→D) (post:X→Y→Prop):Spc:=Tt A.dec pre fun x r=> ∃y,r=er y∧post x y
def mW {X:Type} (o:Option X) (k:X→Prop):Prop:=match o with | some x=> k x | none=> False
@[congr] theorem qc5 {X:Type} {o o':Option X} {k:X→Prop} (h:o=o'):mW o k=mW o' k:=by subst h;rfl
@[simp] theorem qeS {X:Type} (x:X) (k:X→Prop):mW (some x) k=k x:=id rfl
@[simp] theorem tj {X Y:Type} (A:lB X) (pre:X→Prop) (er:Y→D) (post:X→Y→Prop) (d:Nat) (ds:List D) (H:ae) (K:D→ae→Prop):
 (cY A pre er post).pt d ds H K=mW (A.dec ds) fun x=> pre x∧ ∀y,post x y→K (er y) H:=by
 refine propext ⟨fun h=> ?_,fun h=> ?_⟩
 ·obtain⟨⟨x,h1,h2⟩,h3⟩:=h
  rw[h1]
  refine⟨h2,fun y hy=> h3 _ fun x' hx' _=> ?_⟩
  rw[h1] at hx'
  cases hx'
  exact⟨y,rfl,hy⟩
 ·cases hd:A.dec ds with
  | none=> rw[hd] at h;exact h.elim
  | some x=>
    rw[hd] at h
    refine ST x hd h.1 ?_
    rintro r ⟨y,rfl,hy⟩
    exact h.2 y hy
@[simp] theorem qcH {X Y:Type} (A:lB X) (pre:X→Prop) (er:Y→D) (post:X→Y→Prop) (dst:Option Nat) (ds:List D) (H:ae) (K:D→ae→Prop):
 Rb dst (cY A pre er post) ds H K=mW (A.dec ds) fun x=> pre x∧ ∀y,post x y→K (er y) H:=tj A pre er post 0 ds H K
def Fin {Y:Type} (er:Y→D) (q:Y→Prop) (r:D) (H':ae):Prop:= ∃y,FrzTo H' r (er y)∧q y
theorem gj {Y:Type} {er:Y→D} {q:Y→Prop} {r:D} {H':ae} (y:Y) (h:FrzTo H' r (er y)) (hq:q y):Fin er q r H':=⟨y,h,hq⟩
@[simp] theorem qdF (q:Int→Prop) (n:Int) (H':ae):Fin enc q (.v (.int .i64 n)) H'=q n:=by
 simp[Fin,XB]
@[simp] theorem qbK (q:Bool→Prop) (n:Bool) (H':ae):Fin enc q (.v (.bool n)) H'=q n:=by
 refine propext ⟨fun⟨y,h1,h2⟩=> ?_,fun h=> ⟨n, .same _,h⟩⟩
 rw[U4,qbG] at h1
 cases h1
 exact h2
@[simp] theorem qdE (q:ByteArray→Prop) (n:ByteArray) (H':ae):Fin enc q (.v (.string n)) H'=q n:=by
 refine propext ⟨fun⟨y,h1,h2⟩=> ?_,fun h=> ⟨n, .same _,h⟩⟩
 rw[XA,qbG] at h1
 cases h1
 exact h2
def Walk {X Y:Type} (cc:CC) (rs:List aK) (S:Nat→Spc) (A:lB X) (pre:X→Prop) (er:Y→D) (post:X→Y→Prop):Prop:=
 ∀x,pre x→vc S cc (vO rs fun r H'=> Fin er (post x) r H') (eS (A.view x)) cZ
theorem ak {P:Program} {S:Nat→Spc} {f:Nat} {im:List Nat} {cc:CC} {rs:List aK} {N:Nat} {X Y:Type} {A:lB X} {pre:X→Prop} {er:Y→D} {post:X→Y→Prop}
 (hS: ∀f,Tri P f (S f).pt) (h:aS P f im cc rs N) (hN: ∀x,(A.view x).length≤N) (hw:Walk cc rs S A pre er post):Tri P f (cY A pre er post).pt:=
 SW hS h A.le hN fun x hp=> by
  refine rD cc _ _ (fun e σ H h=> ?_) (hw x hp)
  cases e with
  | ex i=> exact h
  | _=>
    simp only[vO] at h ⊢
    have key: ∀ (rs:List aK) (F G:List D→Prop),(∀ds,F ds→G ds)→l8 rs σ H F→l8 rs σ H G:=by
     intro rs
     induction rs with
     | nil=> exact fun F G hFG h=> hFG _ h
     | cons r rs ih=>
       intro F G hFG h
       cases r with
       | tmp t=> exact ih _ _ (fun ds h=> hFG _ h) h
       | cell t agg sz=> exact vP (fun d h=> ih _ _ (fun ds h=> hFG _ h) h) h
    exact key rs _ _ (fun ds ⟨y,h1,h2⟩=> ⟨_,h1,y,rfl,h2⟩) h
theorem oa {P : Program} {f : Nat} {fn : Func} {c : Code} (h : P.funcs[f]? = some fn) (hn : (fn.name == "runtime.NumGoroutine") = false) (hb : fn.body = some c) : fp P f := by
 intro args w
 have hn' : ¬ fn.name = "runtime.NumGoroutine" := by simpa using hn
 unfold callFunc
 simp[h,hn',hb]
theorem aA {P:Program} {f:Nat} {im:List Nat} {cc:CC} {rs:List aK} {N:Nat} (Ea:P.follows .mixedOrders=true)
 (h : ((P.funcs[f]?).bind fun g => if g.name == "runtime.NumGoroutine" then none else g.body.bind fun c => (bm P im g.ntmps c).bind fun cc => (g.results.toList.mapM (fC P)).bind fun rs => some (g.ntmps, cc, rs)) = some (N, eB cc, rs)) : aS P f im cc rs N := by
 cases hf:P.funcs[f]? with
 | none=> rw[hf] at h;cases h
 | some fn=>
   rw[hf] at h
   simp only[Option.bind_some] at h
   split at h
   ·cases h
   ·rename_i hn
    simp only[Option.bind_eq_some_iff,Option.some.injEq,Prod.mk.injEq] at h
    obtain⟨c,hb,q,hq,r,hr,rfl,rfl,rfl⟩:=h
    exact⟨Ea,oa hf (by simpa using hn) hb,fn,c,hf,hb,rfl,hq,hr⟩
def a0:lB Unit:=⟨ZK,fun _=> [],qkD⟩
def a1 (X:Type) [Cod X]:lB X:=⟨ZJ,fun x=> [enc x],qkC⟩
def a2 (X Y:Type) [Cod X] [Cod Y]:lB (X×Y):=⟨ZI,fun x=> [enc x.1,enc x.2],qkB⟩
def a3 (X Y Z:Type) [Cod X] [Cod Y] [Cod Z]:lB (X×Y×Z):=⟨ZH,fun x=> [enc x.1,enc x.2.1,enc x.2.2],qkA⟩
def a4 (X Y Z W:Type) [Cod X] [Cod Y] [Cod Z] [Cod W]:lB (X×Y×Z×W):=⟨ZG,fun x=> [enc x.1,enc x.2.1,enc x.2.2.1,enc x.2.2.2],qkz⟩
def aT {X:Type} (A:lB X):lB (List Int×X):=⟨fun ds=> match ds with | .tape L::r=> (A.dec r).map fun x=> (L,x) | _=> none,fun x=> .tape x.1::A.view x.2,fun ds x h=> by
 split at h
 ·simp only[Option.map_eq_some_iff] at h
  obtain⟨y,hy,rfl⟩:=h
  exact .cons (.same _) (A.le _ _ hy)
 ·cases h⟩
@[simp] theorem qhU:a0.dec []=some ():=id rfl
@[simp] theorem qhT {X:Type} [Cod X] (a:D): (a1 X).dec [a]=dec a:=id rfl
@[simp] theorem qhS {X Y:Type} [Cod X] [Cod Y] (a b:D): (a2 X Y).dec [a,b]=(dec a).bind fun x=> (dec b).bind fun y=> some (x,y):=id rfl
@[simp] theorem qhR {X Y Z:Type} [Cod X] [Cod Y] [Cod Z] (a b c:D): (a3 X Y Z).dec [a,b,c]=(dec a).bind fun x=> (dec b).bind fun y=> (dec c).bind fun z=> some (x,y,z):=id rfl
@[simp] theorem qhQ {X Y Z W:Type} [Cod X] [Cod Y] [Cod Z] [Cod W] (a b c d:D): (a4 X Y Z W).dec [a,b,c,d]=(dec a).bind fun x=> (dec b).bind fun y=> (dec c).bind fun z=> (dec d).bind fun w=> some (x,y,z,w):=id rfl
@[simp] theorem qhN {X:Type} (A:lB X) (L:List Int) (r:List D): (aT A).dec (.tape L::r)=(A.dec r).map fun x=> (L,x):=id rfl
@[simp] theorem qeo (x:Unit):a0.view x= []:=id rfl
@[simp] theorem qen {X:Type} [Cod X] (x:X): (a1 X).view x= [enc x]:=id rfl
@[simp] theorem qem {X Y:Type} [Cod X] [Cod Y] (x:X) (y:Y): (a2 X Y).view (x,y)= [enc x,enc y]:=id rfl
@[simp] theorem qel {X Y Z:Type} [Cod X] [Cod Y] [Cod Z] (x:X) (y:Y) (z:Z): (a3 X Y Z).view (x,y,z)= [enc x,enc y,enc z]:=id rfl
@[simp] theorem qek {X Y Z W:Type} [Cod X] [Cod Y] [Cod Z] [Cod W] (x:X) (y:Y) (z:Z) (w:W): (a4 X Y Z W).view (x,y,z,w)= [enc x,enc y,enc z,enc w]:=id rfl
@[simp] theorem qeg {X:Type} (A:lB X) (L:List Int) (x:X): (aT A).view (L,x)= .tape L::A.view x:=id rfl
attribute [simp] Cod.dec_enc
@[simp] theorem qhh (n:Int):dec (X:=Int) (.v (.int .i64 n))=some n:=id rfl
@[simp] theorem qdT (n:Bool):dec (X:=Bool) (.v (.bool n))=some n:=id rfl
@[simp] theorem qhf (n:ByteArray):dec (X:=ByteArray) (.v (.string n))=some n:=id rfl
@[simp] theorem qhg {X:Type} [Cod X]:dec (X:=List X) (.v (.slice none 0 0))=some []:=id rfl
@[simp] theorem qdS {X:Type} [Cod X] (n:Nat) (es:List D):dec (X:=List X) (.list n es)=if n=Cod.wd X then es.mapM (dec (X:=X)) else none:=id rfl
attribute [simp] Am
@[simp] theorem qao {X:Type} [Cod X] (l:List X):l.mapM (dec (X:=X) ∘enc)=some l:=by
 have:=Am l
 rwa [List.mapM_map] at this
def DX {Y Z:Type} [Cod Y] [Cod Z] (p:Y×Z):D:= .tup [enc p.1,enc p.2]
def Yf {Y Z W:Type} [Cod Y] [Cod Z] [Cod W] (p:Y×Z×W):D:= .tup [enc p.1,enc p.2.1,enc p.2.2]
def Zu (_:Unit):D:= .tup []
@[simp] theorem qj2 {Y Z:Type} [Cod Y] [Cod Z] (y:Y) (z:Z):DX (y,z)= .tup [enc y,enc z]:=id rfl
@[simp] theorem qj1 {Y Z W:Type} [Cod Y] [Cod Z] [Cod W] (y:Y) (z:Z) (w:W):Yf (y,z,w)= .tup [enc y,enc z,enc w]:=id rfl
@[simp] theorem qdG {Y Z:Type} [Cod Y] [Cod Z] (q:Y×Z→Prop) (a b:D) (H':ae):Fin DX q (.tup [a,b]) H'= ∃y z,FrzTo H' a (enc y)∧FrzTo H' b (enc z)∧q (y,z):=by
 refine propext ⟨fun⟨⟨y,z⟩,h1,h2⟩=> ?_,fun⟨y,z,h1,h2,h3⟩=> ⟨(y,z),Xp h1 h2,h3⟩⟩
 cases h1 with
 | same=> exact⟨y,z, .same _, .same _,h2⟩
 | tup hl h=> exact⟨y,z,h 0 _ _ rfl rfl,h 1 _ _ rfl rfl,h2⟩
@[simp] theorem qj3 (u:Unit):Zu u= .tup []:=id rfl
def rc:List (Nat×D)→Sg→Sg
 | [],σ=> σ
 | (t,d)::l,σ=> mG (rc l σ) t d
def ig:List (Nat×Res)→ae→ae
 | [],H=> H
 | (i,r)::l,H=> aq (ig l H) i (some r)
theorem Pg (σ:Sg):rc [] σ=σ:=id rfl
@[simp] theorem ZX (H:ae):ig [] H=H:=id rfl
@[simp] theorem qhL (i:Nat) (r:Res) (l:List (Nat×Res)) (H:ae):ig ((i,r)::l) H=aq (ig l H) i (some r):=id rfl
def sZ (ks:List Nat) (σ σ':Sg):Prop:= ∀t∈ks,σ' t=σ t
def xa (hk:List Nat) (H H':ae):Prop:= ∀i∈hk,H' i=H i
@[simp] theorem qgE (σ σ':Sg):sZ [] σ σ'=True:=by simp[sZ]
@[simp] theorem qgF (t:Nat) (ks:List Nat) (σ σ':Sg):sZ (t::ks) σ σ'=(σ' t=σ t∧sZ ks σ σ'):=by simp[sZ]
@[simp] theorem qds (σ σ':ae):xa [] σ σ'=True:=by simp[xa]
@[simp] theorem qdt (t:Nat) (ks:List Nat) (σ σ':ae):xa (t::ks) σ σ'=(σ' t=σ t∧xa ks σ σ'):=by simp[xa]
theorem F9 (ks:List Nat) (σ:Sg) (t:Nat):kS ks σ t=if t∈ks then σ t else .any:=by
 induction ks with
 | nil=> simp[qbz]
 | cons s ks ih=>
   rw[Zk]
   simp only[mG,List.mem_cons]
   by_cases h:t=s
   ·simp[h]
   ·simp[h,ih]
theorem Ga (ks:List Nat) (σ:ae) (t:Nat):kT ks σ t=if t∈ks then σ t else none:=by
 induction ks with
 | nil=> simp
 | cons s ks ih=>
   rw[Xf]
   simp only[aq,List.mem_cons]
   by_cases h:t=s
   ·simp[h]
   ·simp[h,ih]
theorem XX {σ σ':Sg} {H H':ae} (h1: ∀t,Ph (σ t) (σ' t)) (h2: ∀i r,H' i=some r→H i=some r∨isNilRow r):Wk σ H σ' H':=by
 intro E a w hst
 obtain⟨hd,hN,tp,hw,hr⟩:=hst
 have hm:=hw.sub h2
 exact⟨hd,hN,tp,hm.1,fun t=> Yp (h1 t) (hm.2 _ _ (hr t))⟩
theorem zN (d:D):Ph d d:=by simp
theorem zq {σ0 σ:Sg} {H0 H:ae} {ks hk:List Nat} {sl:List (Nat×D)} {hp:List (Nat×Res)} (h1:rf sl σ) (h2:sZ ks σ0 σ) (h3:uF hp H) (h4:xa hk H0 H):
 Wk σ H (rc sl (kS ks σ0)) (ig hp (kT hk H0)):=by
 refine XX (fun t=> ?_) (fun i r=> ?_)
 ·induction sl with
  | nil=>
    rw[Pg,F9]
    split
    ·rename_i h;rw[←h2 t h];exact zN _
    ·exact trivial
  | cons p sl ih=>
    obtain⟨s,d⟩:=p
    simp only[rc,mG]
    split
    ·rename_i e;subst e;exact h1.1
    ·exact ih h1.2
 ·induction hp with
  | nil=>
    rw[ZX,Ga]
    split
    ·rename_i h;rw[←h4 i h];exact .inl
    ·intro h;cases h
  | cons p hp ih=>
    obtain⟨s,d⟩:=p
    simp only[ig,aq]
    split
    ·rename_i e;subst e;intro h;cases h;exact h3.1
    ·exact ih h3.2
def Pq (σ0:Sg) (H0:ae) (ks hk:List Nat) (sl:List (Nat×D)) (hp:List (Nat×Res)) (σ:Sg) (H:ae):Prop:=rf sl σ∧sZ ks σ0 σ∧uF hp H∧xa hk H0 H
@[simp] theorem qea (σ0:Sg) (H0:ae) (ks hk:List Nat) (sl:List (Nat×D)) (hp:List (Nat×Res)) (σ:Sg) (H:ae):Pq σ0 H0 ks hk sl hp σ H=(rf sl σ∧sZ ks σ0 σ∧uF hp H∧xa hk H0 H):=id rfl
def Sz {X:Type} (P:X→Prop) (B:X→Sg→ae→Prop) (m:X→Nat) (x:X) (K:Ex→Sg→ae→Prop):Ex→Sg→ae→Prop:=fun e σ' H'=> match e with
 | .norm=> ∃y,P y∧B y σ' H'∧m y < m x
 | e=> K e σ' H'
@[simp ↓] theorem qex {X:Type} (P:X→Prop) (B:X→Sg→ae→Prop) (m:X→Nat) (x:X) (K:Ex→Sg→ae→Prop) (σ':Sg) (H':ae):Sz P B m x K .norm σ' H'= ∃y,P y∧B y σ' H'∧m y < m x:=id rfl
@[simp ↓] theorem qev {X:Type} (P:X→Prop) (B:X→Sg→ae→Prop) (m:X→Nat) (x:X) (K:Ex→Sg→ae→Prop) (i:Nat) (σ':Sg) (H':ae):Sz P B m x K (.ex i) σ' H'=K (.ex i) σ' H':=id rfl
@[simp ↓] theorem qew {X:Type} (P:X→Prop) (B:X→Sg→ae→Prop) (m:X→Nat) (x:X) (K:Ex→Sg→ae→Prop) (σ':Sg) (H':ae):Sz P B m x K .ret σ' H'=K .ret σ' H':=id rfl
section
variable {S:Nat→Spc} {K:Ex→Sg→ae→Prop} {σ:Sg} {H:ae}
theorem jL {X:Type} (ks hk:List Nat) (P:X→Prop) (sl:X→List (Nat×D)) (hp:X→List (Nat×Res)) (m:X→Nat) (x0:X) {k:Nat} {b:CC} (h0:P x0) (hs:rf (sl x0) σ) (hh:uF (hp x0) H)
 (hr: ∀x,P x→vc S b (Sz P (fun y=> Pq σ H ks hk (sl y) (hp y)) m x K) (rc (sl x) (kS ks σ)) (ig (hp x) (kT hk H))):vc S (.loop k b) K σ H:=by
 rw[K3]
 refine⟨⟨X,P,fun x=> rc (sl x) (kS ks σ),fun x=> ig (hp x) (kT hk H),m⟩,⟨x0,h0,zq hs (fun _ _=> rfl) hh (fun _ _=> rfl)⟩,fun x hx=> rD b _ _ (fun e σ' H' h=> ?_) (hr x hx)⟩
 cases e with
 | norm=>
   obtain⟨y,h1,h2,h3⟩:=h
   exact⟨y,h1,zq h2.1 h2.2.1 h2.2.2.1 h2.2.2.2,h3⟩
 | ex i=> exact h
 | ret=> exact h
def TU (Q:Sg→ae→Prop) (K:Ex→Sg→ae→Prop):Ex→Sg→ae→Prop:=fun e σ' H'=> match e with
 | .norm=> Q σ' H'
 | e=> K e σ' H'
@[simp ↓] theorem qe3 (Q:Sg→ae→Prop) (σ':Sg) (H':ae):TU Q K .norm σ' H'=Q σ' H':=id rfl
@[simp ↓] theorem qe2 (Q:Sg→ae→Prop) (σ':Sg) (H':ae):TU Q K .ret σ' H'=K .ret σ' H':=id rfl
def mu (k:Nat) (a b:CC):CC:= .seq a (.cut k b)
theorem jr {X:Type} (ks hk:List Nat) (P:X→Prop) (sl:X→List (Nat×D)) (hp:X→List (Nat×Res)) {k:Nat} {a b:CC}
 (ha:vc S a (TU (fun σ' H'=> ∃x,P x∧Pq σ H ks hk (sl x) (hp x) σ' H') K) σ H)
 (hb: ∀x,P x→vc S b K (rc (sl x) (kS ks σ)) (ig (hp x) (kT hk H))):vc S (mu k a b) K σ H:=by
 unfold mu
 rw[M4]
 refine rD a _ _ (fun e σ' H' h=> ?_) ha
 cases e with
 | norm=>
   obtain⟨x,h1,h2⟩:=h
   rw[GU,Qe]
   exact⟨_,_,zq h2.1 h2.2.1 h2.2.2.1 h2.2.2.2,hb x h1⟩
 | ex i=> exact h
 | ret=> exact h
def bn (id i n c id2:Nat) (body:CC) (i2:Nat):CC:=
 .block id (.loop 0 (.seq (.reg [.op (some c) none (.cmp .lss (.tmp i) (.tmp n))]) (.seq (.ite (.tmp c) .skip (.exit id)) (.seq (.block id2 (.cut 0 body)) (.reg [.op (some i2) none (.arith .add (.tmp i) (.const (.int .i64 1))), .op (some i) none (.mv (.tmp i2))])))))
def YY {X:Type} (id id2 i n:Nat) (len:Nat) (B:X→Sg→ae→Prop) (P:X→Prop) (k:Nat) (K:Ex→Sg→ae→Prop):Ex→Sg→ae→Prop:=fun e σ' H'=> match e with
 | .norm=> σ' i= .v (.int .i64 k)∧σ' n= .v (.int .i64 len)∧ ∃y,P y∧B y σ' H'
 | .ex j=> if j=id2 then σ' i= .v (.int .i64 k)∧σ' n= .v (.int .i64 len)∧ ∃y,P y∧B y σ' H' else if j=id then K .norm σ' H' else K (.ex j) σ' H'
 | .ret=> K .ret σ' H'
@[simp ↓] theorem qeF {X:Type} (id id2 i n:Nat) (len:Nat) (B:X→Sg→ae→Prop) (P:X→Prop) (k:Nat) (σ':Sg) (H':ae):YY id id2 i n len B P k K .norm σ' H'=(σ' i= .v (.int .i64 k)∧σ' n= .v (.int .i64 len)∧ ∃y,P y∧B y σ' H'):=_root_.id rfl
@[simp ↓] theorem qeE {X:Type} (id id2 i n:Nat) (len:Nat) (B:X→Sg→ae→Prop) (P:X→Prop) (k:Nat) (σ':Sg) (H':ae):YY id id2 i n len B P k K .ret σ' H'=K .ret σ' H':=_root_.id rfl
theorem za {t:Nat} {d:D} : ∀ {sl:List (Nat×D)} {σ:Sg},(∀p∈sl,p.1≠t)→rf sl σ→rf sl (mG σ t d)
 | [],_,_,_=> trivial
 | (s,e)::sl,σ,h,hm=> by
  refine⟨?_,za (fun p hp=> h p (by simp[hp])) hm.2⟩
  have:s≠t:=h (s,e) (by simp)
  simp only[mG,this,if_false]
  exact hm.1
theorem I2 {t:Nat} {d:D} {ks:List Nat} {σ0 σ:Sg} (h:t∉ks) (hk:sZ ks σ0 σ):sZ ks σ0 (mG σ t d):=fun s hs=> by
 have:s≠t:=fun e=> h (e ▸hs)
 simp only[mG,this,if_false]
 exact hk s hs
theorem aw {X:Type} (ks hk:List Nat) (len:Nat) (P:Nat→X→Prop) (sl:X→List (Nat×D)) (hp:X→List (Nat×Res)) (x0:X) {id i n c id2 i2:Nat} {body:CC}
 (hi:σ i= .v (.int .i64 0)) (hn:σ n= .v (.int .i64 len)) (hlen: (len:Int)≤9223372036854775807) (hd: ([i,n,c,i2] ++ks).Nodup) (hd2: ∀x,∀p∈sl x,p.1∉ [i,n,c,i2])
 (h0:P 0 x0) (hs:rf (sl x0) σ) (hh:uF (hp x0) H)
 (hr: ∀k x,k < len→P k x→vc S body (YY id id2 i n len (fun y=> Pq σ H ks hk (sl y) (hp y)) (P (k+1)) k K) (rc ((i, .v (.int .i64 k)):: (n, .v (.int .i64 len))::sl x) (kS ks σ)) (ig (hp x) (kT hk H)))
 (he: ∀x,P len x→K .norm (mG (rc ((i, .v (.int .i64 len)):: (n, .v (.int .i64 len))::sl x) (kS ks σ)) c (.v (.bool false))) (ig (hp x) (kT hk H))):vc S (bn id i n c id2 body i2) K σ H:=by
 have ne:i≠n∧i≠c∧i≠i2∧n≠c∧n≠i2∧c≠i2∧i∉ks∧n∉ks∧c∉ks∧i2∉ks:=by
  simp only[List.cons_append,List.nil_append,List.nodup_cons,List.mem_cons,not_or] at hd
  obtain⟨⟨h1,h2,h3,h4⟩,⟨h5,h6,h7⟩,⟨h8,h9⟩,h10,_⟩:=hd
  exact⟨h1,h2,h3,h5,h6,h8,h4,h7,h9,h10⟩
 obtain⟨n1,n2,n3,n4,n5,n6,m1,m2,m3,m4⟩:=ne
 have sn: ∀x t,t∈ [i,n,c,i2]→ ∀p∈sl x,p.1≠t:=fun x t ht p hp e=> hd2 x p hp (e ▸ht)
 -- the state at the loop's head
 let st:Nat×X→Sg:=fun x=> rc ((i, .v (.int .i64 x.1)):: (n, .v (.int .i64 len))::sl x.2) (kS ks σ)
 let sh:Nat×X→ae:=fun x=> ig (hp x.2) (kT hk H)
 have back: ∀ (k:Nat) (y:X) (σ':Sg) (H':ae),σ' i= .v (.int .i64 k)→σ' n= .v (.int .i64 len)→Pq σ H ks hk (sl y) (hp y) σ' H'→Wk σ' H' (st (k,y)) (sh (k,y)):=by
  intro k y σ' H' e1 e2 ⟨b1,b2,b3,b4⟩
  exact zq (sl:=(i, .v (.int .i64 k)):: (n, .v (.int .i64 len))::sl y) ⟨by rw[e1];exact zN _,by rw[e2];exact zN _,b1⟩ b2 b3 b4
 unfold bn
 rw[K4,K3]
 refine⟨⟨Nat×X,fun x=> x.1≤len∧P x.1 x.2,st,sh,fun x=> len -x.1⟩,⟨(0,x0),⟨Nat.zero_le _,h0⟩,back 0 x0 σ H hi hn ⟨hs,fun _ _=> rfl,hh,fun _ _=> rfl⟩⟩,?_⟩
 rintro⟨k,x⟩ ⟨hkl,hP⟩
 have si:st (k,x) i= .v (.int .i64 k):=by simp[st,rc,mG]
 have sN:st (k,x) n= .v (.int .i64 len):=by
  have: ¬n=i:=fun e=> n1 e.symm
  simp[st,rc,mG,this]
 let inv:Z6:=⟨Nat×X,fun x=> x.1≤len∧P x.1 x.2,st,sh,fun x=> len -x.1⟩
 change vc S _ (Rp inv (k,x) (Sc id K)) (st (k,x)) (sh (k,x))
 rw[M4,Yg,Zj,qca]
 simp only[SR,si,sN,ZP,true_and,Vl,ZR]
 rw[X7,GU,M4,qbT]
 have sc:ev (gJ (st (k,x)) (some c) (.v (.bool (decide ((k:Int) < len))))) (.tmp c)= .v (.bool (decide ((k:Int) < len))):=by simp[mG]
 rw[sc,ZB]
 refine⟨fun hlt=> ?_,fun hge=> ?_⟩
 ·have hlt':k < len:=by simpa using hlt
  rw[Zx,GU,M4,K4,Qe]
  refine⟨st (k,x),sh (k,x),XX (fun t=> ?_) (fun _ _ h=> .inl h),?_⟩
  ·rw[NX,qaS]
   split
   ·rename_i e
    subst e
    have e1:st (k,x) t= .any:=by
     have hsl: ∀ (l:List (Nat×D)),(∀p∈l,p.1≠t)→rc l (kS ks σ) t= .any:=by
      intro l
      induction l with
      | nil=> intro _;rw[Pg,F9,if_neg m3]
      | cons p l ih=>
        obtain⟨s,d⟩:=p
        intro h
        have: ¬t=s:=fun e=> h (s,d) (by simp) e.symm
        simp only[rc,mG,this,if_false]
        exact ih fun p hp=> h p (by simp[hp])
     have h1: ¬t=i:=fun e=> n2 e.symm
     have h2: ¬t=n:=fun e=> n4 e.symm
     simp only[st,rc,mG,h1,h2,if_false]
     exact hsl _ (sn x t (by simp))
    rw[e1]
    exact trivial
   ·exact zN _
  ·refine rD body _ _ (fun e σ' H' h=> ?_) (hr k x hlt' hP)
   have fin: ∀σ' H',(σ' i= .v (.int .i64 k)∧σ' n= .v (.int .i64 len)∧ ∃y,P (k+1) y∧Pq σ H ks hk (sl y) (hp y) σ' H')→
    N9 S (.reg [.op (some i2) none (.arith .add (.tmp i) (.const (.int .i64 1))), .op (some i) none (.mv (.tmp i2))]) (Rp inv (k,x) (Sc id K)) .norm σ' H':=by
    intro σ' H' ⟨e1,e2,y,hy,hb⟩
    rw[GU,Yg,Zj,XJ]
    simp only[SR,Wy,qaQ,e1,Vw,true_and,Sf,InR]
    refine⟨by omega,?_⟩
    rw[Zj,qhp]
    dsimp only
    rw[X7]
    simp only[SR,NX]
    rw[ZA]
    refine⟨(k+1,y),⟨by show k+1≤len;omega,hy⟩,back (k+1) y _ _ ?_ ?_ ?_,by show len - (k+1) < len -k;omega⟩
    ·simp[mG]
    ·have h1: ¬n=i:=fun e=> n1 e.symm
     simp[mG,h1,n5,e2]
    ·exact⟨za (sn y i (by simp)) (za (sn y i2 (by simp)) hb.1),I2 m1 (I2 m4 hb.2.1),hb.2.2.1,hb.2.2.2⟩
   cases e with
   | norm=> rw[ZE];exact fin σ' H' h
   | ret=>
     rw[U9,Zy,Zz,U9]
     exact h
   | ex j=>
     rw[O8]
     have h:if j=id2 then σ' i= .v (.int .i64 k)∧σ' n= .v (.int .i64 len)∧ ∃y,P (k+1) y∧Pq σ H ks hk (sl y) (hp y) σ' H' else if j=id then K .norm σ' H' else K (.ex j) σ' H':=h
     split
     ·rename_i e;rw[if_pos e] at h;exact fin σ' H' h
     ·rename_i e;rw[if_neg e] at h
      rw[U5,U7,O8]
      exact h
 ·have hge':k=len:=by
   have: ¬ ((k:Int) < len):=by simpa using hge
   have:k≤len:=hkl
   omega
  subst hge'
  rw[ZD,U5,U7,O8,if_pos rfl]
  have:decide ((k:Int) < k)=false:=by simp
  rw[this]
  exact he x hP
end
end Go.Gv
