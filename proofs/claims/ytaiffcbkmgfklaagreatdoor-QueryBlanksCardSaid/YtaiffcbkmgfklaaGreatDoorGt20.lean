/- A part of the framework and of the walks: T14 T15 T16 T17 W10 W11 W12 W4 W5 W6 W7 W8 W13. -/
import Derived.Test.YtaiffcbkmgfklaaGreatDoorGt17
import Derived.Test.YtaiffcbkmgfklaaGreatDoorGt19
set_option linter.unusedSimpArgs false
set_option linter.unusedVariables false
set_option maxRecDepth 100000

namespace Go.Gv
open Cod (enc dec)
def YZ (s t:Spc):Spc:= .gen (fun d ds H K=> s.pt d ds H K∨t.pt d ds H K) fun d ds H K K' hk h=> h.elim (fun h=> .inl (s.mono d ds H K K' hk h)) (fun h=> .inr (t.mono d ds H K K' hk h))
@[simp] theorem qcF (s t:Spc) (d:Nat) (ds:List D) (H:aa) (K:D→aa→Prop): (YZ s t).pt d ds H K=(s.pt d ds H K∨t.pt d ds H K):=id rfl
theorem LS {P:Program} {f:Nat} {s t:Spc} (h1:Tri P f s.pt) (h2:Tri P f t.pt):Tri P f (YZ s t).pt:=fun O tp w vs ds H d K a b c e g h=> h.elim (fun h=> h1 O tp w vs ds H d K a b c e g h) (fun h=> h2 O tp w vs ds H d K a b c e g h)
section
variable {X Y:Type} [Cod Y]
def qeL (A:jL X) (pre:X→Prop) (post:X→List Y→Prop) (el n:Nat):PT:=fun d ds H K=> lc (A.dec ds) fun x=> pre x∧ ∀v l,post x l→K (.own d v) (ak H d (some (.row v el n (l.map enc))))
theorem O0 {o:Option X} {k k':X→Prop} (h: ∀x,k x→k' x) (ho:lc o k):lc o k':=by
 cases o with
 | none=> exact ho
 | some x=> exact h x ho
theorem UV (A:jL X) (pre:X→Prop) (post:X→List Y→Prop) (el n:Nat):sp (qeL A pre post el n):=fun d ds H K K' hk h=> O0 (fun x h=> ⟨h.1,fun v l hp=> hk _ _ (h.2 v l hp)⟩) h
def Zu (A:jL X) (pre:X→Prop) (post:X→List Y→Prop) (el n:Nat):Spc:= .gen _ (UV A pre post el n)
@[simp] theorem Xd (A:jL X) (pre:X→Prop) (post:X→List Y→Prop) (el n:Nat) (d:Nat) (ds:List D) (H:aa) (K:D→aa→Prop): (Zu A pre post el n).pt d ds H K=lc (A.dec ds) fun x=> pre x∧ ∀v l,post x l→K (.own d v) (ak H d (some (.row v el n (l.map enc)))):=id rfl
def XW (el n:Nat) (q:List Y→Prop) (r:D) (H':aa):Prop:= ∃j v l,r= .own j v∧H' j=some (.row v el n (l.map enc))∧q l
theorem jh {el n:Nat} {q:List Y→Prop} {j:Nat} {v:Value} {H':aa} (l:List Y) (h:H' j=some (.row v el n (l.map enc))) (hq:q l):XW el n q (.own j v) H':=⟨j,v,l,rfl,h,hq⟩
def Ob (cc:CC) (rs:List aK) (S:Nat→Spc) (A:jL X) (pre:X→Prop) (post:X→List Y→Prop) (el n:Nat):Prop:=
 ∀x,pre x→vc S cc (tO rs fun r H'=> XW el n (post x) r H') (d4 (A.view x)) cu
variable {P:Program} {S:Nat→Spc} {f:Nat} {im:List Nat} {cc:CC} {rs:List aK} {N:Nat} {A:jL X} {el n:Nat}
theorem zb {pre:X→Prop} {post:X→List Y→Prop} (hS: ∀f,Tri P f (S f).pt) (h:aS P f im cc rs N) (hN: ∀x,(A.view x).length≤N) (hw:Ob cc rs S A pre post el n):Tri P f (Zu A pre post el n).pt:=by
 obtain⟨BU,enter,fn,code,h1,h2,h3,h4,h5⟩:=h
 refine lI hS BU h1 h2 enter h3 h4 h5 ?_
 intro ds H d K hA
 rw[Xd] at hA
 cases hd:A.dec ds with
 | none=> rw[hd] at hA;exact hA.elim
 | some x=>
   rw[hd] at hA
   obtain⟨hp,hK⟩:=hA
   have hl:=A.le ds x hd
   refine⟨by rw[hl.1];exact hN x,A.view x,cu,id,hl,fun i r h=> by simp at h,fun i j r s h=> by simp at h,_,hw x hp,?_⟩
   rintro r H' ⟨j,v,l,rfl,hj,hpost⟩
   refine⟨.own d v,cu,ak H d (some (.row v el n (l.map enc))),fun i=> if i=d then some j else none, .own _ _ _,fun j q h=> by simp at h,hK v l hpost,fun i s hi=> ?_,fun i j' k s q hi hj' e1 e2=> ?_⟩
   ·by_cases e:i=d
    ·subst e
     simp only[ak,if_true] at hi
     cases hi
     simpa using hj
    ·simp only[ak,e,if_false] at hi ⊢
     exact⟨hi,fun k q h=> by simp at h⟩
   ·have a:i=d:=by
     by_cases e:i=d
     ·exact e
     ·simp[e] at e1
    have b:j'=d:=by
     by_cases e:j'=d
     ·exact e
     ·simp[e] at e2
    exact a.trans b.symm
end
def aD {X:Type} (A:jL X):jL (D×X):=⟨fun ds=> match ds with | d::r=> (A.dec r).map fun x=> (d,x) | _=> none,fun x=> x.1::A.view x.2,fun ds x h=> by
 split at h
 ·simp only[Option.map_eq_some_iff] at h
  obtain⟨y,hy,rfl⟩:=h
  exact .cons (.same _) (A.le _ _ hy)
 ·cases h⟩
def aE (X:Type) [Cod X] {Y:Type} (A:jL Y):jL (X×Y):=⟨fun ds=> match ds with | d::r=> (dec d).bind fun x=> (A.dec r).map fun y=> (x,y) | _=> none,fun x=> enc x.1::A.view x.2,fun ds x h=> by
 split at h
 ·simp only[Option.bind_eq_some_iff,Option.map_eq_some_iff] at h
  obtain⟨x,hx,y,hy,rfl⟩:=h
  exact .cons (Cod.le _ _ hx) (A.le _ _ hy)
 ·cases h⟩
@[simp] theorem qfz {X:Type} (A:jL X) (d:D) (r:List D): (aD A).dec (d::r)=(A.dec r).map fun x=> (d,x):=id rfl
@[simp] theorem qb8 {X:Type} (A:jL X) (d:D) (x:X): (aD A).view (d,x)=d::A.view x:=id rfl
@[simp] theorem qfy {X Y:Type} [Cod X] (A:jL Y) (d:D) (r:List D): (aE X A).dec (d::r)=(dec d).bind fun x=> (A.dec r).map fun y=> (x,y):=id rfl
@[simp] theorem qb7 {X Y:Type} [Cod X] (A:jL Y) (x:X) (y:Y): (aE X A).view (x,y)=enc x::A.view y:=id rfl
def FunIs {X Y:Type} [Cod X] [Cod Y] (S:Nat→Spc) (d:D) (p:X→Y):Prop:=
 ∃g caps pc,d= .clo g caps∧S g= .pure pc∧ ∀x:X,pc.pre (enc x::caps)∧ ∀r,pc.post (enc x::caps) r→r=enc (p x)
theorem FunIs.use' {X Y:Type} [Cod X] [Cod Y] {S:Nat→Spc} {d:D} {p:X→Y} (h:FunIs S d p) (x:X) (d':Nat) (H:aa) (K:D→aa→Prop) (hk: ∀y:Y,(∀q,FunIs S d q→y=q x)→K (enc y) H):yG S d d' [enc x] H K:=by
 obtain⟨g,caps,pc,rfl,h1,h2⟩:=h
 simp only[yG,h1,Spc.pt]
 refine⟨(h2 x).1,fun r hr=> ?_⟩
 have e:=(h2 x).2 r hr
 rw[e]
 refine hk (p x) fun q hq=> ?_
 obtain⟨g',caps',pc',e',k1,k2⟩:=hq
 cases e'
 rw[h1] at k1
 cases k1
 exact pE (e.symm.trans ((k2 x).2 r hr))
theorem FunIs.useB {X:Type} [Cod X] {S:Nat→Spc} {d:D} {p:X→Bool} (h:FunIs S d p) (x:X) {d':Nat} {H:aa} {K:D→aa→Prop} (hk: ∀y:Bool,(∀q,FunIs S d q→y=q x)→K (.v (.bool y)) H):yG S d d' [enc x] H K:=h.use' x d' H K hk
section
variable {X Y Z:Type} [Cod Y]
end
end Go.Gv

namespace Go.Gv
def RSub (r r':Res):Prop:=r=r'∨ ∃b cs cs',r= .box b cs∧r'= .box b cs'∧cs.length=cs'.length∧ ∀ (m:Nat) (c c':D),cs[m]?=some c→cs'[m]?=some c'→M0 c c'
theorem RSub.blk {r r':Res} (h:RSub r r'):r'.blk=r.blk:=by
 rcases h with rfl | ⟨b,cs,cs',rfl,rfl,_⟩ <;> rfl
theorem RSub.ok {tp I:Nat→Prop} {w w':World} {r r':Res} (h:RSub r r') (hr:ResOk (R tp I w) w' r):ResOk (R tp I w) w' r':=by
 rcases h with rfl | ⟨b,cs,cs',rfl,rfl,hl,hc⟩
 ·exact hr
 ·obtain⟨xs,el,h1,h2,h3⟩:=hr
  refine⟨xs,el,h1,h2.trans hl,fun k y c hy hc'=> ?_⟩
  have hk:k < cs.length:=by rw[hl];exact(List.getElem?_eq_some_iff.1 hc').1
  have h4:=h3 k y cs[k] hy (List.getElem?_eq_getElem hk)
  exact⟨h4.1,VQ (hc k _ _ (List.getElem?_eq_getElem hk) hc') h4.2⟩
section
variable {S:Nat→Spc} {σ σ1:Sg} {H H1:aa} {K:Ex→Sg→aa→Prop}
theorem Qz {k:Nat} {b:CC} (hw:Wk σ H σ1 H1) (h:vc S (.loop k b) K σ1 H1):vc S (.loop k b) K σ H:=by
 rw[IV] at h ⊢
 obtain⟨I,⟨x,h1,h2⟩,h3⟩:=h
 exact⟨I,⟨x,h1,fun E a w hs=> h2 E a w (hw E a w hs)⟩,h3⟩
theorem OE {id i n c id2 i2:Nat} {body:CC} (hw:Wk σ H σ1 H1) (h:vc S (bh id i n c id2 body i2) K σ1 H1):vc S (bh id i n c id2 body i2) K σ H:=by
 unfold bh at h ⊢
 rw[IW] at h ⊢
 exact Qz hw h
end
end Go.Gv

namespace Go.Gv
section
variable {X Y:Type}
variable {P:Program} {S:Nat→Spc} {f:Nat} {im:List Nat} {cc:CC} {rs:List aK} {N:Nat}
end
end Go.Gv

namespace Go.Gv
def HWk (H H2:aa):Prop:= ∀ (E:ny) (tp:Nat→Prop) (w:World),StW E tp H w→StW E tp H2 w∧ ∀x d,R tp (bW E.O tp H w) w x d→R tp (bW E.O tp H2 w) w x d
theorem HWk.refl (H:aa):HWk H H:=fun _ _ _ h=> ⟨h,fun _ _ h=> h⟩
theorem Wk.trans {σ σ1 σ2:Sg} {H H1 H2:aa} (h:Wk σ H σ1 H1) (k:Wk σ1 H1 σ2 H2):Wk σ H σ2 H2:=fun E a w hs=> k E a w (h E a w hs)
def left (k b:Nat) (cs:List D) (ks:List Nat) (H:aa):aa:=fun i=> if i=k then some (.box b cs) else if i∈ks then H i else none
section
variable {S:Nat→Spc} {σ:Sg} {H:aa} {K:Ex→Sg→aa→Prop}
theorem Ub {X:Type} (P:X→Prop) (s:X→Sg) (h:X→aa) {k:Nat} {a b:CC}
 (ha:vc S a (RF (fun σ' H'=> ∃x,P x∧Wk σ' H' (s x) (h x)) K) σ H)
 (hb: ∀x,P x→vc S b K (s x) (h x)):vc S (kO k a b) K σ H:=by
 unfold kO
 rw[KQ]
 refine pq a _ _ (fun e σ' H' h=> ?_) ha
 cases e with
 | norm=>
   obtain⟨x,h1,h2⟩:=h
   rw[EI,NS]
   exact⟨_,_,h2,hb x h1⟩
 | ex i=> exact h
 | ret=> exact h
end
section
variable {P:Program} {im:List Nat} {E:ny} {S:Nat→Spc}
end
end Go.Gv

namespace Go.Gv
open Cod (enc dec)
variable {S S0:Nat→Spc}
theorem Ka (x n:Int) (h:1≤n):0≤FW x n∧FW x n < n:=by
 unfold FW
 rw[if_neg (by omega)]
 have h1:=Int.tmod_lt_of_pos x (show 0 < n by omega)
 have h2: -n < x.tmod n:=by
  have h3:=Int.natAbs_tmod x n
  have h4:x.natAbs % n.natAbs < n.natAbs:=Nat.mod_lt _ (by omega)
  omega
 split <;> omega
def Ya:CC:= .reg [
 .op (some 4) none (.mv (.const (.int .i64 0)))]
def WN:CC:= .seq (.regd [
 .op (some 5) none (.mv (.tmp 0)),
 .op (some 6) none (.nilck (.tmp 5)),
 .op (some 7) none (.faddr 1 (.tmp 6)),
 .op (some 8) none (.load false 1 (.tmp 7)),
 .op (some 9) none (.mv (.tmp 0)),
 .op (some 10) none (.nilck (.tmp 9)),
 .op (some 11) none (.faddr 0 (.tmp 10)),
 .op (some 12) none (.load false 1 (.tmp 11)),
 .op (some 13) none (.len (.tmp 12))] [
 .op (some 14) none (.cmp .geq (.tmp 8) (.tmp 13))]) (.ite (.tmp 14) (.seq (.reg [
  .op (some 4) none (.mv (.const (.int .i64 0)))]) .ret) .skip)
def VA:CC:= .reg [
 .op (some 15) none (.mv (.tmp 0)),
 .op (some 16) none (.nilck (.tmp 15)),
 .op (some 17) none (.faddr 1 (.tmp 16)),
 .op (some 18) none (.load false 1 (.tmp 17)),
 .op (some 19) none (.arith .add (.tmp 18) (.const (.int .i64 1))),
 .op (some 20) none (.nilck (.tmp 15)),
 .op (some 21) none (.faddr 1 (.tmp 20)),
 .op none none (.store none 1 (.tmp 21) (.tmp 19))]
def X9:CC:= .seq (.regd [
 .op (some 22) none (.mv (.tmp 0)),
 .op (some 23) none (.nilck (.tmp 22)),
 .op (some 24) none (.faddr 0 (.tmp 23)),
 .op (some 25) none (.load false 1 (.tmp 24)),
 .op (some 26) none (.mv (.tmp 0)),
 .op (some 27) none (.nilck (.tmp 26)),
 .op (some 28) none (.faddr 1 (.tmp 27)),
 .op (some 29) none (.load false 1 (.tmp 28)),
 .op (some 30) none (.arith .sub (.tmp 29) (.const (.int .i64 1))),
 .op (some 31) none (.iaddr 1 (.tmp 25) (.tmp 30)),
 .op (some 32) none (.load false 1 (.tmp 31)),
 .op (some 33) none (.mv (.tmp 1))] [
 .op (some 34) none (.call mo [(.tmp 32),(.tmp 33)]),
 .op (some 4) none (.mv (.tmp 34))]) .ret
theorem RA:dK oY= .seq Ya (.seq WN (.seq VA X9)):=rfl
theorem Y7:dK Ya=Ya:=rfl
theorem Y6:dK WN=WN:=rfl
theorem Y5:dK VA=VA:=rfl
theorem Y4:dK X9=X9:=rfl
def Vz (b:Nat) (s:Value) (i n:Int):Ex→Sg→aa→Prop:=fun e σ H=> match e with
 | .norm=> σ 0= .bptr 0 b 0∧σ 1= .v (.int .i64 n)∧H 0=some (.box b [.v s, .v (.int .i64 (i+1))])∧i < slen s
 | .ret=> σ 4= .v (.int .i64 0)∧H 0=some (.box b [.v s, .v (.int .i64 i)])
 | .ex _=> False
@[simp ↓] theorem qf7 (b:Nat) (s:Value) (i n:Int) (σ:Sg) (H:aa):Vz b s i n .norm σ H=(σ 0= .bptr 0 b 0∧σ 1= .v (.int .i64 n)∧H 0=some (.box b [.v s, .v (.int .i64 (i+1))])∧i < slen s):=id rfl
@[simp ↓] theorem qf6 (b:Nat) (s:Value) (i n:Int) (σ:Sg) (H:aa):Vz b s i n .ret σ H=(σ 4= .v (.int .i64 0)∧H 0=some (.box b [.v s, .v (.int .i64 i)])):=id rfl
theorem UD (b:Nat) (a:Option Addr) (len cap:Nat) (i n:Int) (h0:0≤i) (hl: (len:Int)≤9223372036854775807):vc S (.seq Ya (.seq WN VA)) (Vz b (.slice a len cap) i n) (d4 [.bptr 0 b 0, .v (.int .i64 n)]) (ak cu 0 (some (.box b [.v (.slice a len cap), .v (.int .i64 i)]))):=by
 simp[Ya,WN,VA,slen]
 intro h
 exact⟨by simp only[InR];omega,h⟩
def qf5 (n:Int):Ex→Sg→aa→Prop:=fun e σ H=> match e with
 | .ret=> ∃y,σ 4= .v (.int .i64 y)∧(n < 1∧y=0∨1≤n∧0≤y∧y < n)
 | _=> False
@[simp ↓] theorem qf4 (n:Int) (σ:Sg) (H:aa):qf5 n .ret σ H=(∃y,σ 4= .v (.int .i64 y)∧(n < 1∧y=0∨1≤n∧0≤y∧y < n)):=id rfl
theorem UC (hm:S mo=vd) (L:List Int) (i n:Int) (h0:0≤i) (hi:i < L.length) (hn:n≤1000000000) (hl: (L.length:Int)≤9223372036854775807):vc S X9 (qf5 n) (d4 [.cptr [.list 1 (L.map enc), .v (.int .i64 (i+1))] 0, .v (.int .i64 n)]) cu:=by
 obtain⟨x,hx⟩:=cV (l:=L) (k:=i.toNat) (by omega)
 simp[X9,hm]
 refine⟨by simp only[InR];omega,h0,hi,fun a _=> ⟨hn,?_⟩⟩
 rcases Int.lt_or_le n 1 with h | h
 ·exact .inl ⟨h,by simp[FW,h]⟩
 ·exact .inr ⟨h,Ka a n h⟩
end Go.Gv

namespace Go.Gv
open Cod (enc dec)
theorem DW {tp I tp' I':Nat→Prop} {w w':World} {s:Value} {es:List D} (hes: ∀d∈es,∃n,d= .v (.int .i64 n)) (h:R tp I w s (.list 1 es)) (hI: ∀c,I c→I' c∧w'.heap[c]?=w.heap[c]?):R tp' I' w' s (.list 1 es):=by
 cases h with
 | nolist a cap _=> exact .nolist _ _ _
 | list b off cap n es f hb hc hm hn hcell h1 h2=>
   refine .list b off cap _ es f (hI b hb).1 hc hm hn (fun k c hk=> by rw[World.cell?_of_block (w:=w) (hI b hb).2];exact hcell k c hk) h1 (fun k c hk=> ?_)
   have hc':=List.mem_of_getElem? hk
   simp only[bT,List.mem_flatMap] at hc'
   obtain⟨d,hd,hcd⟩:=hc'
   obtain⟨n,rfl⟩:=hes d hd
   simp[D.cells] at hcd
   subst hcd
   have:=h2 k _ hk
   generalize f k=y at this ⊢
   cases this with
   | v _ a1 a2=> exact .v _ a1 a2
theorem EU {P:Program} {im:List Nat} {N:Nat} {code:Code} {a b:CC} (h:a6 P im N code=some (.seq a b)): ∃x y,code= .seq x y∧a6 P im N x=some a∧a6 P im N y=some b:=by
 rcases eV h with⟨h,_⟩ | ⟨_,_,_,_,h,_⟩ | ⟨_,_,_,_,_,h⟩ | ⟨a',b',x,y,h1,h2,h3,h4⟩ | ⟨_,_,_,_,_,_,h,_⟩ | ⟨_,_,_,_,h,_⟩ | ⟨_,_,_,h,_⟩ | ⟨_,_,h⟩ | ⟨_,h⟩ <;> try (simp at h;done)
 cases h2
 exact⟨a',b',h1,h3,h4⟩
abbrev s_m_Next:Spc:=dt (aT (a1 Int)) (fun x=> x.2≤1000000000) (enc (X:=Int)) (fun x y=> x.2 < 1∧y=0∨1≤x.2∧0≤y∧y < x.2)
section
variable {P:Program} {S:Nat→Spc} {f:Nat} {im:List Nat} {N:Nat}
theorem QG (hS: ∀f,Tri P f (S f).pt) (hm:S mo=vd) (h:aS P f im oY tN N) (hN:2≤N):Tri P f s_m_Next.pt:=by
 obtain⟨BU,enter,fn,code,h1,h2,h3,h4,h5⟩:=h
 subst h3
 rw[RA] at h4
 obtain⟨x0,y0,rfl,hc0,h4⟩:=EU h4
 obtain⟨xA,yA,rfl,hcA,h4⟩:=EU h4
 obtain⟨xB,xC,rfl,hcB,hcC⟩:=EU h4
 intro O tp w vs ds H d K hO htl hsat hlen hargs hA
 refine⟨enter,calls_of_wp h1 h2 ?_⟩
 simp only[s_m_Next,rb] at hA
 cases hd: (aT (a1 Int)).dec ds with
 | none=> rw[hd] at hA;exact hA.elim
 | some x=>
 rw[hd] at hA
 obtain⟨L,n⟩:=x
 obtain⟨hp,hK⟩:=hA
 have hl:=(aT (a1 Int)).le ds (L,n) hd
 have hl1:ds.length=2:=hl.1
 match ds,vs,hl,hl1,hlen,hargs with
 | [d0,d1], [v0,v1],hl,_,_,hargs=>
 have e0:d0= .tape L:=by
  have:=hl.2 0 d0 (.tape L) rfl rfl
  cases this;rfl
 have e1:d1= .v (.int .i64 n):=by
  have:=hl.2 1 d1 (.v (.int .i64 n)) rfl rfl
  cases this;rfl
 subst e0;subst e1
 have r1:=(hargs 1 v1 _ rfl rfl).inv_v
 subst r1
 have r0:=hargs 0 v0 _ rfl rfl
 cases r0 with
 | tape b _ s i el hb hh g0 g1 gs hR=>
 obtain⟨a,len,cap,rfl⟩: ∃a len cap,s= .slice a len cap:=by
  generalize L.map (fun n=> D.v (.int .i64 n))=es at hR
  cases hR <;> exact⟨_,_,_,rfl⟩
 have hlen: (len:Int)≤9223372036854775807:=by
  generalize L.map (fun n=> D.v (.int .i64 n))=es at hR
  cases hR with
  | nolist=> simp
  | list b off cap n es f hI hc hm=> simp only[maxLen] at hm;omega
 have hLl:len=L.length:=gs
 have hbl:=htl b hb
 -- the first piece: the tape's memory is the frame's own
 let O2:Nat→Prop:=fun x=> (O x∨eA H x)∧x≠b
 let tp2:Nat→Prop:=fun x=> tp x∧x≠b
 let E2:ny:= { O:=O2,tp0:=tp2,w0:=w,own0:=fun x=> x=b,N:=fn.ntmps }
 let H2:aa:=ak cu 0 (some (.box b [.v (.slice a len cap), .v (.int .i64 i)]))
 have hownlt: ∀c,eA H c→c < w.heap.size:=fun c ⟨j,r,k1,k2⟩=> (hsat.ok j r k1).lt k2
 have h2: ∀j r,H2 j=some r→j=0∧r= .box b [.v (.slice a len cap), .v (.int .i64 i)]:=fun j r hj=> by
  by_cases e:j=0
  ·subst e
   simp only[H2,ak,if_true] at hj
   cases hj
   exact⟨rfl,rfl⟩
  ·simp[H2,ak,e,cu] at hj
 have hst:St E2 (d4 [.bptr 0 b 0, .v (.int .i64 n)]) H2 { tmps:= #[.pointer (some ⟨b,0,none⟩), .int .i64 n] ++Array.replicate (fn.ntmps -2) undef,defers:= [] } w:=by
  refine⟨rfl,?_,tp2,⟨fun c hc=> hc.1.elim (hO c) (hownlt c),fun c hc=> hc,fun c hc=> .inl hc,fun c hc=> htl c hc.1, .refl _ _ _,fun c ⟨j,r,k1,k2⟩=> ?_,⟨fun j k r q c k1 k2 k3 k4=> ?_,fun j r c k1 k2=> ?_,fun j r k1=> ?_⟩⟩,fun t=> ?_⟩
  ·show(_:Array Value).size=fn.ntmps
   simp
   omega
  ·obtain⟨_,rfl⟩:=h2 j r k1
   cases k2
   exact .inl rfl
  ·rw[(h2 j r k1).1,(h2 k q k2).1]
  ·obtain⟨_,rfl⟩:=h2 j r k1
   cases k2
   exact⟨fun h=> h.2 rfl,fun h=> h.2 rfl⟩
  ·obtain⟨_,rfl⟩:=h2 j r k1
   refine⟨_,el,hh,rfl,fun k y c hy hc=> ?_⟩
   rcases k with _ | _ | k
   ·simp at hy hc;subst hy;subst hc;exact⟨rfl, .v _ rfl (fun s hs=> by cases hs)⟩
   ·simp at hy hc;subst hy;subst hc;exact⟨rfl, .v _ rfl (fun s hs=> by cases hs)⟩
   ·simp at hy
  ·have q0: (#[Value.pointer (some ⟨b,0,none⟩), .int .i64 n] ++Array.replicate (fn.ntmps -2) undef).getD 0 undef=Value.pointer (some ⟨b,0,none⟩):=by
    rw[Array.getD_eq_getD_getElem?,Array.getElem?_append_left (by simp)];rfl
   have q1: (#[Value.pointer (some ⟨b,0,none⟩), .int .i64 n] ++Array.replicate (fn.ntmps -2) undef).getD 1 undef=Value.int .i64 n:=by
    rw[Array.getD_eq_getD_getElem?,Array.getElem?_append_left (by simp)];rfl
   rcases t with _ | _ | t
   ·show R _ _ _ (Array.getD _ 0 undef) _
    rw[q0];exact .bptr _ _ _
   ·show R _ _ _ (Array.getD _ 1 undef) _
    rw[q1];exact .v _ rfl (fun s hs=> by cases hs)
   ·exact .any _
 -- what is known when the frame My left the tape's place at j
 have fin: ∀ (w2:World) (j y:Int) (el':Nat),w2.os=w.os→w2.tape=w.tape→w2.output=w.output→w.heap.size≤w2.heap.size→(∀c,c < w.heap.size→ ¬tp c→w2.heap[c]?=w.heap[c]?)→
  (∀c,tp c→c≠b→TapeStep w w2 c)→w2.heap[b]?=some (.cells #[.slice a len cap, .int .i64 j] el' (0,0))→0≤j→j≤len→w.drawn≤w2.drawn→
  (n < 1∧y=0∨1≤n∧0≤y∧y < n)→M6 O tp H w K (.returned (.int .i64 y)) w2:=by
  intro w2 j y el' s1 s2 s3 s4 s5 s6 s7 s8 s9 s11 s10
  have htapes: ∀c,tp c→TapeStep w w2 c:=fun c hc=> by
   by_cases e:c=b
   ·subst e
    intro s' i' el0 hh' _ _
    rw[hh] at hh'
    cases hh'
    exact⟨j,el',s7,s8,s9⟩
   ·exact s6 c hc e
  refine⟨_, .v (.int .i64 y),H,tp,rfl,hK y s10,fun c hc=> hc,fun c hc=> .inl hc,fun c hc=> Nat.lt_of_lt_of_le (htl c hc) s4,⟨s1,s2,s3,s4,fun c hc _ ht=> s5 c hc ht,htapes,s11⟩,fun c hc=> .inl hc,
   ⟨hsat.dis,hsat.out,fun k r hk=> (hsat.ok k r hk).conv (fun x d hr=> hr.mono (fun _ h=> h) (fun c hc=> ⟨⟨Nat.lt_of_lt_of_le hc.1 s4,hc.2.1,hc.2.2.1,hc.2.2.2⟩,s5 c hc.1 hc.2.2.1⟩) htapes) (fun c hc=> s5 c ((hsat.ok k r hk).lt hc) (hsat.out k r c hk hc).2)⟩, .v _ rfl (fun s hs=> by cases hs)⟩
 have hv:=UD (S:=S) b a len cap i n g0 hlen
 have cells2: ∀ (tp':Nat→Prop) (H':aa) (w':World) (j:Int),StW E2 tp' H' w'→H' 0=some (.box b [.v (.slice a len cap), .v (.int .i64 j)])→ ∃el',w'.heap[b]?=some (.cells #[.slice a len cap, .int .i64 j] el' (0,0)):=by
  intro tp' H' w' j hw hH
  obtain⟨xs,el',k1,k2,k3⟩:=hw.sat.ok 0 _ hH
  refine⟨el',?_⟩
  rw[k1]
  obtain⟨l⟩:=xs
  match l,k2,k3 with
  | [x,y],_,k3=>
    have a1:=(k3 0 x _ rfl rfl).2.inv_v
    have a2:=(k3 1 y _ rfl rfl).2.inv_v
    rw[a1,a2]
 have hret: ∀ (a':Act) (w':World) (σ':Sg) (H':aa),St E2 σ' H' a' w'→Vz b (.slice a len cap) i n .ret σ' H'→a'.defers= []∧ ∃v,(results fn a'.tmps).run P w'= .ok v w'∧M6 O tp H w K (.returned v) w':=by
  rintro a' w' σ' H' ⟨hd',hN',tp',hw',hr'⟩ ⟨k1,k2⟩
  obtain⟨v,r0,hrun,hRv,hq⟩:=mi (H:=H') (K:=fun r=> r= .v (.int .i64 0)) h5 hr' hw'.sat.ok k1
  subst hq
  have:=hRv.inv_v
  subst this
  obtain⟨el',k3⟩:=cells2 tp' H' w' i hw' k2
  have st:=hw'.step
  refine⟨hd',_,hrun,fin w' i 0 el' st.os st.tape st.output st.size (fun c hc ht=> st.same c hc (fun e=> ht (e ▸hb)) (fun h=> ht h.1)) (fun c hc hcb=> st.tapes c ⟨hc,hcb⟩) k3 g0 g1 st.drawn ?_⟩
  rcases Int.lt_or_le n 1 with h | h
  ·exact .inl ⟨h,rfl⟩
  ·exact .inr ⟨h,by omega,by omega⟩
 have htail: ∀ (a':Act) (w':World) (σ':Sg) (H':aa),St E2 σ' H' a' w'→Vz b (.slice a len cap) i n .norm σ' H'→xC.wp P (bodyPost P fn (M6 O tp H w K)) a' w':=by
  rintro a1 w1 σ1 H1 ⟨hd1,hN1,tp1,hw1,hr1⟩ ⟨k1,k2,k3,k4⟩
  obtain⟨el1,k5⟩:=cells2 tp1 H1 w1 (i+1) hw1 k3
  have st1:=hw1.step
  have hsz1:w.heap.size≤w1.heap.size:=st1.size
  have same1: ∀c,c < w.heap.size→ ¬tp c→w1.heap[c]?=w.heap[c]?:=fun c hc ht=> st1.same c hc (fun e=> ht (e ▸hb)) (fun h=> ht h.1)
  have tp1o: ∀c,c < w.heap.size→tp1 c→tp2 c:=fun c hc h=> (hw1.tpn c h).elim id (fun h=> by
   have h:w.heap.size≤c:=h
   omega)
  have hb1: ¬tp1 b:=fun h=> (tp1o b hbl h).2 rfl
  let E3:ny:= { O:=O2,tp0:=tp1,w0:=w1,own0:=fun _=> False,N:=fn.ntmps }
  have himm: ∀c,bW O tp H w c→bW O2 tp1 cu w1 c∧w1.heap[c]?=w.heap[c]?:=fun c hc=> ⟨⟨Nat.lt_of_lt_of_le hc.1 hsz1,fun h=> h.1.elim hc.2.1 hc.2.2.2,fun h=> hc.2.2.1 (tp1o c hc.1 h).1,fun⟨j,r,h,_⟩=> by simp[cu] at h⟩,same1 c hc.1 hc.2.2.1⟩
  have hbi:bW O2 tp1 cu w1 b:=⟨Nat.lt_of_lt_of_le hbl hsz1,fun h=> h.2 rfl,hb1,fun⟨j,r,h,_⟩=> by simp[cu] at h⟩
  have hRs:R tp1 (bW O2 tp1 cu w1) w1 (.slice a len cap) (.list 1 (L.map enc)):=DW (es:=L.map fun n=> D.v (.int .i64 n)) (fun d hd=> by simp at hd;obtain⟨n,_,rfl⟩:=hd;exact⟨n,rfl⟩) hR himm
  have st3:St E3 (d4 [.cptr [.list 1 (L.map enc), .v (.int .i64 (i+1))] 0, .v (.int .i64 n)]) cu a1 w1:=by
   refine⟨hd1,hN1,tp1,⟨fun c hc=> Nat.lt_of_lt_of_le (hc.1.elim (hO c) (hownlt c)) hsz1,fun c hc=> hc,fun c hc=> .inl hc,hw1.tpl, .refl _ _ _,fun c ⟨j,r,k1,k2⟩=> by simp[cu] at k1,⟨fun j k r q c k1 k2 k3 k4=> by simp[cu] at k1,fun j r c k1 k2=> by simp[cu] at k1,fun j r k1=> by simp[cu] at k1⟩⟩,fun t=> ?_⟩
   rcases t with _ | _ | t
   ·have r0:=hr1 0
    rw[k1] at r0
    generalize a1.tmps.getD 0 undef=v0 at r0 ⊢
    cases r0
    obtain⟨f,q1,q2,q3⟩:=qS (tp:=tp1) (I:=bW O2 tp1 cu w1) (w:=w1) (cells:= [.list 1 (L.map enc), .v (.int .i64 (i+1))]) k5 rfl (by
     intro k y c hy hc
     rcases k with _ | _ | k
     ·simp at hy hc;subst hy;subst hc;exact⟨rfl,by simpa using hRs⟩
     ·simp at hy hc;subst hy;subst hc;exact⟨rfl, .v _ rfl (fun s hs=> by cases hs)⟩
     ·simp at hy)
    have:=Gv.R.cptr (tp:=tp1) (I:=bW O2 tp1 cu w1) b 0 [.list 1 (L.map enc), .v (.int .i64 (i+1))] 0 f hbi q1 q2 q3
    simpa [d4] using this
   ·have r0:=hr1 1
    rw[k2] at r0
    have:=r0.inv_v
    show R _ _ _ _ (.v (.int .i64 n))
    rw[this]
    exact .v _ rfl (fun s hs=> by cases hs)
   ·exact .any _
  have hv3:=UC (S:=S) hm L i n g0 (by have:i < (len:Int):=k4;omega) hp (by omega)
  refine Code.wp_mono ?_ (gC (E:=E3) hS BU X9 xC (by rw[Y4];exact hcC) _ _ _ _ _ st3 hv3)
  intro e a2 w2 hp2
  cases e with
  | ret=>
    obtain⟨σ2,H2',⟨hd2,hN2,tp2',hw2,hr2⟩,y,k6,k7⟩:=hp2
    obtain⟨v,r0,hrun,hRv,hq⟩:=mi (H:=H2') (K:=fun r=> r= .v (.int .i64 y)) h5 hr2 hw2.sat.ok k6
    subst hq
    have:=hRv.inv_v
    subst this
    have st2:=hw2.step
    have hsz2:w1.heap.size≤w2.heap.size:=st2.size
    have same2: ∀c,c < w1.heap.size→ ¬tp1 c→w2.heap[c]?=w1.heap[c]?:=fun c hc ht=> st2.same c hc (fun h=> h) ht
    refine⟨hd2,_,hrun,fin w2 (i+1) y el1 (st2.os.trans st1.os) (st2.tape.trans st1.tape) (st2.output.trans st1.output) (Nat.le_trans hsz1 hsz2) (fun c hc ht=> ?_) (fun c hc hcb=> (st1.tapes c ⟨hc,hcb⟩).trans (st2.tapes c (hw1.tpx c ⟨hc,hcb⟩))) ?_ (by omega) (by have:i < (len:Int):=k4;omega) (Nat.le_trans st1.drawn st2.drawn) k7⟩
    ·rw[same2 c (by omega) (fun h=> ht (tp1o c hc h).1),same1 c hc ht]
    ·rw[same2 b (by omega) hb1,k5]
  | normal=> obtain⟨σ2,H2',_,k⟩:=hp2;exact k.elim
  | exit j=> obtain⟨σ2,H2',_,k⟩:=hp2;exact k.elim
  | goto l=> exact hp2.elim
  | panic c=> exact hp2.elim
  | outgrown=> exact hp2.elim
 refine wp_seq (Code.wp_mono ?_ (gC (E:=E2) hS BU Ya x0 (by rw[Y7];exact hc0) (LY S (.seq WN VA) (Vz b (.slice a len cap) i n)) _ _ _ _ hst hv))
 intro e a1 w1 hp1
 cases e with
 | normal=>
   obtain⟨σ1,H1,st1,k1⟩:=hp1
   refine wp_seq (Code.wp_mono ?_ (gC (E:=E2) hS BU WN xA (by rw[Y6];exact hcA) (LY S VA (Vz b (.slice a len cap) i n)) _ _ _ _ st1 k1))
   intro e a1 w1 hp1
   cases e with
   | normal=>
     obtain⟨σ1,H1,st1,k1⟩:=hp1
     refine wp_seq (Code.wp_mono ?_ (gC (E:=E2) hS BU VA xB (by rw[Y5];exact hcB) (Vz b (.slice a len cap) i n) _ _ _ _ st1 k1))
     intro e a1 w1 hp1
     cases e with
     | normal=> obtain⟨σ1,H1,st1,k1⟩:=hp1;exact htail a1 w1 σ1 H1 st1 k1
     | ret=> obtain⟨σ1,H1,st1,k1⟩:=hp1;exact hret a1 w1 σ1 H1 st1 k1
     | exit j=> obtain⟨σ2,H2',_,k⟩:=hp1;exact k.elim
     | goto l=> exact hp1.elim
     | panic c=> exact hp1.elim
     | outgrown=> exact hp1.elim
   | ret=> obtain⟨σ1,H1,st1,k1⟩:=hp1;exact hret a1 w1 σ1 H1 st1 k1
   | exit j=> obtain⟨σ2,H2',_,k⟩:=hp1;exact k.elim
   | goto l=> exact hp1.elim
   | panic c=> exact hp1.elim
   | outgrown=> exact hp1.elim
 | ret=> obtain⟨σ1,H1,st1,k1⟩:=hp1;exact hret a1 w1 σ1 H1 st1 k1
 | exit j=> obtain⟨σ2,H2',_,k⟩:=hp1;exact k.elim
 | goto l=> exact hp1.elim
 | panic c=> exact hp1.elim
 | outgrown=> exact hp1.elim
end
end Go.Gv

namespace Go.Gv
open Cod (enc dec)
def xE (b:Nat) (L:List Int):Res:= .box b [.list 1 (L.map enc), .v (.int .i64 0)]
def Zx:PT:=fun d ds H K=> ∃l,(a1 (List Int)).dec ds=some l∧ ∀b L,K (.bptr d b 0) (ak H d (some (xE b L)))
def Ti (cc:CC) (rs:List aK) (S:Nat→Spc):Prop:=
 ∀l:List Int,vc S cc (tO rs fun r H'=> ∃j b L,r= .bptr j b 0∧H' j=some (xE b L)) (d4 [enc l]) cu
section
variable {P:Program} {S:Nat→Spc} {f:Nat} {im:List Nat} {cc:CC} {rs:List aK} {N:Nat}
theorem LP (hS: ∀f,Tri P f (S f).pt) (h:aS P f im cc rs N) (hN:1≤N) (hw:Ti cc rs S):Tri P f Zx:=by
 obtain⟨BU,enter,fn,code,h1,h2,h3,h4,h5⟩:=h
 refine lI hS BU h1 h2 enter h3 h4 h5 ?_
 rintro ds H d K ⟨l,hd,hK⟩
 have hl:=(a1 (List Int)).le ds l hd
 refine⟨by rw[hl.1];exact hN,_,cu,fun _=> 0,hl,fun i r h=> by simp[cu] at h,fun i j r s h=> by simp[cu] at h,_,hw l,?_⟩
 rintro r H' ⟨j,b,L,rfl,hj⟩
 refine⟨.bptr d b 0,cu,ak H d (some (xE b L)),fun i=> if i=d then some j else none, .bptr _ _ _ _,fun j q h=> by simp[cu] at h,hK b L,fun i s hi=> ?_,fun i j' k s q hi hj' e1 e2=> ?_⟩
 ·by_cases e:i=d
  ·subst e
   simp only[ak,if_true] at hi
   cases hi
   simpa using hj
  ·simp only[ak,e,if_false] at hi ⊢
   exact⟨hi,fun k q h=> by simp[cu] at h⟩
 ·have a:i=d:=by
   by_cases e:i=d
   ·exact e
   ·simp[e] at e1
  have b:j'=d:=by
   by_cases e:j'=d
   ·exact e
   ·simp[e] at e2
  exact a.trans b.symm
abbrev s_m_New:Spc:=dt (a1 (List Int)) (fun _=> True) (fun L:List Int=> D.tape L) (fun _ _=> True)
theorem Uf (hf:Tri P f Zx):Tri P f s_m_New.pt:=by
 intro O tp w vs ds H d K hO htl hsat hlen hargs hA
 simp only[s_m_New,rb] at hA
 cases hd: (a1 (List Int)).dec ds with
 | none=> rw[hd] at hA;exact hA.elim
 | some l=>
 rw[hd] at hA
 obtain⟨_,hK⟩:=hA
 have hownlt: ∀c,eA H c→c < w.heap.size:=fun c ⟨j,r,k1,k2⟩=> (hsat.ok j r k1).lt k2
 have hno: ∀c,¬eA cu c:=fun c ⟨j,r,h,_⟩=> by simp[cu] at h
 have himm: ∀c,bW O tp H w c→bW (fun c=> O c∨eA H c) tp cu w c:=fun c hc=> ⟨hc.1,fun h=> h.elim hc.2.1 hc.2.2.2,hc.2.2.1,hno c⟩
 obtain⟨c1,c2⟩:=hf (fun c=> O c∨eA H c) tp w vs ds cu 0 (fun r H'=> ∃b L,r= .bptr 0 b 0∧H'=ak cu 0 (some (xE b L))) (fun c hc=> hc.elim (hO c) (hownlt c)) htl
  ⟨fun i j r s b h=> by simp[cu] at h,fun i r b h=> by simp[cu] at h,fun i r h=> by simp[cu] at h⟩ hlen
  (fun k x c hx hc=> (hargs k x c hx hc).mono (fun _ h=> h) (fun c hc=> ⟨himm c hc,rfl⟩) (fun b _=> .refl _ _)) ⟨l,hd,fun b L=> ⟨b,L,rfl,rfl⟩⟩
 refine⟨c1,c2.mono ?_⟩
 rintro e w1 ⟨x,r,H',tp',rfl,⟨b,L,rfl,rfl⟩,tpx,tpn,tpl,st,loc,sat,hR⟩
 cases hR
 have hH:ak cu 0 (some (xE b L)) 0=some (xE b L):=rfl
 have hbo:eA (ak cu 0 (some (xE b L))) b:=⟨0,_,hH,rfl⟩
 have hbs:w.heap.size≤b:=(loc b hbo).elim (fun h=> (hno b h).elim) id
 have hbl:b < w1.heap.size:=(sat.ok 0 _ hH).lt rfl
 have hbtp:=sat.out 0 _ b hH rfl
 have hsz:w.heap.size≤w1.heap.size:=st.size
 have old: ∀c,c < w.heap.size→ ¬tp c→ ¬ (tp' c∨c=b):=fun c hc ht h=> h.elim (fun h=> (tpn c h).elim ht (fun h=> by
  have h:w.heap.size≤c:=h
  omega)) (fun h=> by omega)
 have same: ∀c,c < w.heap.size→ ¬tp c→w1.heap[c]?=w.heap[c]?:=fun c hc ht=> st.same c hc (hno c) ht
 obtain⟨xs,el,q1,q2,q3⟩:=sat.ok 0 _ hH
 obtain⟨xl⟩:=xs
 match xl,q2,q3,q1 with
 | [s,y],_,q3,q1=>
 have a1':=(q3 0 s _ rfl rfl).2
 have a2:=(q3 1 y _ rfl rfl).2.inv_v
 subst a2
 have hsl:slen s=L.length:=by
  generalize hes:L.map enc=es at a1'
  have hl2:L.length=es.length:=by rw[←hes];simp
  cases a1' with
  | nolist=> simp at hl2;simp[slen,hl2]
  | list=> rw[hl2];rfl
 refine⟨_, .tape L,H,fun c=> tp' c∨c=b,rfl,hK L trivial,fun c hc=> .inl (tpx c hc),fun c hc=> hc.elim (tpn c) (fun e=> .inr (e ▸hbs)),fun c hc=> hc.elim (tpl c) (fun e=> e ▸hbl),
  ⟨st.os,st.tape,st.output,st.size,fun c hc _ ht=> same c hc ht,st.tapes,st.drawn⟩,fun c hc=> .inl hc,
  ⟨hsat.dis,fun i r c hi hc=> ⟨(hsat.out i r c hi hc).1,old c ((hsat.ok i r hi).lt hc) (hsat.out i r c hi hc).2⟩,fun i r hi=> (hsat.ok i r hi).conv (fun x d hr=> hr.mono (fun c hc=> .inl (tpx c hc)) (fun c hc=> ⟨⟨Nat.lt_of_lt_of_le hc.1 hsz,hc.2.1,old c hc.1 hc.2.2.1,hc.2.2.2⟩,same c hc.1 hc.2.2.1⟩) st.tapes) (fun c hc=> same c ((hsat.ok i r hi).lt hc) (hsat.out i r c hi hc).2)⟩,?_⟩
 refine .tape b L s 0 el (.inr rfl) q1 (by omega) (by omega) hsl ?_
 have a3:R tp' (bW (fun c=> O c∨eA H c) tp' (ak cu 0 (some (xE b L))) w1) w1 s (.list 1 (L.map fun n=> D.v (.int .i64 n))):=a1'
 exact DW (fun d hd=> by simp at hd;obtain⟨n,_,rfl⟩:=hd;exact⟨n,rfl⟩) a3 (fun c hc=> ⟨⟨hc.1,fun h=> hc.2.1 (.inl h),fun h=> h.elim hc.2.2.1 (fun e=> hc.2.2.2 (e ▸hbo)),fun h=> hc.2.1 (.inr h)⟩,rfl⟩)
end
end Go.Gv

namespace Go.Gv
open Cod (enc dec)
variable {S S0:Nat→Spc}
def Vm {X:Type} (_:X):Prop:=True
end Go.Gv

namespace Go.Gv
open Cod (enc dec)
variable {S S0:Nat→Spc}
theorem QK {X:Type} [Cod X] (l:List X) (k:Nat):List.take k (List.map enc l)=List.map enc (List.take k l):=List.map_take.symm
end Go.Gv

namespace Go.Gv
open Cod (enc dec)
variable {S S0:Nat→Spc}
end Go.Gv

namespace Go.Gv
open Cod (enc dec)
variable {S S0:Nat→Spc}
end Go.Gv

namespace Go.Gv
open Cod (enc dec)
variable {S S0:Nat→Spc}
def BU {X:Type} (f:X→X) (a b:List X) (j:Nat):List X:=a++ ((b.take j).map f++b.drop j)
end Go.Gv

namespace Go.Gv
open Cod (enc dec)
variable {S S0:Nat→Spc}
end Go.Gv
