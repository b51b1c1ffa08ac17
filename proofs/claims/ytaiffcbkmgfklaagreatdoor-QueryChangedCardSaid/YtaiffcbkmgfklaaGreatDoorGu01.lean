/- A part of the framework and of the walks: A B C S1. -/
import Derived.WalkKit
import Derived.Orders
import Derived.Below
set_option linter.unusedSimpArgs false
set_option linter.unusedVariables false

namespace Go.Gv
inductive D where
 | any
 | undef
 | v (x:Value)
 | agg (cs:List D)
 | list (n:Nat) (es:List D)
 | cptr (cs:List D) (off:Nat)
 | bptr (id b off:Nat)
 | own (id:Nat) (x:Value)
 | eptr (id:Nat) (x:Value) (n i off:Nat)
 | sub (id:Nat) (x:Value) (n lo hi:Nat)
 | tape (L:List Int)
 | clo (f:Nat) (caps:List D)
 | tup (ds:List D)
def D.cells:D→List D
 | .agg cs=> cs
 | d=> [d]
def D.kn:D→Bool
 | .any | .undef | .tup _=> false
 | _=> true
def cj (es:List D):List D:=es.flatMap D.cells
def slen:Value→Nat
 | .slice _ n _=> n
 | _=> 0
inductive R (tp I:Nat→Prop) (w:World):Value→D→Prop
 | any (x:Value):R tp I w x .any
 | undef:R tp I w Go.undef .undef
 | v (x:Value) (h:x.oneCell'=true) (hs: ∀s,x= .string s→s.size≤maxLen):R tp I w x (.v x)
 | agg (xs:List Value) (cs:List D) (hl:xs.length=cs.length) (h1: ∀x∈xs,x.oneCell'=true)
    (h: ∀ (k:Nat) (x:Value) (c:D),xs[k]?=some x→cs[k]?=some c→R tp I w x c):R tp I w (.agg xs.toArray) (.agg cs)
 | nolist (a:Option Addr) (cap n:Nat):R tp I w (.slice a 0 cap) (.list n [])
 | list (b off cap n:Nat) (es:List D) (f:Nat→Value) (hI:I b) (hc:es.length≤cap) (hm:cap≤maxLen)
    (hn: ∀d∈es,d.kn=true∧d.cells.length=n)
    (hcell: ∀ (k:Nat) (c:D),(cj es)[k]?=some c→w.cell? ⟨b,off+k,none⟩=some (f k))
    (h1: ∀ (k:Nat) (c:D),(cj es)[k]?=some c→(f k).oneCell'=true)
    (h: ∀ (k:Nat) (c:D),(cj es)[k]?=some c→R tp I w (f k) c):R tp I w (.slice (some ⟨b,off,none⟩) es.length cap) (.list n es)
 | cptr (b base:Nat) (cs:List D) (off:Nat) (f:Nat→Value) (hI:I b)
    (hcell: ∀ (k:Nat) (c:D),cs[k]?=some c→w.cell? ⟨b,base+k,none⟩=some (f k))
    (h1: ∀ (k:Nat) (c:D),cs[k]?=some c→(f k).oneCell'=true)
    (h: ∀ (k:Nat) (c:D),cs[k]?=some c→R tp I w (f k) c):R tp I w (.pointer (some ⟨b,base+off,none⟩)) (.cptr cs off)
 | bptr (id b off:Nat):R tp I w (.pointer (some ⟨b,off,none⟩)) (.bptr id b off)
 | own (id:Nat) (x:Value) (h:x.oneCell'=true):R tp I w x (.own id x)
 | eptr (id:Nat) (b len cap n i off:Nat):R tp I w (.pointer (some ⟨b,i*n+off,none⟩)) (.eptr id (.slice (some ⟨b,0,none⟩) len cap) n i off)
 | subnil (id n:Nat):R tp I w (.slice none 0 0) (.sub id (.slice none 0 0) n 0 0)
 | sub (id b len cap n lo hi:Nat) (p:Option Addr) (h1:lo≤hi) (h2:hi≤len) (h3:len≤cap) (hm:cap≤maxLen) (hp:lo < cap∨lo=0→p=some ⟨b,lo*n,none⟩):
    R tp I w (.slice p (hi -lo) (cap -lo)) (.sub id (.slice (some ⟨b,0,none⟩) len cap) n lo hi)
 | tape (b:Nat) (L:List Int) (s:Value) (i:Int) (el:Nat) (hb:tp b) (hh:w.heap[b]?=some (.cells #[s, .int .i64 i] el (0,0)))
    (h0:0≤i) (h1:i≤slen s) (hs:slen s=L.length) (h:R tp I w s (.list 1 (L.map fun n=> .v (.int .i64 n)))):R tp I w (.pointer (some ⟨b,0,none⟩)) (.tape L)
 | clo (f:Nat) (xs:List Value) (caps:List D) (hl:xs.length=caps.length)
    (h: ∀ (k:Nat) (x:Value) (c:D),xs[k]?=some x→caps[k]?=some c→R tp I w x c):R tp I w (.func (.func f) #[] xs.toArray) (.clo f caps)
 | tup (xs:List Value) (ds:List D) (hl:xs.length=ds.length)
    (h: ∀ (k:Nat) (x:Value) (c:D),xs[k]?=some x→ds[k]?=some c→R tp I w x c):R tp I w (.tuple xs.toArray) (.tup ds)
def TapeStep (w w':World) (b:Nat):Prop:=
 ∀ (s:Value) (i:Int) (el:Nat),w.heap[b]?=some (.cells #[s, .int .i64 i] el (0,0))→0≤i→i≤slen s→
  ∃ (j:Int) (el':Nat),w'.heap[b]?=some (.cells #[s, .int .i64 j] el' (0,0))∧0≤j∧j≤slen s
theorem TapeStep.refl (w:World) (b:Nat):TapeStep w w b:=fun _ i el h h0 h1=> ⟨i,el,h,h0,h1⟩
theorem TapeStep.same {w w':World} {b:Nat} (h:w'.heap[b]?=w.heap[b]?):TapeStep w w' b:=fun _ i el hh h0 h1=> ⟨i,el,h ▸hh,h0,h1⟩
theorem TapeStep.trans {w w1 w2:World} {b:Nat} (h:TapeStep w w1 b) (k:TapeStep w1 w2 b):TapeStep w w2 b:=fun s i el hh h0 h1=> by
 obtain⟨j,el',a1,a2,a3⟩:=h s i el hh h0 h1
 exact k s j el' a1 a2 a3
theorem R.mono {tp I tp' I':Nat→Prop} {w w':World} {x:Value} {d:D} (h:R tp I w x d) (ht: ∀b,tp b→tp' b)
 (hI: ∀b,I b→I' b∧w'.heap[b]?=w.heap[b]?) (hT: ∀b,tp b→TapeStep w w' b):R tp' I' w' x d:=by
 induction h with
 | any x=> exact .any x
 | undef=> exact .undef
 | v x h hs=> exact .v x h hs
 | agg xs cs hl h1 _ ih=> exact .agg xs cs hl h1 ih
 | nolist a cap n=> exact .nolist a cap n
 | list b off cap n es f hIb hc hm hn hcell h1 _ ih=>
   exact .list b off cap n es f (hI b hIb).1 hc hm hn (fun k c hk=> by rw[World.cell?_of_block (w:=w) (hI b hIb).2];exact hcell k c hk) h1 ih
 | cptr b base cs off f hIb hcell h1 _ ih=>
   exact .cptr b base cs off f (hI b hIb).1 (fun k c hk=> by rw[World.cell?_of_block (w:=w) (hI b hIb).2];exact hcell k c hk) h1 ih
 | bptr id b off=> exact .bptr id b off
 | own id x h=> exact .own id x h
 | eptr id b len cap n i off=> exact .eptr id b len cap n i off
 | subnil id n=> exact .subnil id n
 | sub id b len cap n lo hi p h1 h2 h3 hm hp=> exact .sub id b len cap n lo hi p h1 h2 h3 hm hp
 | tape b L s i el hb hh h0 h1 hs _ ih=>
   obtain⟨j,el',a1,a2,a3⟩:=hT b hb s i el hh h0 h1
   exact .tape b L s j el' (ht b hb) a1 a2 a3 hs ih
 | clo f xs caps hl _ ih=> exact .clo f xs caps hl ih
 | tup xs ds hl _ ih=> exact .tup xs ds hl ih
theorem R.cells {tp I:Nat→Prop} {w:World} {x:Value} {d:D} (h:R tp I w x d) (hk:d.kn=true):
 x.cells.toList.length=d.cells.length∧ ∀ (k:Nat) (y:Value) (c:D),x.cells.toList[k]?=some y→d.cells[k]?=some c→y.oneCell'=true∧R tp I w y c:=by
 have one: ∀ (y:Value) (e:D),y.oneCell'=true→e.cells= [e]→y.cells= #[y]→R tp I w y e→
  y.cells.toList.length=e.cells.length∧ ∀ (k:Nat) (z:Value) (c:D),y.cells.toList[k]?=some z→e.cells[k]?=some c→z.oneCell'=true∧R tp I w z c:=by
  intro y e h1 he hy hr
  rw[he,hy]
  refine⟨rfl,fun k z c hz hc=> ?_⟩
  cases k with
  | zero=> simp at hz hc;subst hz;subst hc;exact⟨h1,hr⟩
  | succ k=> simp at hz
 have cellsOne: ∀y:Value,y.oneCell'=true→y.cells= #[y]:=by
  intro y hy
  cases y <;> first | rfl | (simp[Value.oneCell'] at hy)
 cases h with
 | any x=> simp[D.kn] at hk
 | undef=> simp[D.kn] at hk
 | tup xs ds hl h=> simp[D.kn] at hk
 | agg xs cs hl h1 h=>
   refine⟨hl,fun k y c hy hc=> ⟨h1 y (List.mem_of_getElem? hy),h k y c hy hc⟩⟩
 | v x h hs=> exact one _ _ h rfl (cellsOne _ h) (.v x h hs)
 | own id x h=> exact one _ _ h rfl (cellsOne _ h) (.own id x h)
 | nolist a cap n=> exact one _ _ rfl rfl rfl (.nolist a cap n)
 | list b off cap n es f hIb hc hm hn hcell h1 h=> exact one _ _ rfl rfl rfl (.list b off cap n es f hIb hc hm hn hcell h1 h)
 | cptr b base cs off f hIb hcell h1 h=> exact one _ _ rfl rfl rfl (.cptr b base cs off f hIb hcell h1 h)
 | bptr id b off=> exact one _ _ rfl rfl rfl (.bptr id b off)
 | eptr id b len cap n i off=> exact one _ _ rfl rfl rfl (.eptr id b len cap n i off)
 | subnil id n=> exact one _ _ rfl rfl rfl (.subnil id n)
 | sub id b len cap n lo hi p h1 h2 h3 hm hp=> exact one _ _ rfl rfl rfl (.sub id b len cap n lo hi p h1 h2 h3 hm hp)
 | tape b L s i el hb hh h0 h1 hs h=> exact one _ _ rfl rfl rfl (.tape b L s i el hb hh h0 h1 hs h)
 | clo f xs caps hl h=> exact one _ _ rfl rfl rfl (.clo f xs caps hl h)
theorem gM {n:Nat} : ∀ {es:List D},(∀d∈es,d.cells.length=n)→ ∀ {i j:Nat},j < n→(cj es)[i*n+j]?=(es[i]?).bind fun d=> d.cells[j]?
 | [],_,i,j,_=> by simp[cj]
 | d::es,h,0,j,hj=> by
   have hd:=h d (by simp)
   simp only[cj,List.flatMap_cons,Nat.zero_mul,Nat.zero_add]
   rw[List.getElem?_append_left (by omega)]
   simp
 | d::es,h,i+1,j,hj=> by
   have hd:=h d (by simp)
   have ih:=gM (es:=es) (fun d hd=> h d (by simp[hd])) (i:=i) hj
   simp only[cj,List.flatMap_cons] at ih ⊢
   rw[List.getElem?_append_right (by rw[hd,Nat.succ_mul];omega),hd]
   have: (i+1) *n+j -n=i*n+j:=by rw[Nat.succ_mul];omega
   rw[this,ih]
   simp
theorem bA {n:Nat} : ∀ {es:List D},(∀d∈es,d.cells.length=n)→(cj es).length=es.length*n
 | [],_=> by simp[cj]
 | d::es,h=> by
   have ih:=bA (es:=es) (fun d hd=> h d (by simp[hd]))
   simp only[cj,List.flatMap_cons,List.length_append] at ih ⊢
   rw[ih,h d (by simp),List.length_cons,Nat.succ_mul]
   omega
theorem oz (a b:List D):cj (a++b)=cj a++cj b:=by simp[cj]
end Go.Gv

namespace Go.Gv
inductive Res where
 | box (b:Nat) (cells:List D)
 | row (x:Value) (el n:Nat) (es:List D)
 | iter (b:Nat) (s:ByteArray) (pos:Nat)
 | tbox (el b:Nat) (cells:List D)
def Res.blk:Res→Option Nat
 | .box b _=> some b
 | .row x _ _ _=> x.ownBlock
 | .iter b _ _=> some b
 | .tbox _ b _=> some b
abbrev ab:=Nat→Option Res
def au (H:ab) (id:Nat) (r:Option Res):ab:=fun i=> if i=id then r else H i
def eR (H:ab) (b:Nat):Prop:= ∃i r,H i=some r∧r.blk=some b
def cm (O tp:Nat→Prop) (H:ab) (w:World) (b:Nat):Prop:=b < w.heap.size∧ ¬O b∧ ¬tp b∧ ¬eR H b
def ct (Q:Value→D→Prop) (xs:List Value) (cs:List D):Prop:=
 ∀ (k:Nat) (y:Value) (c:D),xs[k]?=some y→cs[k]?=some c→y.oneCell'=true∧Q y c
def ResOk (Q:Value→D→Prop) (w:World):Res→Prop
 | .box b cells=> ∃ (xs:Array Value) (el:Nat),w.heap[b]?=some (.cells xs el (0,0))∧xs.size=cells.length∧ct Q xs.toList cells
 | .iter b s pos=> w.heap[b]?=some (.stringIter s pos)
 | .tbox el b cells=> ∃xs:Array Value,w.heap[b]?=some (.cells xs el (0,0))∧xs.size=cells.length∧ct Q xs.toList cells
 | .row x el n es=> ∃xs:List Value,w.ownsRow 0 el n x es.length xs∧(∀d∈es,d.kn=true∧d.cells.length=n)∧ct Q xs (cj es)
structure qbo (O tp:Nat→Prop) (H:ab) (w:World):Prop where
 dis: ∀i j r s b,H i=some r→H j=some s→r.blk=some b→s.blk=some b→i=j
 out: ∀i r b,H i=some r→r.blk=some b→ ¬O b∧ ¬tp b
 ok: ∀i r,H i=some r→ResOk (R tp (cm O tp H w) w) w r
structure GrB (w w':World) (row:Option Nat):Prop extends World.grownBy w w' row where
 drawn:w.drawn≤w'.drawn
theorem GrB.alloc (w:World) (o:Obj) (row:Option Nat):GrB w (w.alloc o) row:=⟨World.grownBy_alloc w o row,Nat.le_refl _⟩
structure Step (tp own:Nat→Prop) (w w':World):Prop where
 os:w'.os=w.os
 tape:w'.tape=w.tape
 output:w'.output=w.output
 size:w.heap.size≤w'.heap.size
 same: ∀b,b < w.heap.size→ ¬own b→ ¬tp b→w'.heap[b]?=w.heap[b]?
 tapes: ∀b,tp b→TapeStep w w' b
 drawn:w.drawn≤w'.drawn
theorem Step.refl (tp own:Nat→Prop) (w:World):Step tp own w w:=⟨rfl,rfl,rfl,Nat.le_refl _,fun _ _ _ _=> rfl,fun _ _=> .refl _ _,Nat.le_refl _⟩
theorem ResOk.conv {Q Q':Value→D→Prop} {w w':World} {r:Res} (h:ResOk Q w r) (hq: ∀x d,Q x d→Q' x d) (hb: ∀b,r.blk=some b→w'.heap[b]?=w.heap[b]?):ResOk Q' w' r:=by
 cases r with
 | box b cells=>
   obtain⟨xs,el,h1,h2,h3⟩:=h
   exact⟨xs,el,by rw[hb b rfl];exact h1,h2,fun k y c hy hc=> ⟨(h3 k y c hy hc).1,hq _ _ (h3 k y c hy hc).2⟩⟩
 | row x el n es=>
   obtain⟨xs,⟨h0,h1⟩,h2,h3⟩:=h
   refine⟨xs,⟨h0,?_⟩,h2,fun k y c hy hc=> ⟨(h3 k y c hy hc).1,hq _ _ (h3 k y c hy hc).2⟩⟩
   rcases h1 with h1 | ⟨g,cap,cur,e1,e2,e3,e4⟩
   ·exact .inl h1
   ·exact .inr ⟨g,cap,cur,e1,e2,by rw[hb g (by subst e1;rfl)];exact e3,e4⟩
 | tbox el b cells=>
   obtain⟨xs,h1,h2,h3⟩:=h
   exact⟨xs,by rw[hb b rfl];exact h1,h2,fun k y c hy hc=> ⟨(h3 k y c hy hc).1,hq _ _ (h3 k y c hy hc).2⟩⟩
 | iter b s pos=>
   have h:w.heap[b]?=some (.stringIter s pos):=h
   show w'.heap[b]?=_
   rw[hb b rfl];exact h
theorem ResOk.lt {Q:Value→D→Prop} {w:World} {r:Res} (h:ResOk Q w r) {b:Nat} (hb:r.blk=some b):b < w.heap.size:=by
 cases r with
 | box b' cells=>
   obtain⟨xs,el,h1,_⟩:=h
   cases hb
   exact(Array.getElem?_eq_some_iff.1 h1).1
 | row x el n es=>
   obtain⟨xs,⟨_,h1⟩,_⟩:=h
   rcases h1 with⟨rfl,_⟩ | ⟨g,cap,cur,rfl,_,e3,_⟩
   ·simp[Res.blk,Value.ownBlock] at hb
   ·simp[Res.blk,Value.ownBlock] at hb
    subst hb
    exact(Array.getElem?_eq_some_iff.1 e3).1
 | tbox el b' cells=>
   obtain⟨xs,h1,_⟩:=h
   cases hb
   exact(Array.getElem?_eq_some_iff.1 h1).1
 | iter b' s pos=>
   have h:w.heap[b']?=some (.stringIter s pos):=h
   cases hb
   exact(Array.getElem?_eq_some_iff.1 h).1
structure pR where
 O:Nat→Prop
 tp0:Nat→Prop
 w0:World
 own0:Nat→Prop
 N:Nat
 ds:List Deferred:= []
structure StW (E:pR) (tp:Nat→Prop) (H:ab) (w:World):Prop where
 hO: ∀b,E.O b→b < E.w0.heap.size
 tpx: ∀b,E.tp0 b→tp b
 tpn: ∀b,tp b→E.tp0 b∨E.w0.heap.size≤b
 tpl: ∀b,tp b→b < w.heap.size
 step:Step E.tp0 E.own0 E.w0 w
 loc: ∀b,eR H b→E.own0 b∨E.w0.heap.size≤b
 sat:qbo E.O tp H w
theorem StW.move {E:pR} {tp tp':Nat→Prop} {H H':ab} {w w':World} (h:StW E tp H w) (hs:Step tp (eR H) w w')
 (ht: ∀b,tp b→tp' b) (htn: ∀b,tp' b→tp b∨w.heap.size≤b) (htl: ∀b,tp' b→b < w'.heap.size)
 (hloc: ∀b,eR H' b→eR H b∨w.heap.size≤b) (hsat:qbo E.O tp' H' w'):
 StW E tp' H' w'∧ ∀x d,R tp (cm E.O tp H w) w x d→R tp' (cm E.O tp' H' w') w' x d:=by
 have hw:E.w0.heap.size≤w.heap.size:=h.step.size
 refine⟨⟨h.hO,fun b hb=> ht b (h.tpx b hb),fun b hb=> ?_,htl,?_,fun b hb=> ?_,hsat⟩,fun x d hr=> ?_⟩
 ·rcases htn b hb with hb | hb
  ·exact h.tpn b hb
  ·exact .inr (Nat.le_trans hw hb)
 ·refine⟨hs.os.trans h.step.os,hs.tape.trans h.step.tape,hs.output.trans h.step.output,Nat.le_trans hw hs.size,fun b hb ho htp=> ?_,fun b hb=> (h.step.tapes b hb).trans (hs.tapes b (h.tpx b hb)),Nat.le_trans h.step.drawn hs.drawn⟩
  rw[hs.same b (by omega) (fun hown=> ?_) (fun hT=> ?_)]
  ·exact h.step.same b hb ho htp
  ·rcases h.loc b hown with h1 | h1
   ·exact ho h1
   ·omega
  ·rcases h.tpn b hT with h1 | h1
   ·exact htp h1
   ·omega
 ·rcases hloc b hb with hb | hb
  ·exact h.loc b hb
  ·exact .inr (Nat.le_trans hw hb)
 ·refine hr.mono ht (fun b hb=> ?_) hs.tapes
  obtain⟨h1,h2,h3,h4⟩:=hb
  refine⟨⟨Nat.lt_of_lt_of_le h1 hs.size,h2,fun hT=> ?_,fun ho=> ?_⟩,hs.same b h1 h4 h3⟩
  ·rcases htn b hT with h5 | h5
   ·exact h3 h5
   ·omega
  ·rcases hloc b ho with h5 | h5
   ·exact h4 h5
   ·omega
theorem Sh {H:ab} {id:Nat} {r':Option Res} {b:Nat} (h:eR (au H id r') b): (∃r,r'=some r∧r.blk=some b)∨ ∃i r,i≠id∧H i=some r∧r.blk=some b:=by
 obtain⟨i,r,h1,h2⟩:=h
 by_cases hi:i=id
 ·subst hi
  simp[au] at h1
  exact .inl ⟨r,h1,h2⟩
 ·simp[au,hi] at h1
  exact .inr ⟨i,r,hi,h1,h2⟩
theorem StW.own {E:pR} {tp:Nat→Prop} {H:ab} {w w':World} {row:Option Nat} (h:StW E tp H w) (id:Nat) (r':Option Res) (hg:GrB w w' row)
 (hrow: ∀b,row=some b→ ∃r,H id=some r∧r.blk=some b)
 (hblk: ∀r b,r'=some r→r.blk=some b→w.heap.size≤b∨ ∃r0,H id=some r0∧r0.blk=some b)
 (hok: (∀x d,R tp (cm E.O tp H w) w x d→R tp (cm E.O tp (au H id r') w') w' x d)→ ∀r,r'=some r→ResOk (R tp (cm E.O tp (au H id r') w') w') w' r):
 StW E tp (au H id r') w'∧ ∀x d,R tp (cm E.O tp H w) w x d→R tp (cm E.O tp (au H id r') w') w' x d:=by
 have hw:E.w0.heap.size≤w.heap.size:=h.step.size
 have rowOwn: ∀b,row=some b→eR H b:=fun b hb=> by obtain⟨r,h1,h2⟩:=hrow b hb;exact⟨id,r,h1,h2⟩
 have hloc: ∀b,eR (au H id r') b→eR H b∨w.heap.size≤b:=fun b hb=> by
  rcases Sh hb with⟨r,h1,h2⟩ | ⟨i,r,_,h1,h2⟩
  ·rcases hblk r b h1 h2 with h3 | ⟨r0,h3,h4⟩
   ·exact .inr h3
   ·exact .inl ⟨id,r0,h3,h4⟩
  ·exact .inl ⟨i,r,h1,h2⟩
 have sameImm: ∀b,cm E.O tp H w b→cm E.O tp (au H id r') w' b∧w'.heap[b]?=w.heap[b]?:=fun b hb=> by
  obtain⟨h1,h2,h3,h4⟩:=hb
  refine⟨⟨Nat.lt_of_lt_of_le h1 hg.size,h2,h3,fun ho=> ?_⟩,hg.block b h1 (fun e=> h4 (rowOwn b e.symm))⟩
  rcases hloc b ho with h5 | h5
  ·exact h4 h5
  ·omega
 have tapeSame: ∀b,tp b→w'.heap[b]?=w.heap[b]?:=fun b hb=> hg.block b (h.tpl b hb) (fun e=> by
  obtain⟨r,h1,h2⟩:=hrow b e.symm
  exact(h.sat.out id r b h1 h2).2 hb)
 have move: ∀x d,R tp (cm E.O tp H w) w x d→R tp (cm E.O tp (au H id r') w') w' x d:=fun x d hr=>
  hr.mono (fun _ h=> h) sameImm (fun b hb=> .same (tapeSame b hb))
 have hstep:Step tp (eR H) w w':=⟨hg.os,hg.tape,hg.output,hg.size,fun b hb ho _=> hg.block b hb (fun e=> ho (rowOwn b e.symm)),fun b hb=> .same (tapeSame b hb),hg.drawn⟩
 refine h.move hstep (fun _ h=> h) (fun _ h=> .inl h) (fun b hb=> Nat.lt_of_lt_of_le (h.tpl b hb) hg.size) hloc ⟨?_,?_,?_⟩
 ·intro i j r s b hi hj hr hs
  by_cases e1:i=id
  ·by_cases e2:j=id
   ·exact e1.trans e2.symm
   ·exfalso
    subst e1
    simp[au] at hi
    simp[au,e2] at hj
    rcases hblk r b hi hr with h3 | ⟨r0,h3,h4⟩
    ·have:=(h.sat.ok j s hj).lt hs;omega
    ·exact e2 (h.sat.dis _ _ _ _ b hj h3 hs h4)
  ·simp[au,e1] at hi
   by_cases e2:j=id
   ·exfalso
    subst e2
    simp[au] at hj
    rcases hblk s b hj hs with h3 | ⟨r0,h3,h4⟩
    ·have:=(h.sat.ok i r hi).lt hr;omega
    ·exact e1 (h.sat.dis _ _ _ _ b hi h3 hr h4)
   ·simp[au,e2] at hj
    exact h.sat.dis _ _ _ _ b hi hj hr hs
 ·intro i r b hi hr
  by_cases e1:i=id
  ·subst e1
   simp[au] at hi
   rcases hblk r b hi hr with h3 | ⟨r0,h3,h4⟩
   ·exact⟨fun hO=> by have:=h.hO b hO;omega,fun hT=> by have:=h.tpl b hT;omega⟩
   ·exact h.sat.out _ r0 b h3 h4
  ·simp[au,e1] at hi
   exact h.sat.out _ r b hi hr
 ·intro i r hi
  by_cases e1:i=id
  ·subst e1
   simp[au] at hi
   exact hok move r hi
  ·simp[au,e1] at hi
   refine(h.sat.ok i r hi).conv move (fun b hb=> hg.block b ((h.sat.ok i r hi).lt hb) (fun e=> ?_))
   obtain⟨r0,h3,h4⟩:=hrow b e.symm
   exact e1 (h.sat.dis _ _ _ _ b hi h3 hb h4)
theorem StW.grow {E:pR} {tp:Nat→Prop} {H:ab} {w w':World} (h:StW E tp H w) (hg:GrB w w' none):
 StW E tp H w'∧ ∀x d,R tp (cm E.O tp H w) w x d→R tp (cm E.O tp H w') w' x d:=by
 have sameImm: ∀b,cm E.O tp H w b→cm E.O tp H w' b∧w'.heap[b]?=w.heap[b]?:=fun b hb=>
  ⟨⟨Nat.lt_of_lt_of_le hb.1 hg.size,hb.2⟩,hg.block b hb.1 (by simp)⟩
 have tapeSame: ∀b,tp b→w'.heap[b]?=w.heap[b]?:=fun b hb=> hg.block b (h.tpl b hb) (by simp)
 have move: ∀x d,R tp (cm E.O tp H w) w x d→R tp (cm E.O tp H w') w' x d:=fun x d hr=>
  hr.mono (fun _ h=> h) sameImm (fun b hb=> .same (tapeSame b hb))
 have hstep:Step tp (eR H) w w':=⟨hg.os,hg.tape,hg.output,hg.size,fun b hb _ _=> hg.block b hb (by simp),fun b hb=> .same (tapeSame b hb),hg.drawn⟩
 refine h.move hstep (fun _ h=> h) (fun _ h=> .inl h) (fun b hb=> Nat.lt_of_lt_of_le (h.tpl b hb) hg.size) (fun b hb=> .inl hb) ⟨h.sat.dis,h.sat.out,fun i r hi=> ?_⟩
 exact(h.sat.ok i r hi).conv move (fun b hb=> hg.block b ((h.sat.ok i r hi).lt hb) (by simp))
theorem LI (w:World) (row:Option Nat):GrB w w.drew row:=⟨⟨rfl,rfl,rfl,Nat.le_refl _,fun _ _ _=> rfl⟩,Nat.le_succ _⟩
theorem fc (w:World) (row:Option Nat):GrB w w row:=⟨⟨rfl,rfl,rfl,Nat.le_refl _,fun _ _ _=> rfl⟩,Nat.le_refl _⟩
abbrev Sg:=Nat→D
def l5 (σ:Sg) (t:Nat) (d:D):Sg:=fun s=> if s=t then d else σ s
def St (E:pR) (σ:Sg) (H:ab) (a:Act) (w:World):Prop:=
 a.defers=E.ds∧a.tmps.size=E.N∧ ∃tp,StW E tp H w∧ ∀t,R tp (cm E.O tp H w) w (a.tmps.getD t undef) (σ t)
def f9 (σ:Sg) (t:Option Nat) (d:D):Sg:=match t with | some t=> l5 σ t d | none=> σ
theorem QI {N:Nat} {a:Act} {σ:Sg} {Q:Value→D→Prop} (hN:a.tmps.size=N) (hr: ∀t,Q (a.tmps.getD t undef) (σ t)) (dst:Option Nat) (hd: ∀t,dst=some t→t < N) {x:Value} {d:D} (hx:Q x d):
 ∀t,Q ((a.put dst x).tmps.getD t undef) (f9 σ dst d t):=by
 intro t
 cases dst with
 | none=> exact hr t
 | some s=>
   have hs:=hd s rfl
   simp only[Act.put,f9,l5]
   by_cases e:t=s
   ·subst e
    simp[Array.getD_eq_getD_getElem?,hN,hs]
    exact hx
   ·have e': ¬s=t:=fun h=> e h.symm
    simp only[Array.getD_eq_getD_getElem?,Array.getElem?_setIfInBounds,e',e,if_false]
    have:=hr t
    rw[Array.getD_eq_getD_getElem?] at this
    exact this
theorem Pq (a:Act) (dst:Option Nat) (x:Value): (a.put dst x).defers=a.defers:=by cases dst <;> rfl
theorem UP (a:Act) (dst:Option Nat) (x:Value): (a.put dst x).tmps.size=a.tmps.size:=by cases dst <;> simp[Act.put]
theorem St.put {E:pR} {σ:Sg} {H H':ab} {a:Act} {w':World} {tp':Nat→Prop} {tp:Nat→Prop} {w:World} (hd:a.defers=E.ds) (hN:a.tmps.size=E.N)
 (hr: ∀t,R tp (cm E.O tp H w) w (a.tmps.getD t undef) (σ t))
 (hm:StW E tp' H' w'∧ ∀x d,R tp (cm E.O tp H w) w x d→R tp' (cm E.O tp' H' w') w' x d) (dst:Option Nat) (hdst: ∀t,dst=some t→t < E.N) {x:Value} {d:D}
 (hx:R tp' (cm E.O tp' H' w') w' x d):St E (f9 σ dst d) H' (a.put dst x) w':=
 ⟨by rw[Pq];exact hd,by rw[UP];exact hN,tp',hm.1,QI hN (fun t=> hm.2 _ _ (hr t)) dst hdst hx⟩
end Go.Gv

namespace Go.Gv
inductive Oy where
 | int | str | bool
inductive COp where
 | mv (x:Operand)
 | pick (c x y:Operand)
 | alloc (el:Nat) (z:List Value)
 | box (el:Nat) (im:Bool) (x:Operand)
 | tbx (el:Nat) (x:Operand)
 | build (z:List Value) (parts:List (Nat×Nat×Operand))
 | bslice (el n:Nat) (parts:List Operand)
 | nslice (el n:Nat)
 | mslice (el n:Nat) (parts:List Operand)
 | load (agg:Bool) (sz:Nat) (x:Operand)
 | store (rt:Option Nat) (sz:Nat) (x y:Operand)
 | nilck (x:Operand)
 | arith (op:BinOp) (x y:Operand)
 | cmp (op:BinOp) (x y:Operand)
 | eql (neg agg:Bool) (ks:List Oy) (x y:Operand)
 | scat (x y:Operand)
 | not (x:Operand)
 | neg (x:Operand)
 | conv (k:IntKind) (x:Operand)
 | clo (f:Nat) (caps:List Operand)
 | mkslice (el n bytes:Nat) (agg:Bool) (z:List Value) (l c:Operand)
 | slice (n:Nat) (x:Operand) (lo hi:Option Operand)
 | sslice (x:Operand) (lo hi:Option Operand)
 | faddr (off:Nat) (x:Operand)
 | fld (agg:Bool) (sz off:Nat) (x:Operand)
 | iaddr (n:Nat) (x i:Operand)
 | sidx (x i:Operand)
 | ext (x:Operand) (i:Nat)
 | len (x:Operand)
 | slen (x:Operand)
 | mm (mx:Bool) (xs:List Operand)
 | append (rt:Option Nat) (el n bytes:Nat) (x y:Operand)
 | appmk (el n bytes:Nat) (agg:Bool) (z:List Value) (x c:Operand)
 | clear (n:Nat) (agg:Bool) (z:List Value) (x:Operand)
 | copy (n:Nat) (x y:Operand)
 | cap (x:Operand)
 | srange (x:Operand)
 | snext (x:Operand)
 | sbytes (x:Operand)
 | bstr (x:Operand)
 | mkif (t:Nat) (x:Operand)
 | bad
 | call (f:Nat) (args:List Operand)
 | callv (f:Operand) (args:List Operand)
 | callb (r f:Nat) (args:List Operand)
def tv:Value→D
 | .bool b=> .v (.bool b)
 | .int k n=> .v (.int k n)
 | .string s=> .v (.string s)
 | .pointer a=> .v (.pointer a)
 | .slice a l c=> .v (.slice a l c)
 | .nilFunc=> .v .nilFunc
 | _=> .any
def ev (σ:Sg):Operand→D
 | .tmp t=> σ t
 | .const x=> tv x
 | .global g=> .v (.pointer (some ⟨g,0,none⟩))
 | .func f=> .clo f []
def uS:Operand→Bool
 | .const (.string s)=> decide (s.size≤1000000)
 | _=> true
def eM (P:Program) (t:TypeId):Option Nat:=(P.info? t).map (·.size)
def rR (P:Program) (t:TypeId):Option Bool:=
 match P.underlying t with
 | some (.struct _) | some (.array _ _)=> some true
 | some _=> some false
 | none=> none
def gV (P:Program) (t:TypeId):Option (List Value):=do
 let i ←P.info? t
 let z ←i.zero
 if z.cells.toList.all (·.oneCell') && z.cells.size==i.size && z.cells.toList.all (fun x=> match x with | .string s=> decide (s.size≤1000000) | .bool _ | .int _ _ | .pointer _ | .slice _ _ _ | .nilFunc=> true | _=> false) then some z.cells.toList else none
def mN (P:Program) (t:TypeId):Option Oy:=
 match P.underlying t with
 | some (.int _)=> some .int
 | some .string=> some .str
 | some .bool=> some .bool
 | _=> none
def uq (P:Program) (t:TypeId):Option (List Oy):=
 match P.underlying t with
 | some (.struct fs)=>
   if !P.stoodInHeld t && !P.eqGuardType P.depth t && decide (fs.toList.map (·.offset) = List.range' 0 fs.toList.length) && fs.toList.all (fun f => decide (f.name ≠ "_")) then fs.toList.mapM (fun f => mN P f.type) else none
 | _=> none
def lS (P:Program) (neg:Bool) (t:TypeId) (x y:Operand):Option COp:=
 match mN P t with
 | some k=> some (.eql neg false [k] x y)
 | none=> (uq P t).map fun ks=> .eql neg true ks x y
def sy (parts:Array (Nat×Operand)) (n:Nat):Option (List Operand):=
 if parts.toList.map (·.1)=List.range n then some (parts.toList.map (·.2)) else none
def Ws (im:List Nat) (d:Option Nat):Bool:=d.any im.contains
def qcR (im:List Nat) (d:Option Nat):Bool:=d.any fun d=> im.contains (d+100000)
def X4 (im:List Nat) (d:Option Nat):Bool:=d.any fun d=> im.contains (d+200000)
def Z8 (im:List Nat) (d:Option Nat):Option Nat:=d.bind fun d=> (im.find? fun c=> c/1000=1000+d).map fun c=> c % 1000
def Z7 (im:List Nat) (x:Operand):Option Nat:=match x with
 | .tmp t=> (im.find? fun c=> c/1000=2000+t).map fun c=> c % 1000
 | _=> none
def Ri (im:List Nat) (d:Option Nat):Option Nat:=d.bind fun d=> (im.find? fun c=> c/1000=3000+d).map fun c=> c % 1000
def Qa (b:Option Nat) (f:Nat) (args:List Operand):COp:=match b with
 | none=> .call f args
 | some r=> .callb r f args
def Zq (im:List Nat):Bool:=im.contains 300000
def dw:Nat:=1000000007
def PI (P:Program) (t:TypeId):Bool:=match P.underlying t with | some (.int _)=> true | _=> false
def em (P:Program) (im:List Nat) (o:Oper):Option COp:=
 if !o.op.operands.toList.all uS then none else
 match o.op with
 | .move x | .assign x=> some (.mv x)
 | .pick c x y=> some (.pick c x y)
 | .alloc el=> do some (.alloc el (←gV P el))
 | .box el x=> if X4 im o.dst then some (.tbx el x) else some (.box el (Ws im o.dst) x)
 | .build t parts=> do
   let z ←gV P t
   match P.underlying t with
   | some (.struct fs)=>
     let ps ←parts.toList.mapM fun p=> do
      let f ←fs[p.1]?
      let sz ←eM P f.type
      if f.offset+sz≤z.length then some (f.offset,sz,p.2) else none
     if fs.toList.all (fun f=> (eM P f.type).isSome) then some (.build z ps) else none
   | some (.array _ el)=>
     let sz ←eM P el
     let ps ←parts.toList.mapM fun p=> if p.1*sz+sz≤z.length then some (p.1*sz,sz,p.2) else none
     some (.build z ps)
   | _=> none
 | .buildSlice t len parts=> do
   match P.underlying t with
   | some (.slice el)=>
     let n ←eM P el
     let _ ←gV P el
     let ps ←sy parts len
     if len*n≤2^24 && 0 < n then(if len=0 then some (.nslice el n) else if qcR im o.dst then some (.mslice el n ps) else some (.bslice el n ps)) else none
   | _=> none
 | .load t x=> do
   let agg ←rR P t
   let sz ←eM P t
   if agg || sz=1 then some (.load agg sz x) else none
 | .store t x y=> do some (.store (Z7 im x) (←eM P t) x y)
 | .nilCheck x=> some (.nilck x)
 | .binOp op t x y _=>
   match op with
   | .add=> if PI P t then some (.arith .add x y) else match P.underlying t with | some .string=> some (.scat x y) | _=> none
   | .sub | .mul | .quo | .rem=> if PI P t then some (.arith op x y) else none
   | .lss | .leq | .gtr | .geq=> if PI P t then some (.cmp op x y) else match P.underlying t with | some .string=> some (.cmp op x y) | _=> none
   | .eql=> lS P false t x y
   | .neq=> lS P true t x y
   | _=> none
 | .unOp .not _ x=> some (.not x)
 | .unOp .neg _ x=> some (.neg x)
 | .convert s t x=>
   match P.underlying s,P.underlying t with
   | some (.int _),some (.int k)=> some (.conv k x)
   | some .string,some (.slice el)=> match P.underlying el with
     | some (.int .u8)=> some (.sbytes x)
     | _=> none
   | some (.slice el),some .string=> match P.underlying el with
     | some (.int .u8)=> some (.bstr x)
     | _=> none
   | _,_=> none
 | .makeFunc (.func f) first caps=> if first.isEmpty then some (.clo f caps.toList) else none
 | .makeSlice t l c=> do
   match P.underlying t with
   | some (.slice el)=>
     let n ←eM P el
     let z ←gV P el
     let b:=P.bytesOf el
     let agg ←rR P el
     if 0 < n && (agg || n=1) then some (.mkslice el n b agg z l c) else none
   | _=> none
 | .slice t x lo hi none=>
   match P.underlying t with
   | some (.slice el)=> do some (.slice (←eM P el) x lo hi)
   | some .string=> some (.sslice x lo hi)
   | _=> none
 | .fieldAddr t x f=> do
   match P.underlying t with
   | some (.struct fs)=>
     let fd ←fs[f]?
     let sz ←eM P fd.type
     if 0 < sz then some (.faddr fd.offset x) else none
   | _=> none
 | .field t x f=> do
   match P.underlying t with
   | some (.struct fs)=>
     let fd ←fs[f]?
     let agg ←rR P fd.type
     let sz ←eM P fd.type
     if agg || sz=1 then some (.fld agg sz fd.offset x) else none
   | _=> none
 | .indexAddr t x i=> do
   match P.underlying t with
   | some (.slice el)=> some (.iaddr (←eM P el) x i)
   | some (.array len el)=> match i with
     | .const (.int .i64 k)=> do
       let sz ←eM P el
       if 0≤k∧k < len then some (.faddr (k.toNat*sz) x) else none
     | _=> none
   | _=> none
 | .index t x i=>
   match P.underlying t with
   | some .string=> some (.sidx x i)
   | _=> none
 | .extract x i=> some (.ext x i)
 | .range t x=> match P.underlying t with
   | some .string=> some (.srange x)
   | _=> none
 | .next x true=> some (.snext x)
 | .makeInterface t x=> if Zq im then(match P.underlying t with | some (.struct _)=> some (.mkif t x) | _=> none) else some .bad
 | .panic x=> if Zq im && decide (P.funcs.size≤dw) then some (.call dw [x]) else some .bad
 | .call c=>
   match c.callee with
   | .value (.func f)=> if f=dw then none else some (Qa (Ri im o.dst) f c.args.toList)
   | .value f=> some (.callv f c.args.toList)
   | .builtin .len=> match c.argTypes.toList,c.args.toList with
     | [t], [x]=> match P.underlying t with | some (.slice _)=> some (.len x) | some .string=> some (.slen x) | _=> none
     | _,_=> none
   | .builtin .min=> some (.mm false c.args.toList)
   | .builtin .max=> some (.mm true c.args.toList)
   | .builtin .append=> match c.argTypes.toList,c.args.toList with
     | [t,u], [x,y]=> if t=u then(match P.underlying t with
       | some (.slice el)=> do
         let n ←eM P el
         let _ ←gV P el
         if 0 < n then some (.append (Z8 im o.dst) el n (P.bytesOf el) x y) else none
       | _=> none) else(match P.underlying t,P.underlying u with
       | some (.slice el),some (.int _)=> do
         let n ←eM P el
         let z ←gV P el
         let agg ←rR P el
         if 0 < n && (agg || n=1) then some (.appmk el n (P.bytesOf el) agg z x y) else none
       | _,_=> none)
     | _,_=> none
   | .builtin .clear=> match c.argTypes.toList,c.args.toList with
     | [t], [x]=> match P.underlying t with
       | some (.slice el)=> do
         let n ←eM P el
         let z ←gV P el
         let agg ←rR P el
         if 0 < n && (agg || n=1) then some (.clear n agg z x) else none
       | _=> none
     | _,_=> none
   | .builtin .copy=> match c.argTypes.toList,c.args.toList with
     | [t,u], [x,y]=> if t=u then(match P.underlying t with
       | some (.slice el)=> do
         let n ←eM P el
         if 0 < n then some (.copy n x y) else none
       | _=> none) else none
     | _,_=> none
   | .builtin .cap=> match c.argTypes.toList,c.args.toList with
     | [t], [x]=> match P.underlying t with | some (.slice _)=> some (.cap x) | _=> none
     | _,_=> none
   | _=> none
 | _=> none
abbrev PT:=Nat→List D→ab→(D→ab→Prop)→Prop
structure PC where
 pre:List D→Prop
 post:List D→D→Prop
def uE (A:PT):Prop:= ∀ (d:Nat) (ds:List D) (H:ab) (K K':D→ab→Prop),(∀r H,K r H→K' r H)→A d ds H K→A d ds H K'
inductive Spc where
 | none
 | pure (c:PC)
 | gen (A:PT) (h:uE A)
def Spc.pt:Spc→PT
 | .none=> fun _ _ _ _=> False
 | .pure c=> fun _ ds H K=> c.pre ds∧ ∀r,c.post ds r→K r H
 | .gen A _=> A
def InR:IntKind→Int→Prop
 | .i64,n=> -9223372036854775808≤n∧n≤9223372036854775807
 | .i32,n=> -2147483648≤n∧n≤2147483647
 | .i16,n=> -32768≤n∧n≤32767
 | .i8,n=> -128≤n∧n≤127
 | .u64,n=> 0≤n∧n≤18446744073709551615
 | .u32,n=> 0≤n∧n≤4294967295
 | .u16,n=> 0≤n∧n≤65535
 | .u8,n=> 0≤n∧n≤255
theorem InR.wrap {k:IntKind} {n:Int} (h:InR k n):k.wrap n=n:=by
 cases k <;> simp only[InR] at h <;> simp[IntKind.wrap,IntKind.bits,IntKind.signed] <;> omega
def m7 (op:BinOp) (k:IntKind) (a b:Int) (K:D→Prop):Prop:=
 match op with
 | .add=> InR k (a+b)∧K (.v (.int k (a+b)))
 | .sub=> InR k (a -b)∧K (.v (.int k (a -b)))
 | .mul=> InR k (a*b)∧K (.v (.int k (a*b)))
 | .quo=> b≠0∧InR k (a.tdiv b)∧K (.v (.int k (a.tdiv b)))
 | .rem=> b≠0∧K (.v (.int k (a.tmod b)))
 | _=> False
def N8 (op:BinOp) (a b:Int):Option Bool:=
 match op with
 | .lss=> some (decide (a < b))
 | .leq=> some (decide (a≤b))
 | .gtr=> some (decide (b < a))
 | .geq=> some (decide (b≤a))
 | _=> none
def qbf (op:BinOp) (a b:ByteArray):Option Bool:=
 match op with
 | .lss=> some (Op.bytesLess a.toList b.toList)
 | .leq=> some (Op.bytesLess a.toList b.toList || a.toList==b.toList)
 | .gtr=> some (!(Op.bytesLess a.toList b.toList || a.toList==b.toList))
 | .geq=> some (!Op.bytesLess a.toList b.toList)
 | _=> none
def Yk:List D→Option (List Value)
 | []=> some []
 | .v x::l=> (Yk l).map (x:: ·)
 | _=> none
def uT:D→Option (IntKind×Int)
 | .v (.int k n)=> some (k,n)
 | _=> none
def qfG:D→Option ByteArray
 | .v (.string s)=> some s
 | _=> none
def qfH:D→Option Bool
 | .v (.bool b)=> some b
 | _=> none
def Ty (k:Oy) (d e:D):Option Bool:=
 match k with
 | .int=> (uT d).bind fun p=> (uT e).bind fun q=> if p.1=q.1 then some (decide (p.2=q.2)) else none
 | .str=> (qfG d).bind fun p=> (qfG e).bind fun q=> some (decide (p=q))
 | .bool=> (qfH d).bind fun p=> (qfH e).bind fun q=> some (decide (p=q))
def YT:List Oy→List D→List D→Option Bool
 | [],as,bs=> if as.isEmpty && bs.isEmpty then some true else none
 | k::ks,as,bs=> as.head?.bind fun a=> bs.head?.bind fun b=> (Ty k a b).bind fun p=> (YT ks as.tail bs.tail).bind fun q=> some (p && q)
def BE:D→Option (List D)
 | .agg cs=> some cs
 | _=> none
def qaS (agg:Bool) (ks:List Oy) (a b:D):Option Bool:=
 if agg then(BE a).bind fun as=> (BE b).bind fun bs=> YT ks as bs
 else match ks with
  | [k]=> Ty k a b
  | _=> none
def yz (lo hi:Option (Option (IntKind×Int))) (len:Nat) (K:Nat→Nat→Prop):Prop:=
 match lo,hi with
 | none,none=> K 0 len
 | some (some (_,l)),none=> 0≤l∧l≤len∧K l.toNat len
 | none,some (some (_,h))=> 0≤h∧h≤len∧K 0 h.toNat
 | some (some (_,l)),some (some (_,h))=> 0≤l∧l≤h∧h≤len∧K l.toNat h.toNat
 | _,_=> False
def Xy (agg:Bool) (z:List Value):D:=if agg then .agg (z.map tv) else tv (z.headD (.bool false))
def setAt (l:List D) (off:Nat) (new:List D):List D:=l.take off++new++l.drop (off+new.length)
def IV (agg:Bool) (sz:Nat) (cs:List D) (off:Nat):D:=if agg then .agg ((cs.drop off).take sz) else(cs[off]?).getD .any
def jR (σ:Sg):List (Nat×Nat×Operand)→List D→(List D→Prop)→Prop
 | [],cs,K=> K cs
 | (off,sz,x)::r,cs,K=> (ev σ x).kn=true∧(ev σ x).cells.length=sz∧jR σ r (setAt cs off (ev σ x).cells) K
def kW (n:Nat):List D→Prop
 | []=> True
 | d::r=> d.kn=true∧d.cells.length=n∧kW n r
def L5:D→Option UInt8
 | .v (.int .u8 n)=> some (UInt8.ofNat n.toNat)
 | _=> none
def Y7 (es:List D):Bool:=es.all fun d=> (L5 d).isSome
def Y6 (es:List D):ByteArray:=⟨(es.map fun d=> (L5 d).getD 0).toArray⟩
def aM (c:COp) (σ:Sg) (H:ab) (K:D→Prop):Prop:=
 match c with
 | .mv x=> K (ev σ x)
 | .pick c x y=> match ev σ c with
   | .v (.bool t)=> (t=true→K (ev σ x))∧(t=false→K (ev σ y))
   | _=> False
 | .box _ true x=> (ev σ x).kn=true∧K (.cptr (ev σ x).cells 0)
 | .build z parts=> jR σ parts (z.map tv) fun cs=> K (.agg cs)
 | .bslice _ n ps=> kW n (ps.map (ev σ))∧K (.list n (ps.map (ev σ)))
 | .load agg sz x=> match ev σ x with
   | .cptr cs off=> off+sz≤cs.length∧K (IV agg sz cs off)
   | .bptr id b off=> match H id with
     | some (.box b' cells)=> b'=b∧off+sz≤cells.length∧K (IV agg sz cells off)
     | _=> False
   | .eptr id x n i off=> match H id with
     | some (.row x' _ n' es)=> x'=x∧n'=n∧off+sz≤n∧i < es.length∧ ∀d,es[i]?=some d→K (IV agg sz d.cells off)
     | _=> False
   | _=> False
 | .nilck x=> match ev σ x with
   | .cptr cs off=> K (.cptr cs off)
   | .bptr id b off=> K (.bptr id b off)
   | .eptr id x n i off=> K (.eptr id x n i off)
   | .tape L=> K (.tape L)
   | .clo f caps=> K (.clo f caps)
   | _=> False
 | .arith op x y=> match ev σ x,ev σ y with
   | .v (.int k a), .v (.int k' b)=> k=k'∧m7 op k a b K
   | _,_=> False
 | .cmp op x y=> match ev σ x,ev σ y with
   | .v (.int k a), .v (.int k' b)=> k=k'∧(match N8 op a b with | some t=> K (.v (.bool t)) | none=> False)
   | .v (.string a), .v (.string b)=> match qbf op a b with | some t=> K (.v (.bool t)) | none=> False
   | _,_=> False
 | .eql neg agg ks x y=> match qaS agg ks (ev σ x) (ev σ y) with
   | some p=> K (.v (.bool (if neg then !p else p)))
   | none=> False
 | .scat x y=> match ev σ x,ev σ y with
   | .v (.string a), .v (.string b)=> a.size+b.size≤1000000000∧K (.v (.string (a++b)))
   | _,_=> False
 | .not x=> match ev σ x with
   | .v (.bool b)=> K (.v (.bool (!b)))
   | _=> False
 | .neg x=> match ev σ x with
   | .v (.int k n)=> InR k (0 -n)∧K (.v (.int k (0 -n)))
   | _=> False
 | .conv k x=> match ev σ x with
   | .v (.int _ n)=> K (.v (.int k (k.wrap n)))
   | _=> False
 | .clo f caps=> K (.clo f (caps.map (ev σ)))
 | .slice n x lo hi=> match ev σ x with
   | .list n' es=> n'=n∧(match lo.map (fun o=> uT (ev σ o)),hi.map (fun o=> uT (ev σ o)) with
     | none,none=> K (.list n es)
     | some (some (_,l)),none=> 0≤l∧l≤es.length∧K (.list n (es.drop l.toNat))
     | none,some (some (_,h))=> 0≤h∧h≤es.length∧K (.list n (es.take h.toNat))
     | some (some (_,l)),some (some (_,h))=> 0≤l∧l≤h∧h≤es.length∧K (.list n ((es.take h.toNat).drop l.toNat))
     | _,_=> False)
   | .own id x=> match H id with
     | some (.row x' _ n' es)=> x'=x∧n'=n∧yz (lo.map fun o=> uT (ev σ o)) (hi.map fun o=> uT (ev σ o)) es.length fun l h=> K (.sub id x n l h)
     | _=> False
   | .sub id x n' a b=> n'=n∧yz (lo.map fun o=> uT (ev σ o)) (hi.map fun o=> uT (ev σ o)) (b -a) fun l h=> K (.sub id x n (a+l) (a+h))
   | .v (.slice none 0 0)=> yz (lo.map fun o=> uT (ev σ o)) (hi.map fun o=> uT (ev σ o)) 0 fun _ _=> K (.v (.slice none 0 0))
   | _=> False
 | .sslice x lo hi=> match ev σ x with
   | .v (.string s)=> (match lo.map (fun o=> uT (ev σ o)),hi.map (fun o=> uT (ev σ o)) with
     | none,none=> K (.v (.string (s.extract 0 s.size)))
     | some (some (_,l)),none=> 0≤l∧l≤s.size∧K (.v (.string (s.extract l.toNat s.size)))
     | none,some (some (_,h))=> 0≤h∧h≤s.size∧K (.v (.string (s.extract 0 h.toNat)))
     | some (some (_,l)),some (some (_,h))=> 0≤l∧l≤h∧h≤s.size∧K (.v (.string (s.extract l.toNat h.toNat)))
     | _,_=> False)
   | _=> False
 | .faddr off x=> match ev σ x with
   | .cptr cs o=> K (.cptr cs (o+off))
   | .bptr id b o=> K (.bptr id b (o+off))
   | .eptr id x n i o=> K (.eptr id x n i (o+off))
   | _=> False
 | .fld agg sz off x=> match ev σ x with
   | .agg cs=> off+sz≤cs.length∧K (IV agg sz cs off)
   | _=> False
 | .iaddr n x i=> match ev σ i with
   | .v (.int _ k)=> match ev σ x with
     | .list n' es=> n'=n∧0≤k∧k < es.length∧ ∀d,es[k.toNat]?=some d→K (.cptr d.cells 0)
     | .own id x=> match H id with
       | some (.row x' _ n' es)=> x'=x∧n'=n∧0≤k∧k < es.length∧K (.eptr id x n k.toNat 0)
       | _=> False
     | .sub id x n' lo hi=> n'=n∧0≤k∧k < (hi -lo:Nat)∧K (.eptr id x n (lo+k.toNat) 0)
     | _=> False
   | _=> False
 | .sidx x i=> match ev σ i with
   | .v (.int _ k)=> match ev σ x with
     | .v (.string s)=> 0≤k∧k < s.size∧ ∀c,s.data[k.toNat]?=some c→K (.v (.int .u8 c.toNat))
     | _=> False
   | _=> False
 | .ext x i=> match ev σ x with
   | .tup ds=> match ds[i]? with
     | some d=> K d
     | none=> False
   | _=> False
 | .len x=> match ev σ x with
   | .list _ es=> (es.length:Int)≤9223372036854775807→K (.v (.int .i64 es.length))
   | .own id x=> match H id with
     | some (.row x' _ _ es)=> x'=x∧((es.length:Int)≤9223372036854775807→K (.v (.int .i64 es.length)))
     | _=> False
   | .v (.slice _ n _)=> K (.v (.int .i64 n))
   | .sub _ _ _ lo hi=> ((hi -lo:Nat):Int)≤9223372036854775807→K (.v (.int .i64 (hi -lo:Nat)))
   | _=> False
 | .cap x=> match ev σ x with
   | .v (.slice none 0 0)=> K (.v (.int .i64 0))
   | _=> False
 | .sbytes x=> match ev σ x with
   | .v (.string s)=> K (.list 1 (s.data.toList.map fun c=> .v (.int .u8 c.toNat)))
   | _=> False
 | .bstr x=> match ev σ x with
   | .own id x=> match H id with
     | some (.row x' _ n es)=> x'=x∧n=1∧Y7 es=true∧K (.v (.string (Y6 es)))
     | _=> False
   | .v (.slice none 0 0)=> K (.v (.string ⟨#[]⟩))
   | _=> False
 | .mkif t x=> match ev σ x with
   | .agg cs=> match Yk cs with
     | some xs=> K (.v (.iface t (.agg xs.toArray)))
     | none=> False
   | _=> False
 | .slen x=> match ev σ x with
   | .v (.string s)=> (s.size:Int)≤9223372036854775807→K (.v (.int .i64 s.size))
   | _=> False
 | .mm mx [x,y]=> match ev σ x,ev σ y with
   | .v (.int k a), .v (.int k' b)=> k=k'∧K (.v (.int k (if mx then max a b else min a b)))
   | _,_=> False
 | .mm mx [x,y,z]=> match ev σ x,ev σ y,ev σ z with
   | .v (.int k a), .v (.int k' b), .v (.int k'' c)=> k=k'∧k=k''∧K (.v (.int k (if mx then max (max a b) c else min (min a b) c)))
   | _,_,_=> False
 | _=> False
def l8 (n:Nat) (d:D) (H:ab) (K:List D→Prop):Prop:=
 match d with
 | .list n' es=> n'=n∧K es
 | .own id x=> match H id with
   | some (.row x' _ n' es)=> x'=x∧n'=n∧K es
   | _=> False
 | .v (.slice none 0 0)=> K []
 | .sub id x n' lo hi=> match H id with
   | some (.row x' _ n'' es)=> x'=x∧n'=n∧n''=n∧K ((es.take hi).drop lo)
   | _=> False
 | _=> False
def cZ (c:COp) (dst:Option Nat) (σ:Sg) (H:ab) (K:D→ab→Prop):Prop:=
 match c with
 | .alloc _ z=> match dst with
   | some t=> ∀b,K (.bptr t b 0) (au H t (some (.box b (z.map tv))))
   | none=> False
 | .box _ false x=> match dst with
   | some t=> (ev σ x).kn=true∧ ∀b,K (.bptr t b 0) (au H t (some (.box b (ev σ x).cells)))
   | none=> False
 | .tbx el x=> match dst with
   | some t=> (ev σ x).kn=true∧ ∀b,K (.bptr t b 0) (au H t (some (.tbox el b (ev σ x).cells)))
   | none=> False
 | .nslice el n=> match dst with
   | some t=> ∀x,K (.own t x) (au H t (some (.row x el n [])))
   | none=> False
 | .mslice el n ps=> match dst with
   | some t=> kW n (ps.map (ev σ))∧ ∀x,K (.own t x) (au H t (some (.row x el n (ps.map (ev σ)))))
   | none=> False
 | .mkslice el n bytes agg z l c=> match dst with
   | some t=> match uT (ev σ l),uT (ev σ c) with
     | some (_,l),some (_,c)=> 0≤l∧l≤c∧bytes*c≤140737488355328∧c≤140737488355328∧ ∀x,K (.own t x) (au H t (some (.row x el n (List.replicate l.toNat (if agg then .agg (z.map tv) else tv (z.headD (.bool false)))))))
     | _,_=> False
   | none=> False
 | .store _ sz x y=> (ev σ y).kn=true∧(ev σ y).cells.length=sz∧match ev σ x with
   | .bptr id b off=> match H id with
     | some (.box b' cells)=> b'=b∧off+sz≤cells.length∧K .undef (au H id (some (.box b' (setAt cells off (ev σ y).cells))))
     | _=> False
   | .eptr id x n i off=> match H id with
     | some (.row x' el n' es)=> x'=x∧n'=n∧0 < n∧off+sz≤n∧i < es.length∧ ∀d,es[i]?=some d→
        K .undef (au H id (some (.row x' el n' (es.set i (if off=0∧sz=n then ev σ y else .agg (setAt d.cells off (ev σ y).cells))))))
     | _=> False
   | _=> False
 | .srange x=> match dst,ev σ x with
   | some t, .v (.string s)=> ∀b,K (.bptr t b 0) (au H t (some (.iter b s 0)))
   | _,_=> False
 | .snext x=> match ev σ x with
   | .bptr id b off=> off=0∧match H id with
     | some (.iter b' s pos)=> b'=b∧(pos < s.size→K (.tup [.v (.bool true), .v (.int .i64 pos), .v (.int .i32 (Utf8.decode s pos).1)]) (au H id (some (.iter b' s (pos+ (Utf8.decode s pos).2)))))∧(¬pos < s.size→K (.tup [.v (.bool false)]) H)
     | _=> False
   | _=> False
 | .append _ el n bytes x y=> l8 n (ev σ y) H fun es2=> match ev σ x with
   | .own id x=> match H id with
     | some (.row x' el' n' es)=> x'=x∧el'=el∧n'=n∧(es.length+es2.length) *bytes≤140737488355328∧es.length+es2.length≤140737488355328∧ ∀v,K (.own id v) (au H id (some (.row v el n (es++es2))))
     | _=> False
   | .v (.slice none 0 0)=> match dst with
     | some t=> es2.length*bytes≤140737488355328∧es2.length≤140737488355328∧ ∀v,K (.own t v) (au H t (some (.row v el n es2)))
     | none=> False
   | .sub id x n' lo hi=> match H id with
     | some (.row x' el' n'' es)=> x'=x∧el'=el∧n'=n∧n''=n∧lo=0∧(hi+es2.length) *bytes≤140737488355328∧hi+es2.length≤140737488355328∧ ∀v,K (.own id v) (au H id (some (.row v el n (es.take hi++es2))))
     | _=> False
   | _=> False
 | .appmk el n bytes agg z x c=> match ev σ x with
   | .v (.slice none 0 0)=> match dst,uT (ev σ c) with
     | some t,some (_,c)=> 0≤c∧c*bytes≤140737488355328∧c≤140737488355328∧ ∀v,K (.own t v) (au H t (some (.row v el n (List.replicate c.toNat (Xy agg z)))))
     | _,_=> False
   | _=> False
 | .clear n agg z x=> match ev σ x with
   | .own id x=> match H id with
     | some (.row x' el n' es)=> x'=x∧n'=n∧K (.tup []) (au H id (some (.row x' el n' (List.replicate es.length (Xy agg z)))))
     | _=> False
   | .sub id x n' lo hi=> match H id with
     | some (.row x' el n'' es)=> x'=x∧n'=n∧n''=n∧K (.tup []) (au H id (some (.row x' el n'' (es.take lo++List.replicate (hi -lo) (Xy agg z) ++es.drop hi))))
     | _=> False
   | .v (.slice none 0 0)=> K (.tup []) H
   | _=> False
 | .copy n x y=> l8 n (ev σ y) H fun src=> match ev σ x with
   | .own id x=> match H id with
     | some (.row x' el n' es)=> x'=x∧n'=n∧K (.v (.int .i64 (min src.length es.length:Nat))) (au H id (some (.row x' el n' (src.take es.length++es.drop src.length))))
     | _=> False
   | .sub id x n' lo hi=> match H id with
     | some (.row x' el n'' es)=> x'=x∧n'=n∧n''=n∧K (.v (.int .i64 (min src.length (hi -lo):Nat))) (au H id (some (.row x' el n'' (es.take lo++src.take (hi -lo) ++es.drop (lo+min src.length (hi -lo))))))
     | _=> False
   | _=> False
 | c=> aM c σ H fun d=> K d H
end Go.Gv
namespace Go.Gv
def COp.isCall:COp→Bool
 | .call _ _ | .callv _ _ | .callb _ _ _=> true
 | _=> false
def COp.isRead:COp→Bool
 | .call _ _ | .callv _ _ | .callb _ _ _ | .alloc _ _ | .box _ false _ | .tbx _ _ | .nslice _ _ | .mslice .. | .mkslice .. | .store .. | .append .. | .appmk .. | .clear .. | .copy .. | .srange .. | .snext .. => false
 | _=> true
@[simp] theorem Od (b:Option Nat) (f:Nat) (args:List Operand): (Qa b f args).isCall=true:=by cases b <;> rfl
@[simp] theorem Oc (b:Option Nat) (f:Nat) (args:List Operand): (Qa b f args).isRead=false:=by cases b <;> rfl
end Go.Gv

namespace Go.Gv
def Good (P:Program) (o:Oper) (a:Act) (tp I:Nat→Prop) (w:World) (K:D→Prop):Prop:=
 ∃x d,(execOp a.eval o).run P w= .ok (.value x) w∧R tp I w x d∧K d
section
variable {P:Program} {o:Oper} {a:Act} {tp I:Nat→Prop} {w:World} {σ:Sg} {K:D→Prop}
theorem R.inv_v {x y:Value} (h:R tp I w x (.v y)):x=y:=by cases h;rfl
theorem R.inv_agg {x:Value} {cs:List D} (h:R tp I w x (.agg cs)): ∃xs:List Value,x= .agg xs.toArray∧xs.length=cs.length∧ct (R tp I w) xs cs:=by
 cases h with
 | agg xs cs hl h1 h=> exact⟨xs,rfl,hl,fun k y c hy hc=> ⟨h1 y (List.mem_of_getElem? hy),h k y c hy hc⟩⟩
theorem R.int (k:IntKind) (n:Int):R tp I w (.int k n) (.v (.int k n)):= .v _ rfl (fun s h=> by cases h)
theorem R.bool (b:Bool):R tp I w (.bool b) (.v (.bool b)):= .v _ rfl (fun s h=> by cases h)
theorem R.str (s:ByteArray) (h:s.size≤maxLen):R tp I w (.string s) (.v (.string s)):= .v _ rfl (fun s' h'=> by cases h';exact h)
theorem R.inv_str {x:Value} {s:ByteArray} (h:R tp I w x (.v (.string s))):x= .string s∧s.size≤maxLen:=by
 cases h with
 | v x h hs=> exact⟨rfl,hs s rfl⟩
theorem ZB (x:Value) (h: ∀s,x= .string s→s.size≤maxLen):R tp I w x (tv x):=by
 cases x <;> first | exact .any _ | exact .v _ rfl h
theorem SU (hr: ∀t,R tp I w (a.tmps.getD t undef) (σ t)) (x:Operand) (hx:uS x=true):R tp I w (a.eval x) (ev σ x):=by
 cases x with
 | tmp t=> exact hr t
 | const x=>
   refine ZB x (fun s hs=> ?_)
   subst hs
   have:s.size≤1000000:=by simpa [uS] using hx
   simp only[maxLen];omega
 | global g=> exact .v _ rfl (fun s h=> by cases h)
 | func f=> exact .clo f [] [] rfl (fun k x c h=> by simp at h)
theorem Q0 {x:Operand} (ho:o.op= .move x∨o.op= .assign x) (hx:R tp I w (a.eval x) (ev σ x)) (hv:K (ev σ x)):Good P o a tp I w K:=by
 refine⟨a.eval x,ev σ x,?_,hx,hv⟩
 rcases ho with ho | ho <;> simp[execOp,ho]
theorem SH {c x y:Operand} (ho:o.op= .pick c x y) (hc:R tp I w (a.eval c) (ev σ c)) (hx:R tp I w (a.eval x) (ev σ x)) (hy:R tp I w (a.eval y) (ev σ y)) {H:ab}
 (hv:aM (.pick c x y) σ H K):Good P o a tp I w K:=by
 simp only[aM] at hv
 split at hv
 ·rename_i t ht
  rw[ht] at hc
  have:=hc.inv_v
  cases t
  ·exact⟨a.eval y,ev σ y,by simp[execOp,ho,this,asBool],hy,hv.2 rfl⟩
  ·exact⟨a.eval x,ev σ x,by simp[execOp,ho,this,asBool],hx,hv.1 rfl⟩
 ·exact hv.elim
theorem PQ {x:Operand} (ho:o.op= .nilCheck x) (hx:R tp I w (a.eval x) (ev σ x)) {H:ab} (hv:aM (.nilck x) σ H K):Good P o a tp I w K:=by
 simp only[aM] at hv
 generalize hq:a.eval x=q at hx
 split at hv <;> first | exact hv.elim | skip
 all_goals
  rename_i e
  rw[e] at hx
  refine⟨q,_,?_,hx,hv⟩
  cases hx <;> simp[execOp,ho,hq]
theorem qB {op:BinOp} {t u:TypeId} {x y:Operand} (ho:o.op= .binOp op t x y u) (hop:op= .add∨op= .sub∨op= .mul∨op= .quo∨op= .rem)
 (hx:R tp I w (a.eval x) (ev σ x)) (hy:R tp I w (a.eval y) (ev σ y)) {H:ab} (hv:aM (.arith op x y) σ H K):Good P o a tp I w K:=by
 simp only[aM] at hv
 split at hv
 ·rename_i k p k' q e1 e2
  rw[e1] at hx;rw[e2] at hy
  have h1:=hx.inv_v;have h2:=hy.inv_v
  obtain⟨rfl,hv⟩:=hv
  rcases hop with rfl | rfl | rfl | rfl | rfl <;> simp only[m7] at hv
  ·exact⟨_,_,by simp[execOp,ho,h1,h2,eqGuard,binOp,Op.intArith,hv.1.wrap], .int _ _,hv.2⟩
  ·exact⟨_,_,by simp[execOp,ho,h1,h2,eqGuard,binOp,Op.intArith,hv.1.wrap], .int _ _,hv.2⟩
  ·exact⟨_,_,by simp[execOp,ho,h1,h2,eqGuard,binOp,Op.intArith,hv.1.wrap], .int _ _,hv.2⟩
  ·exact⟨_,_,by simp[execOp,ho,h1,h2,eqGuard,binOp,Op.intDiv,hv.1,hv.2.1.wrap], .int _ _,hv.2.2⟩
  ·exact⟨_,_,by simp[execOp,ho,h1,h2,eqGuard,binOp,Op.intDiv,hv.1], .int _ _,hv.2⟩
 ·exact hv.elim
theorem NC {op:BinOp} {t u:TypeId} {x y:Operand} (ho:o.op= .binOp op t x y u)
 (hx:R tp I w (a.eval x) (ev σ x)) (hy:R tp I w (a.eval y) (ev σ y)) {H:ab} (hv:aM (.cmp op x y) σ H K):Good P o a tp I w K:=by
 simp only[aM] at hv
 split at hv
 ·rename_i k p k' q e1 e2
  rw[e1] at hx;rw[e2] at hy
  have h1:=hx.inv_v;have h2:=hy.inv_v
  obtain⟨rfl,hv⟩:=hv
  cases op <;> simp only[N8] at hv <;> first
   | exact hv.elim
   | exact⟨_,_,by simp[execOp,ho,h1,h2,eqGuard,binOp,Op.intCmp], .bool _,hv⟩
 ·rename_i p q e1 e2
  rw[e1] at hx;rw[e2] at hy
  have h1:=hx.inv_v;have h2:=hy.inv_v
  cases op <;> simp only[qbf] at hv <;> first
   | exact hv.elim
   | exact⟨_,_,by simp[execOp,ho,h1,h2,eqGuard,binOp,Op.stringOp], .bool _,hv⟩
 ·exact hv.elim
theorem SG {t u:TypeId} {x y:Operand} (ho:o.op= .binOp .add t x y u)
 (hx:R tp I w (a.eval x) (ev σ x)) (hy:R tp I w (a.eval y) (ev σ y)) {H:ab} (hv:aM (.scat x y) σ H K):Good P o a tp I w K:=by
 simp only[aM] at hv
 split at hv
 ·rename_i p q e1 e2
  rw[e1] at hx;rw[e2] at hy
  have h1:=hx.inv_v;have h2:=hy.inv_v
  obtain⟨hb,hv⟩:=hv
  have hn: ¬ ((p.size:Int) +q.size > 9223372036854775807):=by omega
  refine⟨.string (p++q),_,?_, .str _ (by simp[maxLen];omega),hv⟩
  have: ¬ (9223372036854775807 < (p.size:Int) +q.size):=by omega
  simp[execOp,ho,h1,h2,eqGuard,binOp,Op.stringOp,this]
 ·exact hv.elim
theorem VK {t:TypeId} {x:Operand} (ho:o.op= .unOp .not t x) (hx:R tp I w (a.eval x) (ev σ x)) {H:ab} (hv:aM (.not x) σ H K):Good P o a tp I w K:=by
 simp only[aM] at hv
 split at hv
 ·rename_i b e1
  rw[e1] at hx
  have h1:=hx.inv_v
  exact⟨_,_,by simp[execOp,ho,h1,Op.unary], .bool _,hv⟩
 ·exact hv.elim
theorem VL {t:TypeId} {x:Operand} (ho:o.op= .unOp .neg t x) (hx:R tp I w (a.eval x) (ev σ x)) {H:ab} (hv:aM (.neg x) σ H K):Good P o a tp I w K:=by
 simp only[aM] at hv
 split at hv
 ·rename_i k n e1
  rw[e1] at hx
  have h1:=hx.inv_v
  have h2:=hv.1.wrap
  exact⟨.int k (0 -n),_,by simp only[execOp,ho,h1,Op.unary,Op.intArith,h2];rfl, .int _ _,hv.2⟩
 ·exact hv.elim
theorem SJ {s t:TypeId} {k k0:IntKind} {x:Operand} (ho:o.op= .convert s t x) (hs:P.underlying s=some (.int k0)) (ht:P.underlying t=some (.int k))
 (hx:R tp I w (a.eval x) (ev σ x)) {H:ab} (hv:aM (.conv k x) σ H K):Good P o a tp I w K:=by
 simp only[aM] at hv
 split at hv
 ·rename_i k1 n e1
  rw[e1] at hx
  have h1:=hx.inv_v
  exact⟨.int k (k.wrap n),_,by simp[execOp,ho,h1,convert,run_underlying hs,run_underlying ht,Conv.intToInt], .int _ _,hv⟩
 ·exact hv.elim
theorem Zo: ∀ {cs:List D} {xs ys:List Value},Yk cs=some xs→ys.length=cs.length→(∀ (k:Nat) (x:Value) (c:D),ys[k]?=some x→cs[k]?=some c→R tp I w x c)→ys=xs
 | [],xs,ys,h,hl,hr=> by
   cases h
   exact List.length_eq_zero_iff.1 hl
 | c::cs,xs, [],h,hl,hr=> by simp at hl
 | c::cs,xs,y::ys,h,hl,hr=> by
   cases c <;> simp only[Yk] at h <;> try (cases h;done)
   rename_i v
   obtain⟨xs',h1,rfl⟩:=Option.map_eq_some_iff.1 h
   have h0:=(hr 0 y (.v v) rfl rfl).inv_v
   rw[h0,Zo h1 (by simpa using hl) fun k x c hx hc=> hr (k+1) x c hx hc]
theorem SI {t:TypeId} {x:Operand} {fs:Array Field} (ho:o.op= .makeInterface t x) (ht:P.underlying t=some (.struct fs)) (hx:R tp I w (a.eval x) (ev σ x)) {H:ab} (hv:aM (.mkif t x) σ H K):Good P o a tp I w K:=by
 simp only[aM] at hv
 split at hv
 ·rename_i cs e1
  rw[e1] at hx
  split at hv
  ·rename_i xs hxs
   generalize hq:a.eval x=q at hx
   cases hx with
   | agg ys _ hl h1 h=>
     have:=Zo hxs hl h
     subst this
     refine⟨.iface t (.agg ys.toArray),_,?_, .v _ rfl (fun s hs=> by cases hs),hv⟩
     simp[execOp,ho,hq,Instr.makeInterface,run_underlying ht]
  ·exact hv.elim
 ·exact hv.elim
theorem VQ {f:Nat} {first caps:Array Operand} (ho:o.op= .makeFunc (.func f) first caps) (hf:first.isEmpty=true) (hx: ∀x∈caps.toList,R tp I w (a.eval x) (ev σ x)) {H:ab} (hv:aM (.clo f caps.toList) σ H K):Good P o a tp I w K:=by
 simp only[aM] at hv
 have hf':first= #[]:=by simpa using hf
 obtain⟨caps⟩:=caps
 simp only at hv hx
 refine⟨.func (.func f) #[] (caps.map a.eval).toArray,_,by simp[execOp,ho,Instr.makeFunc,hf'], .clo f _ _ (by simp) ?_,hv⟩
 intro k x c hk hc
 rw[List.getElem?_map] at hk hc
 cases hq:caps[k]? with
 | none=> simp[hq] at hk
 | some q=>
   rw[hq] at hk hc
   simp at hk hc
   subst hk;subst hc
   exact hx q (List.mem_of_getElem? hq)
theorem VO {x:Operand} {i:Nat} (ho:o.op= .extract x i) (hx:R tp I w (a.eval x) (ev σ x)) {H:ab} (hv:aM (.ext x i) σ H K):Good P o a tp I w K:=by
 simp only[aM] at hv
 split at hv
 ·rename_i ds e1
  split at hv
  ·rename_i d hd
   rw[e1] at hx
   generalize hq:a.eval x=q at hx
   cases hx with
   | tup xs ds hl h=>
     have hi:i < xs.length:=by rw[hl];exact(List.getElem?_eq_some_iff.1 hd).1
     refine⟨xs[i],d,by simp[execOp,ho,hq,Instr.extract,hi],h i _ d (by simp[hi]) hd,hv⟩
  ·exact hv.elim
 ·exact hv.elim
end
end Go.Gv
