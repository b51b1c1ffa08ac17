/- A part of the framework and of the walks: A Tb B. -/
import Derived.WalkKit
import Derived.Orders
import Derived.Below
set_option linter.unusedSimpArgs false
set_option linter.unusedVariables false
set_option linter.unusedSectionVars false
set_option linter.defProp false

namespace Go.Gv
def qtE:=@Option.bind_eq_some_iff
def qtF:=@Nat.le_of_ble_eq_true
def qtG:=@List.getElem?_eq_some_iff
def qtH:=@List.getElem?_eq_getElem
def qtI:=@Option.bind_eq_bind
def qtJ:=@List.mem_of_getElem?
def qtK:=@List.mem_append
def qtL:=@List.all_eq_true
def qtM:=@List.mem_cons
def qtN:=@Bool.and_eq_true
def qtO:=@Array.getElem?_eq_some_iff
def qtP:=@Nat.le_refl
def qtQ:=@List.getElem?_append_right
def qtR:=@Option.map_eq_some_iff
def qtS:=@Result.andThen_ok
def qtT:=@Option.some.injEq
def qtU:=@List.mem_map
def qtV:=@Option.some.inj
def qtW:=@List.eq_nil_of_length_eq_zero
def qtX:=@List.getElem?_map
def qtY:=@Option.bind_some
def qtZ:=@List.getElem?_take
def qt0:=@List.getElem?_append_left
def qt1:=@Nat.lt_of_lt_of_le
def qt2:=@Sem.run_bind
def qt3:=@List.mem_of_mem_take
def qt4:=@List.length_append
def qt5:=@List.cons.injEq
def qt6:=@Array.length_toList
def qt7:=@List.map_cons
def qt8:=@List.mem_iff_getElem?
def qt9:=@Array.getElem?_toList
def qua:=@List.getElem?_eq_none
def qub:=@Nat.zero_le
def quc:=@List.not_mem_nil
def qud:=@Array.getD_eq_getD_getElem?
def que:=@Sem.run_pure
def quf:=@Nat.mul_le_mul_right
def qug:=@List.length_take
def quh:=@List.drop_eq_getElem_cons
def qui:=@List.mapM_cons
def quj:=@List.take_length
def quk:=@List.getElem?_drop
def qul:=@Bool.false_eq_true
def qum:=@Bool.eq_iff_iff
def qun:=@Nat.succ_mul
def qup:=@Option.getD_some
def quq:=@List.flatMap_cons
def qur:=@List.length_eq_zero_iff
def qus:=@List.take_append_drop
def qut:=@List.append_assoc
def quu:=@Nat.zero_add
def quv:=@List.cons_append
def quw:=@Nat.le_trans
def qux:=@List.length_map
def quy:=@List.length_cons
def quz:=@Array.getElem?_append_left
def quA:=@List.mem_of_mem_drop
def quB:=@Option.isSome_iff_exists
def quC:=@List.ext_getElem?
def quD:=@List.nil_append
def quE:=@List.append_nil
def quF:=@List.length_drop
def quG:=@List.drop_eq_nil_of_le
def quH:=@List.drop_length
def quI:=@List.mem_or_eq_of_mem_set
def quJ:=@Iff.rfl
def quK:=@Array.getElem?_eq_getElem
def quL:=@List.getElem?_cons_succ
def quM:=@List.mem_flatMap
def quN:=@List.any_eq_true
def quO:=@List.getElem?_set_self
def quP:=@List.getElem?_range
def quQ:=@List.map_congr_left
def quR:=@List.foldl_cons
def quS:=@Nat.add_zero
def quT:=@Nat.mul_comm
def quU:=@List.map_nil
def quV:=@List.filter_cons
def quW:=@Option.map_none
def quX:=@Nat.div_add_mod
def quY:=@List.nodup_append
def quZ:=@Bool.eq_false_iff
def qu0:=@Nat.add_assoc
def qu1:=@Array.getElem?_setIfInBounds
def qu2:=@List.getElem_mem
def qu3:=@Nat.add_mul
def qu4:=@Nat.mod_lt
def qu5:=@List.length_eq_one_iff
def qu6:=@Array.getElem?_eq_none
def qu7:=@Code.wp_mono
def qu8:=@List.length_replicate
def qu9:=@List.map_append
def qva:=@List.mem_filter
def qvb:=@World.ownsRow_nil
def qvc:=@List.pairwise_append
def qvd:=@Nat.le_succ
def qve:=@List.mem_range
def qvf:=@Array.toList_inj
def qvg:=@List.eq_of_mem_replicate
def qvh:=@Nat.sub_self
def qvi:=@List.mem_singleton
def qvj:=@UInt8.toNat_ofNat'
def qvk:=@List.take_of_length_le
def qvl:=@Bool.not_eq_true'
def qvm:=@List.size_toArray
def qvn:=@List.take_zero
def qvo:=@Array.getElem?_modify
def qvp:=@List.nodup_nil
def qvq:=@World.cell?_of_block
def qvr:=@Array.toList_map
def qvs:=@List.mem_cons_of_mem
def qvt:=@List.all_cons
def qvu:=@Bool.true_and
def qvv:=@Int.le_refl
def qvw:=@ByteArray.toList_eq
def qvx:=@List.nodup_cons
def qvy:=@Option.map_some
def qvz:=@List.rel_of_pairwise_cons
def qvA:=@List.filter_append
def qvB:=@List.pairwise_cons
def qvC:=@Nat.eq_zero_or_pos
def qvD:=@List.getElem?_cons_zero
def qvE:=@Nat.add_sub_cancel_left
def qvF:=@List.take_add_one
def qvG:=@List.set_eq_take_append_cons_drop
def qvH:=@List.drop_nil
def qvI:=@List.range'_succ
def qvJ:=@List.ext_getElem
def qvK:=@List.range_eq_range'
def qvL:=@Value.int.injEq
def qvM:=@List.getElem?_set_ne
def qvN:=@Nat.div_lt_of_lt_mul
def qvO:=@List.replicate_zero
def qvP:=@List.take_left
def qvQ:=@List.take_nil
def qvR:=@List.pairwise_iff_getElem
def qvS:=@List.map_set
def qvT:=@Nat.le_mul_of_pos_right
def qvU:=@RowKit.Below.heap_alloc
def qvV:=@Classical.axiomOfChoice
def qvW:=@List.any_eq_not_all_not
def qvX:=@List.length_set
def qvY:=@List.length_nil
def qvZ:=@ByteArray.size_extract
def qv0:=@Array.getElem?_extract
def qv1:=@List.take_take
def qv2:=@Int.mul_nonneg
def qv3:=@Nat.mul_le_mul
def qv4:=@Prod.mk.injEq
def qv5:=@Nat.lt_irrefl
def qv6:=@World.grownBy_alloc
def qv7:=@List.drop_succ_cons
def qv8:=@Array.toList_append
def qv9:=@List.replicate_succ
def qwa:=@List.filter_sublist
def qwb:=@List.filter_eq_self
def qwc:=@List.take_succ_cons
def qwd:=@List.getElem_of_mem
def qwe:=@List.flatMap_append
def qwf:=@Nat.zero_mul
def qwg:=@Nat.add_comm
def qwh:=@List.mem_cons_self
def qwi:=@List.append_of_mem
def qwj:=@List.find?_eq_none
def qwk:=@Array.size_append
def qwl:=@Int.toNat_natCast
def qwm:=@List.flatten_cons
def qwn:=@ByteArray.ext_iff
def qwo:=@Value.tuple.injEq
def qwp:=@Array.toList_push
def qwq:=@Array.all_eq_true
def qwr:=@Nat.lt_trichotomy
def qws:=@List.pairwise_map
def qwt:=@List.foldl_append
def qwu:=@Nat.succ_le_of_lt
inductive D where
 | any
 | undef
 | v (x:Value)
 | agg (cs:List D)
 | list (n:Nat) (es:List D)
 | cptr (cs:List D) (off:Nat)
 | bptr (id b off:Nat)
 | own (id:Nat) (x:Value)
 | eptr (id:Nat) (x:Value) (n i off:Nat)
 | sub (id:Nat) (x:Value) (n lo hi:Nat)
 | tape (L:List Int)
 | clo (f:Nat) (caps:List D)
 | tup (ds:List D)
 | mp (es:List D)
 | mst (cur es:List D)
def D.cells:D->List D
 | .agg cs=>cs
 | d=>[d]
def D.kn:D->Bool
 | .any| .undef| .tup _| .mst _ _=>false
 | _=>true
def aU(es:List D):List D:=es.flatMap D.cells
def slen:Value->Nat
 | .slice _ n _=>n
 | _=>0
def PlainB(w:World)(b:Nat):Prop:=∃ (xs:Array Value) (el:Nat),w.heap[b]? =some (.cells xs el (0,0))
def JQ(m:Option Nat)(since:Nat)(seen:Array Nat)(last:Nat):Value:= .tuple #[.map m, .int .i64 since, .agg (seen.map fun(n:Nat)=> .int .i64 n), .int .i64 last]
def lF(es:Array MapEntry)(seen:Array Nat):List MapEntry:=es.toList.filter fun e=>!seen.contains e.born
def sJ(es:Array MapEntry)(clock:Nat):Prop:=(∀e∈es.toList,e.born < clock)/\(es.toList.map (·.born)).Nodup
inductive R (tp I:Nat->Prop) (w:World):Value->D->Prop
 | any (x:Value):R tp I w x .any
 | undef:R tp I w Go.undef .undef
 | v (x:Value) (h:x.oneCell'=true) (hs:∀s,x= .string s->s.size<=maxLen):R tp I w x (.v x)
 | agg (xs:List Value) (cs:List D) (hl:xs.length=cs.length) (h1:∀x∈xs,x.oneCell'=true)
    (h:∀ (k:Nat) (x:Value) (c:D),xs[k]? =some x->cs[k]? =some c->R tp I w x c):R tp I w (.agg xs.toArray) (.agg cs)
 | nolist (a:Option Addr) (cap n:Nat):R tp I w (.slice a 0 cap) (.list n [])
 | list (b off cap n:Nat) (es:List D) (f:Nat->Value) (hI:I b) (hc:es.length<=cap) (hm:cap<=maxLen)
    (hz:n≠1->PlainB w b) (hn:∀d∈es,d.kn=true/\d.cells.length=n)
    (hcell:∀ (k:Nat) (c:D),(aU es)[k]? =some c->w.cell? ⟨b,off+k,none⟩=some (f k))
    (h1:∀ (k:Nat) (c:D),(aU es)[k]? =some c->(f k).oneCell'=true)
    (h:∀ (k:Nat) (c:D),(aU es)[k]? =some c->R tp I w (f k) c):R tp I w (.slice (some ⟨b,off,none⟩) es.length cap) (.list n es)
 | cptr (b base:Nat) (cs:List D) (off:Nat) (f:Nat->Value) (hI:I b) (hz:cs.length≠1->PlainB w b)
    (hcell:∀ (k:Nat) (c:D),cs[k]? =some c->w.cell? ⟨b,base+k,none⟩=some (f k))
    (h1:∀ (k:Nat) (c:D),cs[k]? =some c->(f k).oneCell'=true)
    (h:∀ (k:Nat) (c:D),cs[k]? =some c->R tp I w (f k) c):R tp I w (.pointer (some ⟨b,base+off,none⟩)) (.cptr cs off)
 | bptr (id b off:Nat):R tp I w (.pointer (some ⟨b,off,none⟩)) (.bptr id b off)
 | own (id:Nat) (x:Value) (h:x.oneCell'=true):R tp I w x (.own id x)
 | eptr (id:Nat) (b len cap n i off:Nat):R tp I w (.pointer (some ⟨b,i*n+off,none⟩)) (.eptr id (.slice (some ⟨b,0,none⟩) len cap) n i off)
 | subnil (id n:Nat):R tp I w (.slice none 0 0) (.sub id (.slice none 0 0) n 0 0)
 | sub (id b len cap n lo hi:Nat) (p:Option Addr) (h1:lo<=hi) (h2:hi<=len) (h3:len<=cap) (hm:cap<=maxLen) (hp:lo < cap\/lo=0->p=some ⟨b,lo*n,none⟩):
    R tp I w (.slice p (hi -lo) (cap -lo)) (.sub id (.slice (some ⟨b,0,none⟩) len cap) n lo hi)
 | tape (b:Nat) (L:List Int) (s:Value) (i:Int) (el:Nat) (hb:tp b) (hh:w.heap[b]? =some (.cells #[s, .int .i64 i] el (0,0)))
    (h0:0<=i) (h1:i<=slen s) (hs:slen s=L.length) (h:R tp I w s (.list 1 (L.map fun n=> .v (.int .i64 n)))):R tp I w (.pointer (some ⟨b,0,none⟩)) (.tape L)
 | clo (f:Nat) (xs:List Value) (caps:List D) (hl:xs.length=caps.length)
    (h:∀ (k:Nat) (x:Value) (c:D),xs[k]? =some x->caps[k]? =some c->R tp I w x c):R tp I w (.func (.func f) #[] xs.toArray) (.clo f caps)
 | tup (xs:List Value) (ds:List D) (hl:xs.length=ds.length)
    (h:∀ (k:Nat) (x:Value) (c:D),xs[k]? =some x->ds[k]? =some c->R tp I w x c):R tp I w (.tuple xs.toArray) (.tup ds)
 | nomp:R tp I w (.map none) (.mp [])
 | mp (b:Nat) (es:Array MapEntry) (clock:Nat) (ds:List D) (hI:I b) (hh:w.heap[b]? =some (.map es clock)) (hl:es.size=ds.length) (hb:sJ es clock)
    (h:∀ (k:Nat) (e:MapEntry) (c:D),es[k]? =some e->ds[k]? =some c->R tp I w (.tuple #[e.key,e.val]) c):R tp I w (.map (some b)) (.mp ds)
 | nomst (since last:Nat) (seen:Array Nat):R tp I w (JQ none since seen last) (.mst [] [])
 | mst (b:Nat) (es:Array MapEntry) (clock since last:Nat) (seen:Array Nat) (ce:MapEntry) (cur ds:List D) (hI:I b) (hh:w.heap[b]? =some (.map es clock)) (hb:sJ es clock)
    (hs:∀e∈es.toList,e.born < since) (hsl:since<=last/\since<=clock) (hl:(lF es seen).length=ds.length)
    (hc:cur=[]\/(cur.length=1/\seen.back? =some ce.born/\ce∈es.toList/\last=clock)) (hcr:∀c,cur=[c]->R tp I w (.tuple #[ce.key,ce.val]) c)
    (h:∀ (k:Nat) (e:MapEntry) (c:D),(lF es seen)[k]? =some e->ds[k]? =some c->R tp I w (.tuple #[e.key,e.val]) c):R tp I w (JQ (some b) since seen last) (.mst cur ds)
def TapeStep(w w':World)(b:Nat):Prop:=
 ∀ (s:Value) (i:Int) (el:Nat),w.heap[b]? =some (.cells #[s, .int .i64 i] el (0,0))->0<=i->i<=slen s->
  ∃ (j:Int) (el':Nat),w'.heap[b]? =some (.cells #[s, .int .i64 j] el' (0,0))/\0<=j/\j<=slen s
theorem TapeStep.refl(w:World)(b:Nat):TapeStep w w b:=fun _ i el h h0 h1=>⟨i,el,h,h0,h1⟩
theorem TapeStep.same{w w':World}{b:Nat}(h:w'.heap[b]? =w.heap[b]?):TapeStep w w' b:=fun _ i el hh h0 h1=>⟨i,el,h ▸hh,h0,h1⟩
theorem TapeStep.trans{w w1 w2:World}{b:Nat}(h:TapeStep w w1 b)(k:TapeStep w1 w2 b):TapeStep w w2 b:=fun s i el hh h0 h1=>by
 obtain⟨j,el',a1,a2,a3⟩:=h s i el hh h0 h1
 exact k s j el' a1 a2 a3
theorem PlainB.same{w w':World}{b:Nat}(h:PlainB w b)(e:w'.heap[b]? =w.heap[b]?):PlainB w' b:=by
 obtain⟨xs,el,h⟩:=h
 exact⟨xs,el,e.trans h⟩
theorem R.mono{tp I tp' I':Nat->Prop}{w w':World}{x:Value}{d:D}(h:R tp I w x d)(ht:∀b,tp b->tp' b)
 (hI:∀b,I b->I' b/\w'.heap[b]? =w.heap[b]?) (hT:∀b,tp b->TapeStep w w' b):R tp' I' w' x d:=by
 induction h with
 | any x=>exact .any x
 | undef=>exact .undef
 | v x h hs=>exact .v x h hs
 | agg xs cs hl h1 _ ih=>exact .agg xs cs hl h1 ih
 | nolist a cap n=>exact .nolist a cap n
 | list b off cap n es f hIb hc hm hz hn hcell h1 _ ih=>
   exact .list b off cap n es f (hI b hIb).1 hc hm (fun h=>(hz h).same (hI b hIb).2) hn (fun k c hk=>by rw[qvq (w:=w) (hI b hIb).2];exact hcell k c hk) h1 ih
 | cptr b base cs off f hIb hz hcell h1 _ ih=>
   exact .cptr b base cs off f (hI b hIb).1 (fun h=>(hz h).same (hI b hIb).2) (fun k c hk=>by rw[qvq (w:=w) (hI b hIb).2];exact hcell k c hk) h1 ih
 | bptr id b off=>exact .bptr id b off
 | own id x h=>exact .own id x h
 | eptr id b len cap n i off=>exact .eptr id b len cap n i off
 | subnil id n=>exact .subnil id n
 | sub id b len cap n lo hi p h1 h2 h3 hm hp=>exact .sub id b len cap n lo hi p h1 h2 h3 hm hp
 | tape b L s i el hb hh h0 h1 hs _ ih=>
   obtain⟨j,el',a1,a2,a3⟩:=hT b hb s i el hh h0 h1
   exact .tape b L s j el' (ht b hb) a1 a2 a3 hs ih
 | clo f xs caps hl _ ih=>exact .clo f xs caps hl ih
 | tup xs ds hl _ ih=>exact .tup xs ds hl ih
 | nomp=>exact .nomp
 | mp b es clock ds hIb hh hl hb _ ih=>exact .mp b es clock ds (hI b hIb).1 ((hI b hIb).2.trans hh) hl hb ih
 | nomst since last seen=>exact .nomst since last seen
 | mst b es clock since last seen ce cur ds hIb hh hb hs hsl hl hc _ _ ihc ih=>exact .mst b es clock since last seen ce cur ds (hI b hIb).1 ((hI b hIb).2.trans hh) hb hs hsl hl hc ihc ih
theorem R.cells{tp I:Nat->Prop}{w:World}{x:Value}{d:D}(h:R tp I w x d)(hk:d.kn=true):
 x.cells.toList.length=d.cells.length/\∀ (k:Nat) (y:Value) (c:D),x.cells.toList[k]? =some y->d.cells[k]? =some c->y.oneCell'=true/\R tp I w y c:=by
 have one:∀ (y:Value) (e:D),y.oneCell'=true->e.cells=[e]->y.cells= #[y]->R tp I w y e->
  y.cells.toList.length=e.cells.length/\∀ (k:Nat) (z:Value) (c:D),y.cells.toList[k]? =some z->e.cells[k]? =some c->z.oneCell'=true/\R tp I w z c:=by
  intro y e h1 he hy hr
  rw[he,hy]
  refine⟨rfl,fun k z c hz hc=>?_⟩
  cases k with
  | zero=>simp at hz hc;subst hz;subst hc;exact⟨h1,hr⟩
  | succ k=>simp at hz
 have cellsOne:∀y:Value,y.oneCell'=true->y.cells= #[y]:=by
  intro y hy
  cases y <;> first|rfl|(simp[Value.oneCell']at hy)
 cases h with
 | any x=>simp[D.kn]at hk
 | undef=>simp[D.kn]at hk
 | tup xs ds hl h=>simp[D.kn]at hk
 | nomst=>simp[D.kn]at hk
 | mst=>simp[D.kn]at hk
 | nomp=>exact one _ _ rfl rfl rfl .nomp
 | mp b es clock ds hIb hh hl hb h=>exact one _ _ rfl rfl rfl (.mp b es clock ds hIb hh hl hb h)
 | agg xs cs hl h1 h=>
   refine⟨hl,fun k y c hy hc=>⟨h1 y (qtJ hy),h k y c hy hc⟩⟩
 | v x h hs=>exact one _ _ h rfl (cellsOne _ h) (.v x h hs)
 | own id x h=>exact one _ _ h rfl (cellsOne _ h) (.own id x h)
 | nolist a cap n=>exact one _ _ rfl rfl rfl (.nolist a cap n)
 | list b off cap n es f hIb hc hm hz hn hcell h1 h=>exact one _ _ rfl rfl rfl (.list b off cap n es f hIb hc hm hz hn hcell h1 h)
 | cptr b base cs off f hIb hz hcell h1 h=>exact one _ _ rfl rfl rfl (.cptr b base cs off f hIb hz hcell h1 h)
 | bptr id b off=>exact one _ _ rfl rfl rfl (.bptr id b off)
 | eptr id b len cap n i off=>exact one _ _ rfl rfl rfl (.eptr id b len cap n i off)
 | subnil id n=>exact one _ _ rfl rfl rfl (.subnil id n)
 | sub id b len cap n lo hi p h1 h2 h3 hm hp=>exact one _ _ rfl rfl rfl (.sub id b len cap n lo hi p h1 h2 h3 hm hp)
 | tape b L s i el hb hh h0 h1 hs h=>exact one _ _ rfl rfl rfl (.tape b L s i el hb hh h0 h1 hs h)
 | clo f xs caps hl h=>exact one _ _ rfl rfl rfl (.clo f xs caps hl h)
theorem cS{n:Nat} :∀ {es:List D},(∀d∈es,d.cells.length=n)->∀ {i j:Nat},j < n->(aU es)[i*n+j]? =(es[i]?).bind fun d=>d.cells[j]?
 | [],_,i,j,_=>by simp[aU]
 | d::es,h,0,j,hj=>by
   have hd:=h d (by simp)
   simp only[aU,quq,qwf,quu]
   rw[qt0 (by omega)]
   simp
 | d::es,h,i+1,j,hj=>by
   have hd:=h d (by simp)
   have ih:=cS (es:=es) (fun d hd=>h d (by simp[hd])) (i:=i) hj
   simp only[aU,quq]at ih ⊢
   rw[qtQ (by rw[hd,qun];omega),hd]
   have:(i+1) *n+j -n=i*n+j:=by rw[qun];omega
   rw[this,ih]
   simp
theorem aO{n:Nat} :∀ {es:List D},(∀d∈es,d.cells.length=n)->(aU es).length=es.length*n
 | [],_=>by simp[aU]
 | d::es,h=>by
   have ih:=aO (es:=es) (fun d hd=>h d (by simp[hd]))
   simp only[aU,quq,qt4]at ih ⊢
   rw[ih,h d (by simp),quy,qun]
   omega
theorem pz(a b:List D):aU (a++b)=aU a++aU b:=by simp[aU]
end Go.Gv

namespace Go.Gv
def rc:List (Nat×Array Value):=[]
end Go.Gv

namespace Go.Gv
inductive Res where
 | box (b:Nat) (cells:List D)
 | row (x:Value) (el n:Nat) (es:List D)
 | iter (b:Nat) (s:ByteArray) (pos:Nat)
 | tbox (el b:Nat) (cells:List D)
 | mrow (x:Value) (es:List D)
 | miter (b:Nat) (cur left:List D)
def Res.blk:Res->Option Nat
 | .box b _=>some b
 | .row x _ _ _=>x.ownBlock
 | .iter b _ _=>some b
 | .tbox _ b _=>some b
 | .mrow x _=>match x with| .map m=>m|_=>none
 | .miter b _ _=>some b
abbrev ab:=Nat->Option Res
def ah(H:ab)(id:Nat)(r:Option Res):ab:=fun i=>if i=id then r else H i
def bA(H:ab)(b:Nat):Prop:=∃i r,H i=some r/\r.blk=some b
def aM(O tp:Nat->Prop)(H:ab)(w:World)(b:Nat):Prop:=b < w.heap.size/\ ¬O b/\ ¬tp b/\ ¬bA H b
def bq(Q:Value->D->Prop)(xs:List Value)(cs:List D):Prop:=
 ∀ (k:Nat) (y:Value) (c:D),xs[k]? =some y->cs[k]? =some c->y.oneCell'=true/\Q y c
def ER(Q:Value->D->Prop)(es:Array MapEntry)(ds:List D):Prop:=
 es.size=ds.length/\∀ (k:Nat) (e:MapEntry) (c:D),es[k]? =some e->ds[k]? =some c->Q (.tuple #[e.key,e.val]) c
def ResOk(Q:Value->D->Prop)(w:World):Res->Prop
 | .box b cells=>∃ (xs:Array Value) (el:Nat),w.heap[b]? =some (.cells xs el (0,0))/\xs.size=cells.length/\bq Q xs.toList cells
 | .iter b s pos=>w.heap[b]? =some (.stringIter s pos)
 | .tbox el b cells=>∃xs:Array Value,w.heap[b]? =some (.cells xs el (0,0))/\xs.size=cells.length/\bq Q xs.toList cells
 | .mrow x es=>∃ (b:Nat) (ents:Array MapEntry) (clock:Nat),x= .map (some b)/\w.heap[b]? =some (.map ents clock)/\sJ ents clock/\ER Q ents es
 | .miter b cur left=>∃ (m:Option Nat) (since last:Nat) (seen:Array Nat),w.heap[b]? =some (.mapIter m since seen last)/\Q (JQ m since seen last) (.mst cur left)
 | .row x el n es=>∃xs:List Value,w.ownsRow 0 el n x es.length xs/\(∀d∈es,d.kn=true/\d.cells.length=n)/\bq Q xs (aU es)
structure qil (O tp:Nat->Prop) (H:ab) (w:World):Prop where
 dis:∀i j r s b,H i=some r->H j=some s->r.blk=some b->s.blk=some b->i=j
 out:∀i r b,H i=some r->r.blk=some b->¬O b/\ ¬tp b
 ok:∀i r,H i=some r->ResOk (R tp (aM O tp H w) w) w r
structure GrB (w w':World) (row:Option Nat):Prop extends World.grownBy w w' row where
 drawn:w.drawn<=w'.drawn
theorem GrB.alloc(w:World)(o:Obj)(row:Option Nat):GrB w (w.alloc o) row:=⟨qv6 w o row,qtP _⟩
structure Step (tp own:Nat->Prop) (w w':World):Prop where
 os:w'.os=w.os
 tape:w'.tape=w.tape
 output:w'.output=w.output
 size:w.heap.size<=w'.heap.size
 same:∀b,b < w.heap.size->¬own b->¬tp b->w'.heap[b]? =w.heap[b]?
 tapes:∀b,tp b->TapeStep w w' b
 drawn:w.drawn<=w'.drawn
theorem Step.refl(tp own:Nat->Prop)(w:World):Step tp own w w:=⟨rfl,rfl,rfl,qtP _,fun _ _ _ _=>rfl,fun _ _=> .refl _ _,qtP _⟩
theorem ResOk.conv{Q Q':Value->D->Prop}{w w':World}{r:Res}(h:ResOk Q w r)(hq:∀x d,Q x d->Q' x d)(hb:∀b,r.blk=some b->w'.heap[b]? =w.heap[b]?):ResOk Q' w' r:=by
 cases r with
 | box b cells=>
   obtain⟨xs,el,h1,h2,h3⟩:=h
   exact⟨xs,el,by rw[hb b rfl];exact h1,h2,fun k y c hy hc=>⟨(h3 k y c hy hc).1,hq _ _ (h3 k y c hy hc).2⟩⟩
 | row x el n es=>
   obtain⟨xs,⟨h0,h1⟩,h2,h3⟩:=h
   refine⟨xs,⟨h0,?_⟩,h2,fun k y c hy hc=>⟨(h3 k y c hy hc).1,hq _ _ (h3 k y c hy hc).2⟩⟩
   rcases h1 with h1|⟨g,cap,cur,e1,e2,e3,e4⟩
   ·exact .inl h1
   ·exact .inr ⟨g,cap,cur,e1,e2,by rw[hb g (by subst e1;rfl)];exact e3,e4⟩
 | tbox el b cells=>
   obtain⟨xs,h1,h2,h3⟩:=h
   exact⟨xs,by rw[hb b rfl];exact h1,h2,fun k y c hy hc=>⟨(h3 k y c hy hc).1,hq _ _ (h3 k y c hy hc).2⟩⟩
 | mrow x es=>
   obtain⟨b,ents,clock,rfl,h1,h2,h3,h4⟩:=h
   exact⟨b,ents,clock,rfl,by rw[hb b rfl];exact h1,h2,h3,fun k e c he hc=>hq _ _ (h4 k e c he hc)⟩
 | miter b cur left=>
   obtain⟨m,since,last,seen,h1,h2⟩:=h
   exact⟨m,since,last,seen,by rw[hb b rfl];exact h1,hq _ _ h2⟩
 | iter b s pos=>
   have h:w.heap[b]? =some (.stringIter s pos):=h
   show w'.heap[b]? =_
   rw[hb b rfl];exact h
theorem ResOk.lt{Q:Value->D->Prop}{w:World}{r:Res}(h:ResOk Q w r){b:Nat}(hb:r.blk=some b):b < w.heap.size:=by
 cases r with
 | box b' cells=>
   obtain⟨xs,el,h1,_⟩:=h
   cases hb
   exact(qtO.1 h1).1
 | row x el n es=>
   obtain⟨xs,⟨_,h1⟩,_⟩:=h
   rcases h1 with⟨rfl,_⟩|⟨g,cap,cur,rfl,_,e3,_⟩
   ·simp[Res.blk,Value.ownBlock]at hb
   ·simp[Res.blk,Value.ownBlock]at hb
    subst hb
    exact(qtO.1 e3).1
 | tbox el b' cells=>
   obtain⟨xs,h1,_⟩:=h
   cases hb
   exact(qtO.1 h1).1
 | mrow x es=>
   obtain⟨b',ents,clock,rfl,h1,_⟩:=h
   cases hb
   exact(qtO.1 h1).1
 | miter b' cur left=>
   obtain⟨m,since,last,seen,h1,_⟩:=h
   cases hb
   exact(qtO.1 h1).1
 | iter b' s pos=>
   have h:w.heap[b']? =some (.stringIter s pos):=h
   cases hb
   exact(qtO.1 h).1
def GlW(tp own:Nat->Prop)(w:World):Prop:=∀p∈rc,¬tp p.1/\ ¬own p.1/\∃ (el:Nat) (z:Nat×Nat),w.heap[p.1]? =some (.cells p.2 el z)
def TpG(tp own:Nat->Prop)(w:World):Prop:=(∀b,tp b->b < w.heap.size)/\GlW tp own w
theorem GlW.mono{tp tp' own own':Nat->Prop}{w:World}(h:GlW tp own w)(h1:∀b,tp' b->tp b)(h2:∀b,own' b->own b):GlW tp' own' w:=fun p hp=>
 ⟨fun x=>(h p hp).1 (h1 _ x),fun x=>(h p hp).2.1 (h2 _ x),(h p hp).2.2⟩
theorem TpG.mono{tp own own':Nat->Prop}{w:World}(h:TpG tp own w)(h2:∀b,own' b->own b):TpG tp own' w:=⟨h.1,h.2.mono (fun _ x=>x) h2⟩
theorem GlW.lt{tp own:Nat->Prop}{w:World}(h:GlW tp own w){p:Nat×Array Value}(hp:p∈rc):p.1 < w.heap.size:=by
 obtain⟨_,_,el,z,hz⟩:=h p hp
 exact(qtO.1 hz).1
theorem GlW.step{tp own:Nat->Prop}{w w':World}(h:GlW tp own w)(hs:Step tp own w w'):GlW tp own w':=fun p hp=>by
 have hlt:=h.lt hp
 obtain⟨h1,h2,el,z,hz⟩:=h p hp
 exact⟨h1,h2,el,z,by rw[hs.same _ hlt h2 h1];exact hz⟩
structure xn where
 O:Nat->Prop
 tp0:Nat->Prop
 w0:World
 own0:Nat->Prop
 N:Nat
 ds:List Deferred:=[]
structure StW (E:xn) (tp:Nat->Prop) (H:ab) (w:World):Prop where
 hO:∀b,E.O b->b < E.w0.heap.size
 tpx:∀b,E.tp0 b->tp b
 tpn:∀b,tp b->E.tp0 b\/E.w0.heap.size<=b
 tpl:(∀b,tp b->b < w.heap.size)/\GlW E.tp0 E.own0 E.w0
 step:Step E.tp0 E.own0 E.w0 w
 loc:∀b,bA H b->E.own0 b\/E.w0.heap.size<=b
 sat:qil E.O tp H w
theorem StW.tpg{E:xn}{tp:Nat->Prop}{H:ab}{w:World}(h:StW E tp H w):TpG tp (bA H) w:=⟨h.tpl.1,fun p hp=>by
 have hlt:=h.tpl.2.lt hp
 obtain⟨h1,h2,el,z,hz⟩:=h.tpl.2.step h.step p hp
 refine⟨fun x=>?_,fun x=>?_,el,z,hz⟩
 ·rcases h.tpn _ x with x|x
  ·exact h1 x
  ·omega
 ·rcases h.loc _ x with x|x
  ·exact h2 x
  ·omega⟩
theorem StW.move{E:xn}{tp tp':Nat->Prop}{H H':ab}{w w':World}(h:StW E tp H w)(hs:Step tp (bA H) w w')
 (ht:∀b,tp b->tp' b) (htn:∀b,tp' b->tp b\/w.heap.size<=b) (htl:∀b,tp' b->b < w'.heap.size)
 (hloc:∀b,bA H' b->bA H b\/w.heap.size<=b) (hsat:qil E.O tp' H' w'):
 StW E tp' H' w'/\∀x d,R tp (aM E.O tp H w) w x d->R tp' (aM E.O tp' H' w') w' x d:=by
 have hw:E.w0.heap.size<=w.heap.size:=h.step.size
 refine⟨⟨h.hO,fun b hb=>ht b (h.tpx b hb),fun b hb=>?_,⟨htl,h.tpl.2⟩,?_,fun b hb=>?_,hsat⟩,fun x d hr=>?_⟩
 ·rcases htn b hb with hb|hb
  ·exact h.tpn b hb
  ·exact .inr (quw hw hb)
 ·refine⟨hs.os.trans h.step.os,hs.tape.trans h.step.tape,hs.output.trans h.step.output,quw hw hs.size,fun b hb ho htp=>?_,fun b hb=>(h.step.tapes b hb).trans (hs.tapes b (h.tpx b hb)),quw h.step.drawn hs.drawn⟩
  rw[hs.same b (by omega) (fun hown=>?_) (fun hT=>?_)]
  ·exact h.step.same b hb ho htp
  ·rcases h.loc b hown with h1|h1
   ·exact ho h1
   ·omega
  ·rcases h.tpn b hT with h1|h1
   ·exact htp h1
   ·omega
 ·rcases hloc b hb with hb|hb
  ·exact h.loc b hb
  ·exact .inr (quw hw hb)
 ·refine hr.mono ht (fun b hb=>?_) hs.tapes
  obtain⟨h1,h2,h3,h4⟩:=hb
  refine⟨⟨qt1 h1 hs.size,h2,fun hT=>?_,fun ho=>?_⟩,hs.same b h1 h4 h3⟩
  ·rcases htn b hT with h5|h5
   ·exact h3 h5
   ·omega
  ·rcases hloc b ho with h5|h5
   ·exact h4 h5
   ·omega
theorem Vm{H:ab}{id:Nat}{r':Option Res}{b:Nat}(h:bA (ah H id r') b):(∃r,r'=some r/\r.blk=some b)\/ ∃i r,i≠id/\H i=some r/\r.blk=some b:=by
 obtain⟨i,r,h1,h2⟩:=h
 by_cases hi:i=id
 ·subst hi
  simp[ah]at h1
  exact .inl ⟨r,h1,h2⟩
 ·simp[ah,hi]at h1
  exact .inr ⟨i,r,hi,h1,h2⟩
theorem StW.own{E:xn}{tp:Nat->Prop}{H:ab}{w w':World}{row:Option Nat}(h:StW E tp H w)(id:Nat)(r':Option Res)(hg:GrB w w' row)
 (hrow:∀b,row=some b->∃r,H id=some r/\r.blk=some b)
 (hblk:∀r b,r'=some r->r.blk=some b->w.heap.size<=b\/ ∃r0,H id=some r0/\r0.blk=some b)
 (hok:(∀x d,R tp (aM E.O tp H w) w x d->R tp (aM E.O tp (ah H id r') w') w' x d)->∀r,r'=some r->ResOk (R tp (aM E.O tp (ah H id r') w') w') w' r):
 StW E tp (ah H id r') w'/\∀x d,R tp (aM E.O tp H w) w x d->R tp (aM E.O tp (ah H id r') w') w' x d:=by
 have hw:E.w0.heap.size<=w.heap.size:=h.step.size
 have rowOwn:∀b,row=some b->bA H b:=fun b hb=>by obtain⟨r,h1,h2⟩:=hrow b hb;exact⟨id,r,h1,h2⟩
 have hloc:∀b,bA (ah H id r') b->bA H b\/w.heap.size<=b:=fun b hb=>by
  rcases Vm hb with⟨r,h1,h2⟩|⟨i,r,_,h1,h2⟩
  ·rcases hblk r b h1 h2 with h3|⟨r0,h3,h4⟩
   ·exact .inr h3
   ·exact .inl ⟨id,r0,h3,h4⟩
  ·exact .inl ⟨i,r,h1,h2⟩
 have sameImm:∀b,aM E.O tp H w b->aM E.O tp (ah H id r') w' b/\w'.heap[b]? =w.heap[b]?:=fun b hb=>by
  obtain⟨h1,h2,h3,h4⟩:=hb
  refine⟨⟨qt1 h1 hg.size,h2,h3,fun ho=>?_⟩,hg.block b h1 (fun e=>h4 (rowOwn b e.symm))⟩
  rcases hloc b ho with h5|h5
  ·exact h4 h5
  ·omega
 have tapeSame:∀b,tp b->w'.heap[b]? =w.heap[b]?:=fun b hb=>hg.block b (h.tpl.1 b hb) (fun e=>by
  obtain⟨r,h1,h2⟩:=hrow b e.symm
  exact(h.sat.out id r b h1 h2).2 hb)
 have move:∀x d,R tp (aM E.O tp H w) w x d->R tp (aM E.O tp (ah H id r') w') w' x d:=fun x d hr=>
  hr.mono (fun _ h=>h) sameImm (fun b hb=> .same (tapeSame b hb))
 have hstep:Step tp (bA H) w w':=⟨hg.os,hg.tape,hg.output,hg.size,fun b hb ho _=>hg.block b hb (fun e=>ho (rowOwn b e.symm)),fun b hb=> .same (tapeSame b hb),hg.drawn⟩
 refine h.move hstep (fun _ h=>h) (fun _ h=> .inl h) (fun b hb=>qt1 (h.tpl.1 b hb) hg.size) hloc ⟨?_,?_,?_⟩
 ·intro i j r s b hi hj hr hs
  by_cases e1:i=id
  ·by_cases e2:j=id
   ·exact e1.trans e2.symm
   ·exfalso
    subst e1
    simp[ah]at hi
    simp[ah,e2]at hj
    rcases hblk r b hi hr with h3|⟨r0,h3,h4⟩
    ·have:=(h.sat.ok j s hj).lt hs;omega
    ·exact e2 (h.sat.dis _ _ _ _ b hj h3 hs h4)
  ·simp[ah,e1]at hi
   by_cases e2:j=id
   ·exfalso
    subst e2
    simp[ah]at hj
    rcases hblk s b hj hs with h3|⟨r0,h3,h4⟩
    ·have:=(h.sat.ok i r hi).lt hr;omega
    ·exact e1 (h.sat.dis _ _ _ _ b hi h3 hr h4)
   ·simp[ah,e2]at hj
    exact h.sat.dis _ _ _ _ b hi hj hr hs
 ·intro i r b hi hr
  by_cases e1:i=id
  ·subst e1
   simp[ah]at hi
   rcases hblk r b hi hr with h3|⟨r0,h3,h4⟩
   ·exact⟨fun hO=>by have:=h.hO b hO;omega,fun hT=>by have:=h.tpl.1 b hT;omega⟩
   ·exact h.sat.out _ r0 b h3 h4
  ·simp[ah,e1]at hi
   exact h.sat.out _ r b hi hr
 ·intro i r hi
  by_cases e1:i=id
  ·subst e1
   simp[ah]at hi
   exact hok move r hi
  ·simp[ah,e1]at hi
   refine(h.sat.ok i r hi).conv move (fun b hb=>hg.block b ((h.sat.ok i r hi).lt hb) (fun e=>?_))
   obtain⟨r0,h3,h4⟩:=hrow b e.symm
   exact e1 (h.sat.dis _ _ _ _ b hi h3 hb h4)
theorem StW.grow{E:xn}{tp:Nat->Prop}{H:ab}{w w':World}(h:StW E tp H w)(hg:GrB w w' none):
 StW E tp H w'/\∀x d,R tp (aM E.O tp H w) w x d->R tp (aM E.O tp H w') w' x d:=by
 have sameImm:∀b,aM E.O tp H w b->aM E.O tp H w' b/\w'.heap[b]? =w.heap[b]?:=fun b hb=>
  ⟨⟨qt1 hb.1 hg.size,hb.2⟩,hg.block b hb.1 (by simp)⟩
 have tapeSame:∀b,tp b->w'.heap[b]? =w.heap[b]?:=fun b hb=>hg.block b (h.tpl.1 b hb) (by simp)
 have move:∀x d,R tp (aM E.O tp H w) w x d->R tp (aM E.O tp H w') w' x d:=fun x d hr=>
  hr.mono (fun _ h=>h) sameImm (fun b hb=> .same (tapeSame b hb))
 have hstep:Step tp (bA H) w w':=⟨hg.os,hg.tape,hg.output,hg.size,fun b hb _ _=>hg.block b hb (by simp),fun b hb=> .same (tapeSame b hb),hg.drawn⟩
 refine h.move hstep (fun _ h=>h) (fun _ h=> .inl h) (fun b hb=>qt1 (h.tpl.1 b hb) hg.size) (fun b hb=> .inl hb) ⟨h.sat.dis,h.sat.out,fun i r hi=>?_⟩
 exact(h.sat.ok i r hi).conv move (fun b hb=>hg.block b ((h.sat.ok i r hi).lt hb) (by simp))
theorem MP(w:World)(row:Option Nat):GrB w w.drew row:=⟨⟨rfl,rfl,rfl,qtP _,fun _ _ _=>rfl⟩,qvd _⟩
theorem jn(w:World)(row:Option Nat):GrB w w row:=⟨⟨rfl,rfl,rfl,qtP _,fun _ _ _=>rfl⟩,qtP _⟩
abbrev Sg:=Nat->D
def upd(σ:Sg)(t:Nat)(d:D):Sg:=fun s=>if s=t then d else σ s
def St(E:xn)(σ:Sg)(H:ab)(a:Act)(w:World):Prop:=
 a.defers=E.ds/\a.tmps.size=E.N/\∃tp,StW E tp H w/\∀t,R tp (aM E.O tp H w) w (a.tmps.getD t undef) (σ t)
def eH(σ:Sg)(t:Option Nat)(d:D):Sg:=match t with|some t=>upd σ t d|none=>σ
theorem qci{N:Nat}{a:Act}{σ:Sg}{Q:Value->D->Prop}(hN:a.tmps.size=N)(hr:∀t,Q (a.tmps.getD t undef) (σ t))(dst:Option Nat)(hd:∀t,dst=some t->t < N){x:Value}{d:D}(hx:Q x d):
 ∀t,Q ((a.put dst x).tmps.getD t undef) (eH σ dst d t):=by
 intro t
 cases dst with
 | none=>exact hr t
 | some s=>
   have hs:=hd s rfl
   simp only[Act.put,eH,upd]
   by_cases e:t=s
   ·subst e
    simp[qud,hN,hs]
    exact hx
   ·have e':¬s=t:=fun h=>e h.symm
    simp only[qud,qu1,e',e,if_false]
    have:=hr t
    rw[qud]at this
    exact this
theorem Rv(a:Act)(dst:Option Nat)(x:Value):(a.put dst x).defers=a.defers:=by cases dst <;> rfl
theorem YA(a:Act)(dst:Option Nat)(x:Value):(a.put dst x).tmps.size=a.tmps.size:=by cases dst <;> simp[Act.put]
theorem St.put{E:xn}{σ:Sg}{H H':ab}{a:Act}{w':World}{tp':Nat->Prop}{tp:Nat->Prop}{w:World}(hd:a.defers=E.ds)(hN:a.tmps.size=E.N)
 (hr:∀t,R tp (aM E.O tp H w) w (a.tmps.getD t undef) (σ t))
 (hm:StW E tp' H' w'/\∀x d,R tp (aM E.O tp H w) w x d->R tp' (aM E.O tp' H' w') w' x d) (dst:Option Nat) (hdst:∀t,dst=some t->t < E.N) {x:Value} {d:D}
 (hx:R tp' (aM E.O tp' H' w') w' x d):St E (eH σ dst d) H' (a.put dst x) w':=
 ⟨by rw[Rv];exact hd,by rw[YA];exact hN,tp',hm.1,qci hN (fun t=>hm.2 _ _ (hr t)) dst hdst hx⟩
end Go.Gv
