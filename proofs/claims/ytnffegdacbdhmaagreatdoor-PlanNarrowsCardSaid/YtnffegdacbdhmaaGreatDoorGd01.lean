/- A -/
import Derived.WalkKit
import Derived.Orders
import Derived.Below
set_option linter.all false
namespace Go.Gv
def i' {α:Sort _} (a:α):α:=a
def qzU:=@Option.bind_eq_some_iff
def qzV:=@List.getElem?_eq_some_iff
def qzW:=@Option.bind_eq_bind
def qzX:=@List.getElem?_eq_getElem
def qzY:=@List.mem_of_getElem?
def qzZ:=@Bool.and_eq_true
def qz0:=@Nat.le_of_ble_eq_true
def qz1:=@List.mem_map
def qz2:=@Nat.le_refl
def qz3:=@Array.getElem?_eq_some_iff
def qz4:=@List.all_eq_true
def qz5:=@List.mem_append
def qz6:=@Option.map_eq_some_iff
def qz7:=@List.getElem?_map
def qz8:=@Result.andThen_ok
def qz9:=@List.getElem?_append_right
def qAa:=@Option.some.injEq
def qAb:=@List.take_length
def qAc:=@List.mem_cons
def qAd:=@List.eq_nil_of_length_eq_zero
def qAe:=@List.getElem?_append_left
def qAf:=@List.getElem?_take
def qAg:=@Option.some.inj
def qAh:=@Option.bind_some
def qAi:=@Array.length_toList
def qAj:=@Nat.lt_of_lt_of_le
def qAk:=@Sem.run_bind
def qAl:=@List.mem_of_mem_take
def qAm:=@List.length_append
def qAn:=@Array.getElem?_toList
def qAo:=@List.map_cons
def qAp:=@List.mem_iff_getElem?
def qAq:=@List.length_take
def qAr:=@Nat.zero_le
def qAs:=@List.length_map
def qAt:=@List.getElem?_eq_none
def qAu:=@Sem.run_pure
def qAv:=@Array.getD_eq_getD_getElem?
def qAw:=@List.flatMap_cons
def qAx:=@Nat.le_trans
def qAy:=@Nat.mul_le_mul_right
def qAz:=@List.take_append_drop
def qAA:=@List.cons.injEq
def qAB:=@Bool.eq_iff_iff
def qAC:=@List.mapM_cons
def qAD:=@List.length_cons
def qAE:=@Option.getD_some
def qAF:=@List.getElem?_drop
def qAG:=@Nat.zero_add
def qAH:=@List.append_assoc
def qAI:=@Nat.succ_mul
def qAJ:=@Bool.false_eq_true
def qAK:=@List.cons_append
def qAL:=@List.not_mem_nil
def qAM:=@Array.getElem?_append_left
def qAN:=@List.length_eq_zero_iff
def qAO:=@List.ext_getElem?
def qAP:=@List.mem_of_mem_drop
def qAQ:=@List.drop_eq_getElem_cons
def qAR:=@List.pairwise_append
def qAS:=@Array.getElem?_eq_getElem
def qAT:=@List.take_of_length_le
def qAU:=@List.foldl_cons
def qAV:=@List.mem_filter
def qAW:=@Option.isSome_iff_exists
def qAX:=@List.drop_length
def qAY:=@Iff.rfl
def qAZ:=@List.nil_append
def qA0:=@List.mem_or_eq_of_mem_set
def qA1:=@List.pairwise_iff_getElem
def qA2:=@List.map_congr_left
def qA3:=@List.nodup_cons
def qA4:=@Nat.eq_zero_or_pos
def qA5:=@Nat.add_zero
def qA6:=@List.take_add_one
def qA7:=@List.append_nil
def qA8:=@List.length_drop
def qA9:=@List.mem_singleton
def qBa:=@List.any_eq_true
def qBb:=@List.map_nil
def qBc:=@List.filter_cons
def qBd:=@List.mem_range
def qBe:=@Nat.le_succ
def qBf:=@Int.le_refl
def qBg:=@Option.map_none
def qBh:=@Option.map_some
def qBi:=@List.getElem?_cons_succ
def qBj:=@Array.getElem?_setIfInBounds
def qBk:=@Nat.add_mul
def qBl:=@List.length_eq_one_iff
def qBm:=@List.getElem?_set_self
def qBn:=@Array.getElem?_eq_none
def qBo:=@Nat.mul_comm
def qBp:=@List.filter_append
def qBq:=@List.pairwise_cons
def qBr:=@Code.wp_mono
def qBs:=@List.length_replicate
def qBt:=@List.map_append
def qBu:=@Nat.add_assoc
def qBv:=@List.size_toArray
def qBw:=@World.ownsRow_nil
def qBx:=@List.mem_cons_of_mem
def qBy:=@Array.toList_inj
def qBz:=@List.eq_of_mem_replicate
def qBA:=@Nat.sub_self
def qBB:=@List.mem_flatMap
def qBC:=@List.getElem_mem
def qBD:=@List.getElem?_range
def qBE:=@List.filter_eq_self
def qBF:=@Bool.true_and
def qBG:=@Nat.mod_lt
def qBH:=@Nat.div_add_mod
def qBI:=@UInt8.toNat_ofNat'
def qBJ:=@List.drop_eq_nil_of_le
def qBK:=@Array.getElem?_modify
def qBL:=@Int.mul_nonneg
def qBM:=@Array.toList_map
def qBN:=@List.all_cons
def qBO:=@ByteArray.toList_eq
def qBP:=@List.length_nil
def qBQ:=@List.rel_of_pairwise_cons
def qBR:=@Nat.le_mul_of_pos_right
def qBS:=@Classical.axiomOfChoice
def qBT:=@List.nodup_append
def qBU:=@List.foldl_append
def qBV:=@List.set_eq_take_append_cons_drop
def qBW:=@List.drop_nil
def qBX:=@Prod.mk.injEq
def qBY:=@List.range'_succ
def qBZ:=@World.cell?_of_block
def qB0:=@List.range_eq_range'
def qB1:=@Nat.div_lt_of_lt_mul
def qB2:=@World.grownBy_alloc
def qB3:=@List.replicate_zero
def qB4:=@List.flatMap_append
def qB5:=@List.take_left
def qB6:=@List.take_zero
def qB7:=@List.nodup_nil
def qB8:=@Nat.add_sub_cancel
def qB9:=@List.take_nil
def qCa:=@Bool.not_eq_true'
def qCb:=@Int.toNat_natCast
def qCc:=@Array.toList_push
def qCd:=@List.pairwise_map
def qCe:=@List.map_set
def qCf:=@RowKit.Below.heap_alloc
def qCg:=@List.getElem?_cons_zero
def qCh:=@List.any_eq_not_all_not
def qCi:=@List.length_set
def qCj:=@Array.getElem?_extract
def qCk:=@List.take_take
def qCl:=@List.drop_succ_cons
def qCm:=@Array.toList_append
def qCn:=@List.replicate_succ
def qCo:=@List.filter_sublist
def qCp:=@List.take_succ_cons
def qCq:=@Nat.zero_mul
def qCr:=@Nat.add_comm
def qCs:=@List.mem_cons_self
def qCt:=@List.append_of_mem
def qCu:=@Array.size_append
def qCv:=@List.flatten_cons
def qCw:=@ByteArray.ext_iff
def qCx:=@Value.tuple.injEq
def qCy:=@Array.all_eq_true
def qCz:=@Nat.lt_trichotomy
inductive D where
 |any
 |undef
 |v (x:Value)
 |agg (cs:List D)
 |list (n:Nat) (es:List D)
 |cptr (cs:List D) (off:Nat)
 |bptr (id b off:Nat)
 |own (id:Nat) (x:Value)
 |eptr (id:Nat) (x:Value) (n i off:Nat)
 |sub (id:Nat) (x:Value) (n lo hi:Nat)
 |tape (L:List Int)
 |clo (f:Nat) (caps:List D)
 |tup (ds:List D)
 |mp (es:List D)
 |mst (cur es:List D)
def D.cells:D->List D
 | .agg cs=>cs
 |d=>[d]
def D.kn:D->Bool
 | .any| .undef| .tup _| .mst _ _=>false
 | _=>true
def be(es:List D):List D:=es.flatMap D.cells
def slen:Value->Nat
 | .slice _ n _=>n
 | _=>0
def PlainB(w:World)(b:Nat):Prop:=∃(xs:Array Value) (el:Nat),w.heap[b]? =some (.cells xs el (0,0))
def O3(m:Option Nat)(since:Nat)(seen:Array Nat)(last:Nat):Value:= .tuple #[.map m, .int .i64 since, .agg (seen.map λ(n:Nat)=> .int .i64 n), .int .i64 last]
def kT(es:Array MapEntry)(seen:Array Nat):List MapEntry:=es.toList.filter λe=>!seen.contains e.born
def pT(es:Array MapEntry)(clock:Nat):Prop:=(∀e∈es.toList,e.born<clock)/\(es.toList.map (·.born)).Nodup
inductive R (tp I:Nat->Prop) (w:World):Value->D->Prop
 |any (x:Value):R tp I w x .any
 |undef:R tp I w Go.undef .undef
 |v (x:Value) (h:x.oneCell'=true) (hs:∀s,x= .string s->s.size<=maxLen):R tp I w x (.v x)
 | agg (xs:List Value) (cs:List D) (hl:xs.length=cs.length) (h1:∀x∈xs,x.oneCell'=true)
    (h:∀(k:Nat) (x:Value) (c:D),xs[k]? =some x->cs[k]? =some c->R tp I w x c):R tp I w (.agg xs.toArray) (.agg cs)
 |nolist (a:Option Addr) (cap n:Nat):R tp I w (.slice a 0 cap) (.list n [])
 | list (b off cap n:Nat) (es:List D) (f:Nat->Value) (hI:I b) (hc:es.length<=cap) (hm:cap<=maxLen)
    (hz:n≠1->PlainB w b) (hn:∀d∈es,d.kn=true/\d.cells.length=n)
    (hcell:∀(k:Nat) (c:D),(be es)[k]? =some c->w.cell? ⟨b,off+k,none⟩=some (f k))
    (h1:∀(k:Nat) (c:D),(be es)[k]? =some c->(f k).oneCell'=true)
    (h:∀(k:Nat) (c:D),(be es)[k]? =some c->R tp I w (f k) c):R tp I w (.slice (some ⟨b,off,none⟩) es.length cap) (.list n es)
 | cptr (b base:Nat) (cs:List D) (off:Nat) (f:Nat->Value) (hI:I b) (hz:cs.length≠1->PlainB w b)
    (hcell:∀(k:Nat) (c:D),cs[k]? =some c->w.cell? ⟨b,base+k,none⟩=some (f k))
    (h1:∀(k:Nat) (c:D),cs[k]? =some c->(f k).oneCell'=true)
    (h:∀(k:Nat) (c:D),cs[k]? =some c->R tp I w (f k) c):R tp I w (.pointer (some ⟨b,base+off,none⟩)) (.cptr cs off)
 |bptr (id b off:Nat):R tp I w (.pointer (some ⟨b,off,none⟩)) (.bptr id b off)
 |own (id:Nat) (x:Value) (h:x.oneCell'=true):R tp I w x (.own id x)
 |eptr (id:Nat) (b len cap n i off:Nat):R tp I w (.pointer (some ⟨b,i*n+off,none⟩)) (.eptr id (.slice (some ⟨b,0,none⟩) len cap) n i off)
 |subnil (id n:Nat):R tp I w (.slice none 0 0) (.sub id (.slice none 0 0) n 0 0)
 | sub (id b len cap n lo hi:Nat) (p:Option Addr) (h1:lo<=hi) (h2:hi<=len) (h3:len<=cap) (hm:cap<=maxLen) (hp:lo<cap\/lo=0->p=some ⟨b,lo*n,none⟩):
    R tp I w (.slice p (hi -lo) (cap -lo)) (.sub id (.slice (some ⟨b,0,none⟩) len cap) n lo hi)
 | tape (b:Nat) (L:List Int) (s:Value) (i:Int) (el:Nat) (hb:tp b) (hh:w.heap[b]? =some (.cells #[s, .int .i64 i] el (0,0)))
    (h0:0<=i) (h1:i<=slen s) (hs:slen s=L.length) (h:R tp I w s (.list 1 (L.map λn=> .v (.int .i64 n)))):R tp I w (.pointer (some ⟨b,0,none⟩)) (.tape L)
 | clo (f:Nat) (xs:List Value) (caps:List D) (hl:xs.length=caps.length)
    (h:∀(k:Nat) (x:Value) (c:D),xs[k]? =some x->caps[k]? =some c->R tp I w x c):R tp I w (.func (.func f) #[] xs.toArray) (.clo f caps)
 | tup (xs:List Value) (ds:List D) (hl:xs.length=ds.length)
    (h:∀(k:Nat) (x:Value) (c:D),xs[k]? =some x->ds[k]? =some c->R tp I w x c):R tp I w (.tuple xs.toArray) (.tup ds)
 |nomp:R tp I w (.map none) (.mp [])
 | mp (b:Nat) (es:Array MapEntry) (clock:Nat) (ds:List D) (hI:I b) (hh:w.heap[b]? =some (.map es clock)) (hl:es.size=ds.length) (hb:pT es clock)
    (h:∀(k:Nat) (e:MapEntry) (c:D),es[k]? =some e->ds[k]? =some c->R tp I w (.tuple #[e.key,e.val]) c):R tp I w (.map (some b)) (.mp ds)
 |nomst (since last:Nat) (seen:Array Nat):R tp I w (O3 none since seen last) (.mst [] [])
 | mst (b:Nat) (es:Array MapEntry) (clock since last:Nat) (seen:Array Nat) (ce:MapEntry) (cur ds:List D) (hI:I b) (hh:w.heap[b]? =some (.map es clock)) (hb:pT es clock)
    (hs:∀e∈es.toList,e.born<since) (hsl:since<=last/\since<=clock) (hl:(kT es seen).length=ds.length)
    (hc:cur=[]\/(cur.length=1/\seen.back? =some ce.born/\ce∈es.toList/\last=clock)) (hcr:∀c,cur=[c]->R tp I w (.tuple #[ce.key,ce.val]) c)
    (h:∀(k:Nat) (e:MapEntry) (c:D),(kT es seen)[k]? =some e->ds[k]? =some c->R tp I w (.tuple #[e.key,e.val]) c):R tp I w (O3 (some b) since seen last) (.mst cur ds)
def TapeStep(w w':World)(b:Nat):Prop:=
 ∀ (s:Value) (i:Int) (el:Nat),w.heap[b]? =some (.cells #[s, .int .i64 i] el (0,0))->0<=i->i<=slen s->
  ∃(j:Int) (el':Nat),w'.heap[b]? =some (.cells #[s, .int .i64 j] el' (0,0))/\0<=j/\j<=slen s
def TapeStep.refl(w:World)(b:Nat):TapeStep w w b:=λ_ i el h h0 h1=>⟨i,el,h,h0,h1⟩
def TapeStep.same{w w':World}{b:Nat}(h:w'.heap[b]? =w.heap[b]?):TapeStep w w' b:=λ_ i el hh h0 h1=>⟨i,el,h ▸hh,h0,h1⟩
def TapeStep.trans{w w1 w2:World}{b:Nat}(h:TapeStep w w1 b)(k:TapeStep w1 w2 b):TapeStep w w2 b:=λs i el hh h0 h1=>by
 obtain⟨j,el',a1,a2,a3⟩:=h s i el hh h0 h1;exact k s j el' a1 a2 a3
def PlainB.same{w w':World}{b:Nat}(h:PlainB w b)(e:w'.heap[b]? =w.heap[b]?):PlainB w' b:=by
 obtain⟨xs,el,h⟩:=h;exact⟨xs,el,e.trans h⟩
theorem R.mono{tp I tp' I':Nat->Prop}{w w':World}{x:Value}{d:D}(h:R tp I w x d)(ht:∀b,tp b->tp' b)
 (hI:∀b,I b->I' b/\w'.heap[b]? =w.heap[b]?) (hT:∀b,tp b->TapeStep w w' b):R tp' I' w' x d:=by
 induction h with
 |any x=>exact .any x
 |undef=>exact .undef
 |v x h hs=>exact .v x h hs
 |agg xs cs hl h1 _ ih=>exact .agg xs cs hl h1 ih
 |nolist a cap n=>exact .nolist a cap n
 | list b off cap n es f hIb hc hm hz hn hcell h1 _ ih=>
   exact .list b off cap n es f (hI b hIb).1 hc hm (λh=>(hz h).same (hI b hIb).2) hn (λk c hk=>by rw[qBZ (w:=w) (hI b hIb).2];exact hcell k c hk) h1 ih
 | cptr b base cs off f hIb hz hcell h1 _ ih=>
   exact .cptr b base cs off f (hI b hIb).1 (λh=>(hz h).same (hI b hIb).2) (λk c hk=>by rw[qBZ (w:=w) (hI b hIb).2];exact hcell k c hk) h1 ih
 |bptr id b off=>exact .bptr id b off
 |own id x h=>exact .own id x h
 |eptr id b len cap n i off=>exact .eptr id b len cap n i off
 |subnil id n=>exact .subnil id n
 |sub id b len cap n lo hi p h1 h2 h3 hm hp=>exact .sub id b len cap n lo hi p h1 h2 h3 hm hp
 | tape b L s i el hb hh h0 h1 hs _ ih=>
   obtain⟨j,el',a1,a2,a3⟩:=hT b hb s i el hh h0 h1;exact .tape b L s j el' (ht b hb) a1 a2 a3 hs ih
 |clo f xs caps hl _ ih=>exact .clo f xs caps hl ih
 |tup xs ds hl _ ih=>exact .tup xs ds hl ih
 |nomp=>exact .nomp
 |mp b es clock ds hIb hh hl hb _ ih=>exact .mp b es clock ds (hI b hIb).1 ((hI b hIb).2.trans hh) hl hb ih
 |nomst since last seen=>exact .nomst since last seen
 |mst b es clock since last seen ce cur ds hIb hh hb hs hsl hl hc _ _ ihc ih=>exact .mst b es clock since last seen ce cur ds (hI b hIb).1 ((hI b hIb).2.trans hh) hb hs hsl hl hc ihc ih
theorem R.cells{tp I:Nat->Prop}{w:World}{x:Value}{d:D}(h:R tp I w x d)(hk:d.kn=true):
 x.cells.toList.length=d.cells.length/\∀(k:Nat) (y:Value) (c:D),x.cells.toList[k]? =some y->d.cells[k]? =some c->y.oneCell'=true/\R tp I w y c:=by
 have one:∀(y:Value) (e:D),y.oneCell'=true->e.cells=[e]->y.cells= #[y]->R tp I w y e->
  y.cells.toList.length=e.cells.length/\∀(k:Nat) (z:Value) (c:D),y.cells.toList[k]? =some z->e.cells[k]? =some c->z.oneCell'=true/\R tp I w z c:=by
  intro y e h1 he hy hr;rw[he,hy];refine⟨rfl,λk z c hz hc=>?_⟩;cases k with
  |zero=>simp at hz hc;subst hz;subst hc;exact⟨h1,hr⟩
  |succ k=>simp at hz
 have cellsOne:∀y:Value,y.oneCell'=true->y.cells= #[y]:=by
  intro y hy;cases y<;>first|rfl|(simp[Value.oneCell']at hy)
 cases h with
 |any x=>simp[D.kn]at hk
 |undef=>simp[D.kn]at hk
 |tup xs ds hl h=>simp[D.kn]at hk
 |nomst=>simp[D.kn]at hk
 |mst=>simp[D.kn]at hk
 |nomp=>exact one _ _ rfl rfl rfl .nomp
 |mp b es clock ds hIb hh hl hb h=>exact one _ _ rfl rfl rfl (.mp b es clock ds hIb hh hl hb h)
 | agg xs cs hl h1 h=>
   refine⟨hl,λk y c hy hc=>⟨h1 y (qzY hy),h k y c hy hc⟩⟩
 |v x h hs=>exact one _ _ h rfl (cellsOne _ h) (.v x h hs)
 |own id x h=>exact one _ _ h rfl (cellsOne _ h) (.own id x h)
 |nolist a cap n=>exact one _ _ rfl rfl rfl (.nolist a cap n)
 |list b off cap n es f hIb hc hm hz hn hcell h1 h=>exact one _ _ rfl rfl rfl (.list b off cap n es f hIb hc hm hz hn hcell h1 h)
 |cptr b base cs off f hIb hz hcell h1 h=>exact one _ _ rfl rfl rfl (.cptr b base cs off f hIb hz hcell h1 h)
 |bptr id b off=>exact one _ _ rfl rfl rfl (.bptr id b off)
 |eptr id b len cap n i off=>exact one _ _ rfl rfl rfl (.eptr id b len cap n i off)
 |subnil id n=>exact one _ _ rfl rfl rfl (.subnil id n)
 |sub id b len cap n lo hi p h1 h2 h3 hm hp=>exact one _ _ rfl rfl rfl (.sub id b len cap n lo hi p h1 h2 h3 hm hp)
 |tape b L s i el hb hh h0 h1 hs h=>exact one _ _ rfl rfl rfl (.tape b L s i el hb hh h0 h1 hs h)
 |clo f xs caps hl h=>exact one _ _ rfl rfl rfl (.clo f xs caps hl h)
def hU{n:Nat} :∀{es:List D},(∀d∈es,d.cells.length=n)->∀{i j:Nat},j<n->(be es)[i*n+j]? =(es[i]?).bind λd=>d.cells[j]?
 | [],_,i,j,_=>by simp[be]
 | d::es,h,0,j,hj=>by
   have hd:=h d (by simp);simp only[be,qAw,qCq,qAG];rw[qAe (by omega)];simp
 | d::es,h,i+1,j,hj=>by
   have hd:=h d (by simp);have ih:=hU (es:=es) (λd hd=>h d (by simp[hd])) (i:=i) hj;simp only[be,qAw]at ih ⊢;rw[qz9 (by rw[hd,qAI];omega),hd];have:(i+1) *n+j -n=i*n+j:=by rw[qAI];omega
   rw[this,ih];simp
def aY{n:Nat} :∀{es:List D},(∀d∈es,d.cells.length=n)->(be es).length=es.length*n
 | [],_=>by simp[be]
 | d::es,h=>by
   have ih:=aY (es:=es) (λd hd=>h d (by simp[hd]));simp only[be,qAw,qAm]at ih ⊢;rw[ih,h d (by simp),qAD,qAI];omega
def rK(a b:List D):be (a++b)=be a++be b:=by simp[be]
def ub:List (Nat×Array Value):=[]
inductive qzN where
 |mrs (x:Value) (es:List D) (st:List Nat) (clock:Nat)
 |mit (b m:Nat) (x:Value) (clock:Nat) (seen:List Nat)
inductive Res where
 |box (b:Nat) (cells:List D)
 |row (x:Value) (el n:Nat) (es:List D)
 |iter (b:Nat) (s:ByteArray) (pos:Nat)
 |tbox (el b:Nat) (cells:List D)
 |mrow (x:Value) (es:List D)
 |miter (b:Nat) (cur left:List D)
 |raw (r:qzN)
def Res.blk:Res->Option Nat
 | .box b _=>some b
 | .row x _ _ _=>x.ownBlock
 | .iter b _ _=>some b
 | .tbox _ b _=>some b
 | .mrow x _=>match x with| .map m=>m|_=>none
 | .miter b _ _=>some b
 | .raw (.mrs x _ _ _)=>match x with| .map m=>m|_=>none
 | .raw (.mit b _ _ _ _)=>some b
abbrev ab:=Nat->Option Res
def ai(H:ab)(id:Nat)(r:Option Res):ab:=λi=>if i=id then r else H i
def bL(H:ab)(b:Nat):Prop:=∃i r,H i=some r/\r.blk=some b
def bh(O tp:Nat->Prop)(H:ab)(w:World)(b:Nat):Prop:=b<w.heap.size/\ ¬O b/\ ¬tp b/\ ¬bL H b
def bN(Q:Value->D->Prop)(xs:List Value)(cs:List D):Prop:=
 ∀(k:Nat) (y:Value) (c:D),xs[k]? =some y->cs[k]? =some c->y.oneCell'=true/\Q y c
def Cs(Q:Value->D->Prop)(es:Array MapEntry)(ds:List D):Prop:=
 es.size=ds.length/\∀(k:Nat) (e:MapEntry) (c:D),es[k]? =some e->ds[k]? =some c->Q (.tuple #[e.key,e.val]) c
def ResOk(Q:Value->D->Prop)(w:World):Res->Prop
 | .box b cells=>∃(xs:Array Value) (el:Nat),w.heap[b]? =some (.cells xs el (0,0))/\xs.size=cells.length/\bN Q xs.toList cells
 | .iter b s pos=>w.heap[b]? =some (.stringIter s pos)
 | .tbox el b cells=>∃xs:Array Value,w.heap[b]? =some (.cells xs el (0,0))/\xs.size=cells.length/\bN Q xs.toList cells
 | .mrow x es=>∃(b:Nat) (ents:Array MapEntry) (clock:Nat),x= .map (some b)/\w.heap[b]? =some (.map ents clock)/\pT ents clock/\Cs Q ents es
 | .miter b cur left=>∃(m:Option Nat) (since last:Nat) (seen:Array Nat),w.heap[b]? =some (.mapIter m since seen last)/\Q (O3 m since seen last) (.mst cur left)
 | .raw (.mrs x es st clock)=>∃(b:Nat) (ents:Array MapEntry),x= .map (some b)/\w.heap[b]? =some (.map ents clock)/\pT ents clock/\ents.toList.map (·.born)=st/\Cs Q ents es
 | .raw (.mit b _ x clock seen)=>∃mb,x= .map (some mb)/\w.heap[b]? =some (.mapIter (some mb) clock seen.toArray clock)
 | .row x el n es=>∃xs:List Value,w.ownsRow 0 el n x es.length xs/\(∀d∈es,d.kn=true/\d.cells.length=n)/\bN Q xs (be es)
structure qoK (O tp:Nat->Prop) (H:ab) (w:World):Prop where
 dis:∀i j r s b,H i=some r->H j=some s->r.blk=some b->s.blk=some b->i=j
 out:∀i r b,H i=some r->r.blk=some b->¬O b/\ ¬tp b
 ok:∀i r,H i=some r->ResOk (R tp (bh O tp H w) w) w r
structure GrB (w w':World) (row:Option Nat):Prop extends World.grownBy w w' row where
 drawn:w.drawn<=w'.drawn
def GrB.alloc(w:World)(o:Obj)(row:Option Nat):GrB w (w.alloc o) row:=⟨qB2 w o row,qz2 _⟩
structure Step (dq:Prop) (tp own:Nat->Prop) (w w':World):Prop where
 os:w'.os=w.os
 tape:w'.tape=w.tape
 output:w'.output=w.output
 size:w.heap.size<=w'.heap.size
 same:∀b,b<w.heap.size->¬own b->¬tp b->w'.heap[b]? =w.heap[b]?
 tapes:∀b,tp b->TapeStep w w' b
 drawn:dq->w.drawn<=w'.drawn
def Step.refl{dq:Prop}(tp own:Nat->Prop)(w:World):Step dq tp own w w:=⟨rfl,rfl,rfl,qz2 _,λ_ _ _ _=>rfl,λ_ _=> .refl _ _,λ_=>qz2 _⟩
theorem ResOk.conv{Q Q':Value->D->Prop}{w w':World}{r:Res}(h:ResOk Q w r)(hq:∀x d,Q x d->Q' x d)(hb:∀b,r.blk=some b->w'.heap[b]? =w.heap[b]?):ResOk Q' w' r:=by
 cases r with
 | box b cells=>
   obtain⟨xs,el,h1,h2,h3⟩:=h;exact⟨xs,el,by rw[hb b rfl];exact h1,h2,λk y c hy hc=>⟨(h3 k y c hy hc).1,hq _ _ (h3 k y c hy hc).2⟩⟩
 | row x el n es=>
   obtain⟨xs,⟨h0,h1⟩,h2,h3⟩:=h;refine⟨xs,⟨h0,?_⟩,h2,λk y c hy hc=>⟨(h3 k y c hy hc).1,hq _ _ (h3 k y c hy hc).2⟩⟩;rcases h1 with h1|⟨g,cap,cur,e1,e2,e3,e4⟩
   ·exact .inl h1
   ·exact .inr ⟨g,cap,cur,e1,e2,by rw[hb g (by subst e1;rfl)];exact e3,e4⟩
 | tbox el b cells=>
   obtain⟨xs,h1,h2,h3⟩:=h;exact⟨xs,by rw[hb b rfl];exact h1,h2,λk y c hy hc=>⟨(h3 k y c hy hc).1,hq _ _ (h3 k y c hy hc).2⟩⟩
 | mrow x es=>
   obtain⟨b,ents,clock,rfl,h1,h2,h3,h4⟩:=h;exact⟨b,ents,clock,rfl,by rw[hb b rfl];exact h1,h2,h3,λk e c he hc=>hq _ _ (h4 k e c he hc)⟩
 | miter b cur left=>
   obtain⟨m,since,last,seen,h1,h2⟩:=h;exact⟨m,since,last,seen,by rw[hb b rfl];exact h1,hq _ _ h2⟩
 | raw k=>
   cases k with
   | mrs x es st clock=>
     obtain⟨b,ents,rfl,h1,h2,h3,h4⟩:=h;exact⟨b,ents,rfl,by rw[hb b rfl];exact h1,h2,h3,h4.1,λk e c he hc=>hq _ _ (h4.2 k e c he hc)⟩
   | mit b m x clock seen=>
     obtain⟨mb,rfl,h1⟩:=h;exact⟨mb,rfl,by rw[hb b rfl];exact h1⟩
 | iter b s pos=>
   have h:w.heap[b]? =some (.stringIter s pos):=h;show w'.heap[b]? =_;rw[hb b rfl];exact h
theorem ResOk.lt{Q:Value->D->Prop}{w:World}{r:Res}(h:ResOk Q w r){b:Nat}(hb:r.blk=some b):b<w.heap.size:=by
 cases r with
 | box b' cells=>
   obtain⟨xs,el,h1,_⟩:=h;cases hb;exact(qz3.1 h1).1
 | row x el n es=>
   obtain⟨xs,⟨_,h1⟩,_⟩:=h;rcases h1 with⟨rfl,_⟩|⟨g,cap,cur,rfl,_,e3,_⟩
   ·simp[Res.blk,Value.ownBlock]at hb
   ·simp[Res.blk,Value.ownBlock]at hb;subst hb;exact(qz3.1 e3).1
 | tbox el b' cells=>
   obtain⟨xs,h1,_⟩:=h;cases hb;exact(qz3.1 h1).1
 | mrow x es=>
   obtain⟨b',ents,clock,rfl,h1,_⟩:=h;cases hb;exact(qz3.1 h1).1
 | miter b' cur left=>
   obtain⟨m,since,last,seen,h1,_⟩:=h;cases hb;exact(qz3.1 h1).1
 | raw k=>
   cases k with
   | mrs x es st clock=>
     obtain⟨b',ents,rfl,h1,_⟩:=h;cases hb;exact(qz3.1 h1).1
   | mit b' m x clock seen=>
     obtain⟨mb,rfl,h1⟩:=h;cases hb;exact(qz3.1 h1).1
 | iter b' s pos=>
   have h:w.heap[b']? =some (.stringIter s pos):=h;cases hb;exact(qz3.1 h).1
def GlW(tp own:Nat->Prop)(w:World):Prop:=∀p∈ub,¬tp p.1/\ ¬own p.1/\∃(el:Nat) (z:Nat×Nat),w.heap[p.1]? =some (.cells p.2 el z)
def TpG(tp own:Nat->Prop)(w:World):Prop:=(∀b,tp b->b<w.heap.size)/\GlW tp own w
def GlW.mono{tp tp' own own':Nat->Prop}{w:World}(h:GlW tp own w)(h1:∀b,tp' b->tp b)(h2:∀b,own' b->own b):GlW tp' own' w:=λp hp=>
 ⟨λx=>(h p hp).1 (h1 _ x),λx=>(h p hp).2.1 (h2 _ x),(h p hp).2.2⟩
def TpG.mono{tp own own':Nat->Prop}{w:World}(h:TpG tp own w)(h2:∀b,own' b->own b):TpG tp own' w:=⟨h.1,h.2.mono (λ_ x=>x) h2⟩
def GlW.lt{tp own:Nat->Prop}{w:World}(h:GlW tp own w){p:Nat×Array Value}(hp:p∈ub):p.1<w.heap.size:=by
 obtain⟨_,_,el,z,hz⟩:=h p hp;exact(qz3.1 hz).1
def GlW.step{dq:Prop}{tp own:Nat->Prop}{w w':World}(h:GlW tp own w)(hs:Step dq tp own w w'):GlW tp own w':=λp hp=>by
 have hlt:=h.lt hp;obtain⟨h1,h2,el,z,hz⟩:=h p hp;exact⟨h1,h2,el,z,by rw[hs.same _ hlt h2 h1];exact hz⟩
structure AD where
 O:Nat->Prop
 tp0:Nat->Prop
 w0:World
 own0:Nat->Prop
 N:Nat
 ds:List Deferred:=[]
 dq:Prop:=True
structure StW (E:AD) (tp:Nat->Prop) (H:ab) (w:World):Prop where
 hO:∀b,E.O b->b<E.w0.heap.size
 tpx:∀b,E.tp0 b->tp b
 tpn:∀b,tp b->E.tp0 b\/E.w0.heap.size<=b
 tpl:(∀b,tp b->b<w.heap.size)/\GlW E.tp0 E.own0 E.w0
 step:Step E.dq E.tp0 E.own0 E.w0 w
 loc:∀b,bL H b->E.own0 b\/E.w0.heap.size<=b
 sat:qoK E.O tp H w
def StW.tpg{E:AD}{tp:Nat->Prop}{H:ab}{w:World}(h:StW E tp H w):TpG tp (bL H) w:=⟨h.tpl.1,λp hp=>by
 have hlt:=h.tpl.2.lt hp;obtain⟨h1,h2,el,z,hz⟩:=h.tpl.2.step h.step p hp;refine⟨λx=>?_,λx=>?_,el,z,hz⟩
 ·rcases h.tpn _ x with x|x
  ·exact h1 x
  ·omega
 ·rcases h.loc _ x with x|x
  ·exact h2 x
  ·omega⟩
theorem StW.move{E:AD}{tp tp':Nat->Prop}{H H':ab}{w w':World}(h:StW E tp H w)(hs:Step E.dq tp (bL H) w w')
 (ht:∀b,tp b->tp' b) (htn:∀b,tp' b->tp b\/w.heap.size<=b) (htl:∀b,tp' b->b<w'.heap.size)
 (hloc:∀b,bL H' b->bL H b\/w.heap.size<=b) (hsat:qoK E.O tp' H' w'):
 StW E tp' H' w'/\∀x d,R tp (bh E.O tp H w) w x d->R tp' (bh E.O tp' H' w') w' x d:=by
 have hw:E.w0.heap.size<=w.heap.size:=h.step.size;refine⟨⟨h.hO,λb hb=>ht b (h.tpx b hb),λb hb=>?_,⟨htl,h.tpl.2⟩,?_,λb hb=>?_,hsat⟩,λx d hr=>?_⟩
 ·rcases htn b hb with hb|hb
  ·exact h.tpn b hb
  ·exact .inr (qAx hw hb)
 ·refine⟨hs.os.trans h.step.os,hs.tape.trans h.step.tape,hs.output.trans h.step.output,qAx hw hs.size,λb hb ho htp=>?_,λb hb=>(h.step.tapes b hb).trans (hs.tapes b (h.tpx b hb)),λq=>qAx (h.step.drawn q) (hs.drawn q)⟩;rw[hs.same b (by omega) (λhown=>?_) (λhT=>?_)]
  ·exact h.step.same b hb ho htp
  ·rcases h.loc b hown with h1|h1
   ·exact ho h1
   ·omega
  ·rcases h.tpn b hT with h1|h1
   ·exact htp h1
   ·omega
 ·rcases hloc b hb with hb|hb
  ·exact h.loc b hb
  ·exact .inr (qAx hw hb)
 ·refine hr.mono ht (λb hb=>?_) hs.tapes;obtain⟨h1,h2,h3,h4⟩:=hb;refine⟨⟨qAj h1 hs.size,h2,λhT=>?_,λho=>?_⟩,hs.same b h1 h4 h3⟩
  ·rcases htn b hT with h5|h5
   ·exact h3 h5
   ·omega
  ·rcases hloc b ho with h5|h5
   ·exact h4 h5
   ·omega
def PY{H:ab}{id:Nat}{r':Option Res}{b:Nat}(h:bL (ai H id r') b):(∃r,r'=some r/\r.blk=some b)\/ ∃i r,i≠id/\H i=some r/\r.blk=some b:=by
 obtain⟨i,r,h1,h2⟩:=h;by_cases hi:i=id
 ·subst hi;simp[ai]at h1;exact .inl ⟨r,h1,h2⟩
 ·simp[ai,hi]at h1;exact .inr ⟨i,r,hi,h1,h2⟩
theorem StW.own{E:AD}{tp:Nat->Prop}{H:ab}{w w':World}{row:Option Nat}(h:StW E tp H w)(id:Nat)(r':Option Res)(hg:GrB w w' row)
 (hrow:∀b,row=some b->∃r,H id=some r/\r.blk=some b)
 (hblk:∀r b,r'=some r->r.blk=some b->w.heap.size<=b\/ ∃r0,H id=some r0/\r0.blk=some b)
 (hok:(∀x d,R tp (bh E.O tp H w) w x d->R tp (bh E.O tp (ai H id r') w') w' x d)->∀r,r'=some r->ResOk (R tp (bh E.O tp (ai H id r') w') w') w' r):
 StW E tp (ai H id r') w'/\∀x d,R tp (bh E.O tp H w) w x d->R tp (bh E.O tp (ai H id r') w') w' x d:=by
 have hw:E.w0.heap.size<=w.heap.size:=h.step.size;have rowOwn:∀b,row=some b->bL H b:=λb hb=>by obtain⟨r,h1,h2⟩:=hrow b hb;exact⟨id,r,h1,h2⟩
 have hloc:∀b,bL (ai H id r') b->bL H b\/w.heap.size<=b:=λb hb=>by
  rcases PY hb with⟨r,h1,h2⟩|⟨i,r,_,h1,h2⟩
  ·rcases hblk r b h1 h2 with h3|⟨r0,h3,h4⟩
   ·exact .inr h3
   ·exact .inl ⟨id,r0,h3,h4⟩
  ·exact .inl ⟨i,r,h1,h2⟩
 have sameImm:∀b,bh E.O tp H w b->bh E.O tp (ai H id r') w' b/\w'.heap[b]? =w.heap[b]?:=λb hb=>by
  obtain⟨h1,h2,h3,h4⟩:=hb;refine⟨⟨qAj h1 hg.size,h2,h3,λho=>?_⟩,hg.block b h1 (λe=>h4 (rowOwn b e.symm))⟩;rcases hloc b ho with h5|h5
  ·exact h4 h5
  ·omega
 have tapeSame:∀b,tp b->w'.heap[b]? =w.heap[b]?:=λb hb=>hg.block b (h.tpl.1 b hb) (λe=>by
  obtain⟨r,h1,h2⟩:=hrow b e.symm;exact(h.sat.out id r b h1 h2).2 hb)
 have move:∀x d,R tp (bh E.O tp H w) w x d->R tp (bh E.O tp (ai H id r') w') w' x d:=λx d hr=>
  hr.mono (λ_ h=>h) sameImm (λb hb=> .same (tapeSame b hb))
 have hstep:Step E.dq tp (bL H) w w':=⟨hg.os,hg.tape,hg.output,hg.size,λb hb ho _=>hg.block b hb (λe=>ho (rowOwn b e.symm)),λb hb=> .same (tapeSame b hb),λ_=>hg.drawn⟩
 refine h.move hstep (λ_ h=>h) (λ_ h=> .inl h) (λb hb=>qAj (h.tpl.1 b hb) hg.size) hloc ⟨?_,?_,?_⟩
 ·intro i j r s b hi hj hr hs;by_cases e1:i=id
  ·by_cases e2:j=id
   ·exact e1.trans e2.symm
   ·exfalso;subst e1;simp[ai]at hi;simp[ai,e2]at hj;rcases hblk r b hi hr with h3|⟨r0,h3,h4⟩
    ·have:=(h.sat.ok j s hj).lt hs;omega
    ·exact e2 (h.sat.dis _ _ _ _ b hj h3 hs h4)
  ·simp[ai,e1]at hi;by_cases e2:j=id
   ·exfalso;subst e2;simp[ai]at hj;rcases hblk s b hj hs with h3|⟨r0,h3,h4⟩
    ·have:=(h.sat.ok i r hi).lt hr;omega
    ·exact e1 (h.sat.dis _ _ _ _ b hi h3 hr h4)
   ·simp[ai,e2]at hj;exact h.sat.dis _ _ _ _ b hi hj hr hs
 ·intro i r b hi hr;by_cases e1:i=id
  ·subst e1;simp[ai]at hi;rcases hblk r b hi hr with h3|⟨r0,h3,h4⟩
   ·exact⟨λhO=>by have:=h.hO b hO;omega,λhT=>by have:=h.tpl.1 b hT;omega⟩
   ·exact h.sat.out _ r0 b h3 h4
  ·simp[ai,e1]at hi;exact h.sat.out _ r b hi hr
 ·intro i r hi;by_cases e1:i=id
  ·subst e1;simp[ai]at hi;exact hok move r hi
  ·simp[ai,e1]at hi;refine(h.sat.ok i r hi).conv move (λb hb=>hg.block b ((h.sat.ok i r hi).lt hb) (λe=>?_));obtain⟨r0,h3,h4⟩:=hrow b e.symm;exact e1 (h.sat.dis _ _ _ _ b hi h3 hb h4)
theorem StW.grow{E:AD}{tp:Nat->Prop}{H:ab}{w w':World}(h:StW E tp H w)(hg:GrB w w' none):
 StW E tp H w'/\∀x d,R tp (bh E.O tp H w) w x d->R tp (bh E.O tp H w') w' x d:=by
 have sameImm:∀b,bh E.O tp H w b->bh E.O tp H w' b/\w'.heap[b]? =w.heap[b]?:=λb hb=>
  ⟨⟨qAj hb.1 hg.size,hb.2⟩,hg.block b hb.1 (by simp)⟩
 have tapeSame:∀b,tp b->w'.heap[b]? =w.heap[b]?:=λb hb=>hg.block b (h.tpl.1 b hb) (by simp)
 have move:∀x d,R tp (bh E.O tp H w) w x d->R tp (bh E.O tp H w') w' x d:=λx d hr=>
  hr.mono (λ_ h=>h) sameImm (λb hb=> .same (tapeSame b hb))
 have hstep:Step E.dq tp (bL H) w w':=⟨hg.os,hg.tape,hg.output,hg.size,λb hb _ _=>hg.block b hb (by simp),λb hb=> .same (tapeSame b hb),λ_=>hg.drawn⟩
 refine h.move hstep (λ_ h=>h) (λ_ h=> .inl h) (λb hb=>qAj (h.tpl.1 b hb) hg.size) (λb hb=> .inl hb) ⟨h.sat.dis,h.sat.out,λi r hi=>?_⟩;exact(h.sat.ok i r hi).conv move (λb hb=>hg.block b ((h.sat.ok i r hi).lt hb) (by simp))
def SC(w:World)(row:Option Nat):GrB w w.drew row:=⟨⟨rfl,rfl,rfl,qz2 _,λ_ _ _=>rfl⟩,qBe _⟩
def ga(w:World)(row:Option Nat):GrB w w row:=⟨⟨rfl,rfl,rfl,qz2 _,λ_ _ _=>rfl⟩,qz2 _⟩
abbrev Sg:=Nat->D
def upd(σ:Sg)(t:Nat)(d:D):Sg:=λs=>if s=t then d else σ s
def St(E:AD)(σ:Sg)(H:ab)(a:Act)(w:World):Prop:=
 a.defers=E.ds/\a.tmps.size=E.N/\∃tp,StW E tp H w/\∀t,R tp (bh E.O tp H w) w (a.tmps.getD t undef) (σ t)
def fq(σ:Sg)(t:Option Nat)(d:D):Sg:=match t with|some t=>upd σ t d|none=>σ
def qiT{N:Nat}{a:Act}{σ:Sg}{Q:Value->D->Prop}(hN:a.tmps.size=N)(hr:∀t,Q (a.tmps.getD t undef) (σ t))(dst:Option Nat)(hd:∀t,dst=some t->t<N){x:Value}{d:D}(hx:Q x d):
 ∀t,Q ((a.put dst x).tmps.getD t undef) (fq σ dst d t):=by
 intro t;cases dst with
 |none=>exact hr t
 | some s=>
   have hs:=hd s rfl;simp only[Act.put,fq,upd];by_cases e:t=s
   ·subst e;simp[qAv,hN,hs];exact hx
   ·have e':¬s=t:=λh=>e h.symm
    simp only[qAv,qBj,e',e,if_false];have:=hr t;rw[qAv]at this;exact this
def YM(a:Act)(dst:Option Nat)(x:Value):(a.put dst x).defers=a.defers:=by cases dst<;>rfl
def qe0(a:Act)(dst:Option Nat)(x:Value):(a.put dst x).tmps.size=a.tmps.size:=by cases dst<;>simp[Act.put]
def St.put{E:AD}{σ:Sg}{H H':ab}{a:Act}{w':World}{tp':Nat->Prop}{tp:Nat->Prop}{w:World}(hd:a.defers=E.ds)(hN:a.tmps.size=E.N)
 (hr:∀t,R tp (bh E.O tp H w) w (a.tmps.getD t undef) (σ t))
 (hm:StW E tp' H' w'/\∀x d,R tp (bh E.O tp H w) w x d->R tp' (bh E.O tp' H' w') w' x d) (dst:Option Nat) (hdst:∀t,dst=some t->t<E.N) {x:Value} {d:D}
 (hx:R tp' (bh E.O tp' H' w') w' x d):St E (fq σ dst d) H' (a.put dst x) w':=
 ⟨by rw[YM];exact hd,by rw[qe0];exact hN,tp',hm.1,qiT hN (λt=>hm.2 _ _ (hr t)) dst hdst hx⟩
end Go.Gv
