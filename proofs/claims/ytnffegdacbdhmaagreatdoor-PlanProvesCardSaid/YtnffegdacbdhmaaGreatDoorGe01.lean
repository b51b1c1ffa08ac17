/- A -/
import Derived.WalkKit
import Derived.Orders
import Derived.Below
import Derived.Laws.BytesString
set_option linter.all false
namespace Go.Gv
section
def i' {α:Sort _} (a:α):α:=a
def qFA:=@Option.bind_eq_some_iff
def qFB:=@List.getElem?_eq_some_iff
def qFC:=@List.getElem?_eq_getElem
def qFD:=@Option.bind_eq_bind
def qFE:=@Nat.le_of_ble_eq_true
def qFF:=@List.mem_of_getElem?
def qFG:=@List.mem_append
def qFH:=@Nat.le_refl
def qFI:=@List.all_eq_true
def qFJ:=@Bool.and_eq_true
def qFK:=@List.mem_cons
def qFL:=@List.mem_map
def qFM:=@Option.map_eq_some_iff
def qFN:=@Array.getElem?_eq_some_iff
def qFO:=@Option.some.inj
def qFP:=@List.getElem?_map
def qFQ:=@Option.some.injEq
def qFR:=@Result.andThen_ok
def qFS:=@Nat.lt_of_lt_of_le
def qFT:=@List.take_length
def qFU:=@List.eq_nil_of_length_eq_zero
def qFV:=@List.getElem?_eq_none
def qFW:=@Option.bind_some
def qFX:=@List.getElem?_take
def qFY:=@Nat.zero_le
def qFZ:=@Array.getElem?_toList
def qF0:=@Sem.run_bind
def qF1:=@List.mem_of_mem_take
def qF2:=@Nat.mul_le_mul_right
def qF3:=@List.mem_iff_getElem?
def qF4:=@List.getElem?_append_right
def qF5:=@List.length_append
def qF6:=@List.map_cons
def qF7:=@List.length_take
def qF8:=@List.cons.injEq
def qF9:=@Sem.run_pure
def qGa:=@List.take_append_drop
def qGb:=@Bool.eq_iff_iff
def qGc:=@List.getElem?_append_left
def qGd:=@List.not_mem_nil
def qGe:=@Array.getElem?_eq_getElem
def qGf:=@List.flatMap_cons
def qGg:=@Nat.le_trans
def qGh:=@List.drop_eq_getElem_cons
def qGi:=@List.length_cons
def qGj:=@List.ext_getElem?
def qGk:=@List.cons_append
def qGl:=@List.length_map
def qGm:=@Array.length_toList
def qGn:=@Nat.zero_add
def qGo:=@List.length_eq_zero_iff
def qGp:=@Option.getD_some
def qGq:=@List.mapM_cons
def qGr:=@List.drop_length
def qGs:=@List.pairwise_append
def qGt:=@Bool.false_eq_true
def qGu:=@Array.getD_eq_getD_getElem?
def qGv:=@Array.getElem?_append_left
def qGw:=@List.mem_of_mem_drop
def qGx:=@List.getElem?_drop
def qGy:=@List.take_of_length_le
def qGz:=@List.nil_append
def qGA:=@List.mem_filter
def qGB:=@Option.isSome_iff_exists
def qGC:=@List.foldl_cons
def qGD:=@Int.le_refl
def qGE:=@List.pairwise_iff_getElem
def qGF:=@List.map_congr_left
def qGG:=@Nat.succ_mul
def qGH:=@List.getElem?_set_self
def qGI:=@Array.getElem?_eq_none
def qGJ:=@List.append_assoc
def qGK:=@List.take_add_one
def qGL:=@List.mem_or_eq_of_mem_set
def qGM:=@List.nodup_cons
def qGN:=@Nat.add_zero
def qGO:=@List.length_drop
def qGP:=@List.any_eq_true
def qGQ:=@List.mem_range
def qGR:=@List.append_nil
def qGS:=@List.drop_eq_nil_of_le
def qGT:=@List.mem_singleton
def qGU:=@Nat.eq_zero_or_pos
def qGV:=@Nat.le_succ
def qGW:=@Nat.div_add_mod
def qGX:=@List.map_nil
def qGY:=@Bool.eq_false_iff
def qGZ:=@Iff.rfl
def qG0:=@List.mem_flatMap
def qG1:=@List.getElem_mem
def qG2:=@List.nodup_nil
def qG3:=@Nat.mod_lt
def qG4:=@List.length_eq_one_iff
def qG5:=@List.pairwise_cons
def qG6:=@Code.wp_mono
def qG7:=@Option.map_none
def qG8:=@Option.map_some
def qG9:=@List.size_toArray
def qHa:=@World.ownsRow_nil
def qHb:=@Nat.add_mul
def qHc:=@Int.mul_nonneg
def qHd:=@List.filter_eq_self
def qHe:=@List.getElem?_range
def qHf:=@List.getElem?_cons_succ
def qHg:=@Bool.true_and
def qHh:=@UInt8.toNat_ofNat'
def qHi:=@Bool.not_eq_true'
def qHj:=@List.nodup_append
def qHk:=@List.length_replicate
def qHl:=@List.take_zero
def qHm:=@World.cell?_of_block
def qHn:=@List.mem_cons_of_mem
def qHo:=@List.all_cons
def qHp:=@ByteArray.toList_eq
def qHq:=@List.length_nil
def qHr:=@List.rel_of_pairwise_cons
def qHs:=@List.map_append
def qHt:=@Nat.sub_self
def qHu:=@List.filter_append
def qHv:=@List.map_set
def qHw:=@Nat.mul_comm
def qHx:=@Nat.le_mul_of_pos_right
def qHy:=@Nat.add_sub_cancel_left
def qHz:=@List.getElem?_cons_zero
def qHA:=@List.pairwise_map
def qHB:=@List.foldl_append
def qHC:=@List.set_eq_take_append_cons_drop
def qHD:=@Array.getElem?_extract
def qHE:=@List.drop_nil
def qHF:=@List.range'_succ
def qHG:=@List.ext_getElem
def qHH:=@List.filter_cons
def qHI:=@Array.getElem?_modify
def qHJ:=@List.range_eq_range'
def qHK:=@List.getElem?_set_ne
def qHL:=@Nat.div_lt_of_lt_mul
def qHM:=@World.grownBy_alloc
def qHN:=@List.flatMap_append
def qHO:=@Nat.mul_le_mul
def qHP:=@List.append_of_mem
def qHQ:=@Nat.add_sub_cancel
def qHR:=@Nat.add_assoc
def qHS:=@List.take_nil
def qHT:=@Prod.mk.injEq
def qHU:=@Int.toNat_natCast
def qHV:=@Nat.lt_trichotomy
def qHW:=@List.eq_of_mem_replicate
def qHX:=@RowKit.Below.heap_alloc
def qHY:=@Classical.axiomOfChoice
def qHZ:=@List.any_eq_not_all_not
def qH0:=@List.length_set
def qH1:=@Value.int.injEq
def qH2:=@Nat.lt_irrefl
def qH3:=@List.replicate_zero
def qH4:=@List.replicate_succ
def qH5:=@List.filter_sublist
def qH6:=@List.take_succ_cons
def qH7:=@List.getElem_of_mem
def qH8:=@List.mem_cons_self
def qH9:=@List.find?_eq_none
def qIa:=@Array.size_append
def qIb:=@List.flatten_cons
def qIc:=@ByteArray.ext_iff
def qId:=@Value.tuple.injEq
def qIe:=@Array.all_eq_true
def qIf:=@Nat.succ_le_of_lt
inductive D where
 |any
 |undef
 |v (x:Value)
 |agg (cs:List D)
 |list (n:Nat) (es:List D)
 |cptr (cs:List D) (off:Nat)
 |bptr (id b off:Nat)
 |own (id:Nat) (x:Value)
 |eptr (id:Nat) (x:Value) (n i off:Nat)
 |sub (id:Nat) (x:Value) (n lo hi:Nat)
 |tape (L:List Int)
 |clo (f:Nat) (caps:List D)
 |tup (ds:List D)
 |mp (es:List D)
 |mst (cur es:List D)
def D.cells:D->List D
 | .agg cs=>cs
 |d=>[d]
def D.kn:D->Bool
 | .any| .undef| .tup _| .mst _ _=>false
 | _=>true
def bp(es:List D):List D:=es.flatMap D.cells
def slen:Value->Nat
 | .slice _ n _=>n
 | _=>0
def PlainB(w:World)(b:Nat):Prop:=∃(xs:Array Value) (el:Nat),w.heap[b]? =some (.cells xs el (0,0))
def PA(m:Option Nat)(since:Nat)(seen:Array Nat)(last:Nat):Value:= .tuple #[.map m, .int .i64 since, .agg (seen.map λ(n:Nat)=> .int .i64 n), .int .i64 last]
def jJ(es:Array MapEntry)(seen:Array Nat):List MapEntry:=es.toList.filter λe=>!seen.contains e.born
def ga(es:Array MapEntry)(clock:Nat):Prop:=(∀e∈es.toList,e.born<clock)/\(es.toList.map (·.born)).Nodup
inductive R (tp I:Nat->Prop) (w:World):Value->D->Prop
 |any (x:Value):R tp I w x .any
 |undef:R tp I w Go.undef .undef
 |v (x:Value) (h:x.oneCell'=true) (hs:∀s,x= .string s->s.size<=maxLen):R tp I w x (.v x)
 | agg (xs:List Value) (cs:List D) (hl:xs.length=cs.length) (h1:∀x∈xs,x.oneCell'=true)
    (h:∀(k:Nat) (x:Value) (c:D),xs[k]? =some x->cs[k]? =some c->R tp I w x c):R tp I w (.agg xs.toArray) (.agg cs)
 |nolist (a:Option Addr) (cap n:Nat):R tp I w (.slice a 0 cap) (.list n [])
 | list (b off cap n:Nat) (es:List D) (f:Nat->Value) (hI:I b) (hc:es.length<=cap) (hm:cap<=maxLen)
    (hz:n≠1->PlainB w b) (hn:∀d∈es,d.kn=true/\d.cells.length=n)
    (hcell:∀(k:Nat) (c:D),(bp es)[k]? =some c->w.cell? ⟨b,off+k,none⟩=some (f k))
    (h1:∀(k:Nat) (c:D),(bp es)[k]? =some c->(f k).oneCell'=true)
    (h:∀(k:Nat) (c:D),(bp es)[k]? =some c->R tp I w (f k) c):R tp I w (.slice (some ⟨b,off,none⟩) es.length cap) (.list n es)
 | cptr (b base:Nat) (cs:List D) (off:Nat) (f:Nat->Value) (hI:I b) (hz:cs.length≠1->PlainB w b)
    (hcell:∀(k:Nat) (c:D),cs[k]? =some c->w.cell? ⟨b,base+k,none⟩=some (f k))
    (h1:∀(k:Nat) (c:D),cs[k]? =some c->(f k).oneCell'=true)
    (h:∀(k:Nat) (c:D),cs[k]? =some c->R tp I w (f k) c):R tp I w (.pointer (some ⟨b,base+off,none⟩)) (.cptr cs off)
 |bptr (id b off:Nat):R tp I w (.pointer (some ⟨b,off,none⟩)) (.bptr id b off)
 |own (id:Nat) (x:Value) (h:x.oneCell'=true):R tp I w x (.own id x)
 |eptr (id:Nat) (b len cap n i off:Nat):R tp I w (.pointer (some ⟨b,i*n+off,none⟩)) (.eptr id (.slice (some ⟨b,0,none⟩) len cap) n i off)
 |subnil (id n:Nat):R tp I w (.slice none 0 0) (.sub id (.slice none 0 0) n 0 0)
 | sub (id b len cap n lo hi:Nat) (p:Option Addr) (h1:lo<=hi) (h2:hi<=len) (h3:len<=cap) (hm:cap<=maxLen) (hp:lo<cap\/lo=0->p=some ⟨b,lo*n,none⟩):
    R tp I w (.slice p (hi -lo) (cap -lo)) (.sub id (.slice (some ⟨b,0,none⟩) len cap) n lo hi)
 | tape (b:Nat) (L:List Int) (s:Value) (i:Int) (el:Nat) (hb:tp b) (hh:w.heap[b]? =some (.cells #[s, .int .i64 i] el (0,0)))
    (h0:0<=i) (h1:i<=slen s) (hs:slen s=L.length) (h:R tp I w s (.list 1 (L.map λn=> .v (.int .i64 n)))):R tp I w (.pointer (some ⟨b,0,none⟩)) (.tape L)
 | clo (f:Nat) (xs:List Value) (caps:List D) (hl:xs.length=caps.length)
    (h:∀(k:Nat) (x:Value) (c:D),xs[k]? =some x->caps[k]? =some c->R tp I w x c):R tp I w (.func (.func f) #[] xs.toArray) (.clo f caps)
 | tup (xs:List Value) (ds:List D) (hl:xs.length=ds.length)
    (h:∀(k:Nat) (x:Value) (c:D),xs[k]? =some x->ds[k]? =some c->R tp I w x c):R tp I w (.tuple xs.toArray) (.tup ds)
 |nomp:R tp I w (.map none) (.mp [])
 | mp (b:Nat) (es:Array MapEntry) (clock:Nat) (ds:List D) (hI:I b) (hh:w.heap[b]? =some (.map es clock)) (hl:es.size=ds.length) (hb:ga es clock)
    (h:∀(k:Nat) (e:MapEntry) (c:D),es[k]? =some e->ds[k]? =some c->R tp I w (.tuple #[e.key,e.val]) c):R tp I w (.map (some b)) (.mp ds)
 |nomst (since last:Nat) (seen:Array Nat):R tp I w (PA none since seen last) (.mst [] [])
 | mst (b:Nat) (es:Array MapEntry) (clock since last:Nat) (seen:Array Nat) (ce:MapEntry) (cur ds:List D) (hI:I b) (hh:w.heap[b]? =some (.map es clock)) (hb:ga es clock)
    (hs:∀e∈es.toList,e.born<since) (hsl:since<=last/\since<=clock) (hl:(jJ es seen).length=ds.length)
    (hc:cur=[]\/(cur.length=1/\seen.back? =some ce.born/\ce∈es.toList/\last=clock)) (hcr:∀c,cur=[c]->R tp I w (.tuple #[ce.key,ce.val]) c)
    (h:∀(k:Nat) (e:MapEntry) (c:D),(jJ es seen)[k]? =some e->ds[k]? =some c->R tp I w (.tuple #[e.key,e.val]) c):R tp I w (PA (some b) since seen last) (.mst cur ds)
def TapeStep(w w':World)(b:Nat):Prop:=
 ∀ (s:Value) (i:Int) (el:Nat),w.heap[b]? =some (.cells #[s, .int .i64 i] el (0,0))->0<=i->i<=slen s->
  ∃(j:Int) (a:Nat),w'.heap[b]? =some (.cells #[s, .int .i64 j] a (0,0))/\0<=j/\j<=slen s
def TapeStep.refl(w:World)(b:Nat):TapeStep w w b:=λ_ i el h h0 h1=>⟨i,el,h,h0,h1⟩
def TapeStep.same{w w':World}{b:Nat}(h:w'.heap[b]? =w.heap[b]?):TapeStep w w' b:=λ_ i el hh h0 h1=>⟨i,el,h ▸hh,h0,h1⟩
def TapeStep.trans{w a c:World}{b:Nat}(h:TapeStep w a b)(k:TapeStep a c b):TapeStep w c b:=λs i el hh h0 h1=>by
 grind [TapeStep]
def PlainB.same{w w':World}{b:Nat}(h:PlainB w b)(e:w'.heap[b]? =w.heap[b]?):PlainB w' b:=by
 grind [PlainB]
theorem R.mono{tp I r y:Nat->Prop}{w w':World}{x:Value}{d:D}(h:R tp I w x d)(A:∀b,tp b->r b)
 (hI:∀b,I b->y b/\w'.heap[b]? =w.heap[b]?) (C:∀b,tp b->TapeStep w w' b):R r y w' x d:=by
 induction h with
 |any x=>exact .any x
 |undef=>exact .undef
 |v x h hs=>exact .v x h hs
 |agg xs cs hl h1 _ q=>exact .agg xs cs hl h1 q
 |nolist a cap n=>exact .nolist a cap n
 | list b off cap n es f l hc hm hz hn hcell h1 _ q=>
   exact .list b off cap n es f (hI b l).1 hc hm (λh=>(hz h).same (hI b l).2) hn (λk c hk=>by grind [TapeStep,PlainB,D.kn,qHm]) h1 q
 | cptr b base cs off f l hz hcell h1 _ q=>
   exact .cptr b base cs off f (hI b l).1 (λh=>(hz h).same (hI b l).2) (λk c hk=>by grind [TapeStep,PlainB,qHm]) h1 q
 |bptr id b off=>exact .bptr id b off
 |own id x h=>exact .own id x h
 |eptr id b len cap n i off=>exact .eptr id b len cap n i off
 |subnil id n=>exact .subnil id n
 |sub id b len cap n lo hi p h1 h2 h3 hm hp=>exact .sub id b len cap n lo hi p h1 h2 h3 hm hp
 | tape b L s i el hb hh h0 h1 hs _ q=>
   obtain⟨j,t,a1,a2,a3⟩:=C b hb s i el hh h0 h1;exact .tape b L s j t (A b hb) a1 a2 a3 hs q
 |clo f xs caps hl _ q=>exact .clo f xs caps hl q
 |tup xs ds hl _ q=>exact .tup xs ds hl q
 |nomp=>exact .nomp
 |mp b es clock ds l hh hl hb _ q=>exact .mp b es clock ds (hI b l).1 ((hI b l).2.trans hh) hl hb q
 |nomst since last seen=>exact .nomst since last seen
 |mst b es clock since last seen ce cur ds l hh hb hs hsl hl hc _ _ u q=>exact .mst b es clock since last seen ce cur ds (hI b l).1 ((hI b l).2.trans hh) hb hs hsl hl hc u q
theorem R.cells{tp I:Nat->Prop}{w:World}{x:Value}{d:D}(h:R tp I w x d)(hk:d.kn=true):
 x.cells.toList.length=d.cells.length/\∀(k:Nat) (y:Value) (c:D),x.cells.toList[k]? =some y->d.cells[k]? =some c->y.oneCell'=true/\R tp I w y c:=by
 have one:∀(y:Value) (e:D),y.oneCell'=true->e.cells=[e]->y.cells= #[y]->R tp I w y e->
  y.cells.toList.length=e.cells.length/\∀(k:Nat) (z:Value) (c:D),y.cells.toList[k]? =some z->e.cells[k]? =some c->z.oneCell'=true/\R tp I w z c:=by
  grind
 have j:∀y:Value,y.oneCell'=true->y.cells= #[y]:=by
  intro y q;cases y<;>first|rfl|grind [Value.oneCell']
 cases h with
 |any x=>grind [D.kn]
 |undef=>grind [D.kn]
 |tup xs ds hl h=>grind [D.kn]
 |nomst=>grind [D.kn]
 |mst=>grind [ga,D.kn]
 |nomp=>exact one _ _ rfl rfl rfl .nomp
 |mp b es clock ds l hh hl hb h=>exact one _ _ rfl rfl rfl (.mp b es clock ds l hh hl hb h)
 | agg xs cs hl h1 h=>
   refine⟨hl,λk y c q hc=>⟨h1 y (qFF q),h k y c q hc⟩⟩
 |v x h hs=>exact one _ _ h rfl (j _ h) (.v x h hs)
 |own id x h=>exact one _ _ h rfl (j _ h) (.own id x h)
 |nolist a cap n=>exact one _ _ rfl rfl rfl (.nolist a cap n)
 |list b off cap n es f l hc hm hz hn hcell h1 h=>exact one _ _ rfl rfl rfl (.list b off cap n es f l hc hm hz hn hcell h1 h)
 |cptr b base cs off f l hz hcell h1 h=>exact one _ _ rfl rfl rfl (.cptr b base cs off f l hz hcell h1 h)
 |bptr id b off=>exact one _ _ rfl rfl rfl (.bptr id b off)
 |eptr id b len cap n i off=>exact one _ _ rfl rfl rfl (.eptr id b len cap n i off)
 |subnil id n=>exact one _ _ rfl rfl rfl (.subnil id n)
 |sub id b len cap n lo hi p h1 h2 h3 hm hp=>exact one _ _ rfl rfl rfl (.sub id b len cap n lo hi p h1 h2 h3 hm hp)
 |tape b L s i el hb hh h0 h1 hs h=>exact one _ _ rfl rfl rfl (.tape b L s i el hb hh h0 h1 hs h)
 |clo f xs caps hl h=>exact one _ _ rfl rfl rfl (.clo f xs caps hl h)
def dY{n:Nat} :∀{es:List D},(∀d∈es,d.cells.length=n)->∀{i j:Nat},j<n->(bp es)[i*n+j]? =(es[i]?).bind λd=>d.cells[j]?
 | [],_,i,j,_=>by rfl
 | d::es,h,0,j,a=>by
   simp_all [bp,qGc]
 | d::es,h,i+1,j,a=>by
   have b:=h d (by simp);have c:=dY (es:=es) (λd b=>h d (by grind)) (i:=i) a;grind [bp]
def bh{n:Nat} :∀{es:List D},(∀d∈es,d.cells.length=n)->(bp es).length=es.length*n
 | [],_=>by simp[bp]
 | d::es,h=>by
   have a:=bh (es:=es) (λd b=>h d (by grind));grind [bp]
def ub(a b:List D):bp (a++b)=bp a++bp b:=by simp[bp]
def lg:List (Nat×Array Value):=[]
inductive qFv where
 |mrs (x:Value) (es:List D) (st:List Nat) (clock:Nat)
 |mit (b m:Nat) (x:Value) (clock:Nat) (seen:List Nat)
inductive Res where
 |box (b:Nat) (cells:List D)
 |row (x:Value) (el n:Nat) (es:List D)
 |iter (b:Nat) (s:ByteArray) (pos:Nat)
 |tbox (el b:Nat) (cells:List D)
 |mrow (x:Value) (es:List D)
 |miter (b:Nat) (cur left:List D)
 |raw (r:qFv)
def Res.blk:Res->Option Nat
 | .box b _=>some b
 | .row x _ _ _=>x.ownBlock
 | .iter b _ _=>some b
 | .tbox _ b _=>some b
 | .mrow x _=>match x with| .map m=>m|_=>none
 | .miter b _ _=>some b
 | .raw (.mrs x _ _ _)=>match x with| .map m=>m|_=>none
 | .raw (.mit b _ _ _ _)=>some b
abbrev ab:=Nat->Option Res
def ai(H:ab)(id:Nat)(r:Option Res):ab:=λi=>if i=id then r else H i
def bA(H:ab)(b:Nat):Prop:=∃i r,H i=some r/\r.blk=some b
def aR(O tp:Nat->Prop)(H:ab)(w:World)(b:Nat):Prop:=b<w.heap.size/\ ¬O b/\ ¬tp b/\ ¬bA H b
def ba(Q:Value->D->Prop)(xs:List Value)(cs:List D):Prop:=
 ∀(k:Nat) (y:Value) (c:D),xs[k]? =some y->cs[k]? =some c->y.oneCell'=true/\Q y c
def Cs(Q:Value->D->Prop)(es:Array MapEntry)(ds:List D):Prop:=
 es.size=ds.length/\∀(k:Nat) (e:MapEntry) (c:D),es[k]? =some e->ds[k]? =some c->Q (.tuple #[e.key,e.val]) c
def ResOk(Q:Value->D->Prop)(w:World):Res->Prop
 | .box b cells=>∃(xs:Array Value) (el:Nat),w.heap[b]? =some (.cells xs el (0,0))/\xs.size=cells.length/\ba Q xs.toList cells
 | .iter b s pos=>w.heap[b]? =some (.stringIter s pos)
 | .tbox el b cells=>∃xs:Array Value,w.heap[b]? =some (.cells xs el (0,0))/\xs.size=cells.length/\ba Q xs.toList cells
 | .mrow x es=>∃(b:Nat) (a:Array MapEntry) (clock:Nat),x= .map (some b)/\w.heap[b]? =some (.map a clock)/\ga a clock/\Cs Q a es
 | .miter b cur left=>∃(m:Option Nat) (since last:Nat) (seen:Array Nat),w.heap[b]? =some (.mapIter m since seen last)/\Q (PA m since seen last) (.mst cur left)
 | .raw (.mrs x es st clock)=>∃(b:Nat) (a:Array MapEntry),x= .map (some b)/\w.heap[b]? =some (.map a clock)/\ga a clock/\a.toList.map (·.born)=st/\Cs Q a es
 | .raw (.mit b _ x clock seen)=>∃c,x= .map (some c)/\w.heap[b]? =some (.mapIter (some c) clock seen.toArray clock)
 | .row x el n es=>∃xs:List Value,w.ownsRow 0 el n x es.length xs/\(∀d∈es,d.kn=true/\d.cells.length=n)/\ba Q xs (bp es)
structure qtL (O tp:Nat->Prop) (H:ab) (w:World):Prop where
 dis:∀i j r s b,H i=some r->H j=some s->r.blk=some b->s.blk=some b->i=j
 out:∀i r b,H i=some r->r.blk=some b->¬O b/\ ¬tp b
 ok:∀i r,H i=some r->ResOk (R tp (aR O tp H w) w) w r
structure GrB (w w':World) (row:Option Nat):Prop extends World.grownBy w w' row where
 drawn:w.drawn<=w'.drawn
def GrB.alloc(w:World)(o:Obj)(row:Option Nat):GrB w (w.alloc o) row:=⟨qHM w o row,qFH _⟩
structure Step (dq:Prop) (tp own:Nat->Prop) (w w':World):Prop where
 os:w'.os=w.os
 tape:w'.tape=w.tape
 output:w'.output=w.output
 size:w.heap.size<=w'.heap.size
 same:∀b,b<w.heap.size->¬own b->¬tp b->w'.heap[b]? =w.heap[b]?
 tapes:∀b,tp b->TapeStep w w' b
 drawn:dq->w.drawn<=w'.drawn
def Step.refl{dq:Prop}(tp own:Nat->Prop)(w:World):Step dq tp own w w:=⟨rfl,rfl,rfl,qFH _,λ_ _ _ _=>rfl,λ_ _=> .refl _ _,λ_=>qFH _⟩
theorem ResOk.conv{Q p:Value->D->Prop}{w w':World}{r:Res}(h:ResOk Q w r)(l:∀x d,Q x d->p x d)(hb:∀b,r.blk=some b->w'.heap[b]? =w.heap[b]?):ResOk p w' r:=by
 cases r with
 | box b cells=>
   obtain⟨xs,el,h1,h2,h3⟩:=h;exact⟨xs,el,by rw[hb b rfl];omega,h2,λk y c j hc=>⟨(h3 k y c j hc).1,l _ _ (h3 k y c j hc).2⟩⟩
 | row x el n es=>
   obtain⟨xs,⟨h0,h1⟩,h2,h3⟩:=h;refine⟨xs,⟨h0,?_⟩,h2,λk y c j hc=>⟨(h3 k y c j hc).1,l _ _ (h3 k y c j hc).2⟩⟩;rcases h1 with h1|⟨g,cap,cur,q,t,C,u⟩;grind
   ·exact .inr ⟨g,cap,cur,q,t,by rw[hb g (by subst q;rfl)];omega,u⟩
 | tbox el b cells=>
   obtain⟨xs,h1,h2,h3⟩:=h;exact⟨xs,by rw[hb b rfl];omega,h2,λk y c j hc=>⟨(h3 k y c j hc).1,l _ _ (h3 k y c j hc).2⟩⟩
 | mrow x es=>
   obtain⟨b,a,clock,rfl,h1,h2,h3,h4⟩:=h;exact⟨b,a,clock,rfl,by rw[hb b rfl];omega,h2,h3,λk e c he hc=>l _ _ (h4 k e c he hc)⟩
 | miter b cur left=>
   obtain⟨m,since,last,seen,h1,h2⟩:=h;exact⟨m,since,last,seen,by rw[hb b rfl];omega,l _ _ h2⟩
 | raw k=>
   cases k with
   | mrs x es st clock=>
     obtain⟨b,a,rfl,h1,h2,h3,h4⟩:=h;exact⟨b,a,rfl,by rw[hb b rfl];omega,h2,h3,h4.1,λk e c he hc=>l _ _ (h4.2 k e c he hc)⟩
   | mit b m x clock seen=>
     obtain⟨A,rfl,h1⟩:=h;exact⟨A,rfl,by rw[hb b rfl];omega⟩
 | iter b s pos=>
   have h:w.heap[b]? =some (.stringIter s pos):=h;show w'.heap[b]? =_;rw[hb b rfl];exact h
def ResOk.lt{Q:Value->D->Prop}{w:World}{r:Res}(h:ResOk Q w r){b:Nat}(hb:r.blk=some b):b<w.heap.size:=by
 cases r with
 | box b' cells=>
   grind [ResOk,Res.blk]
 | row x el n es=>
   obtain⟨xs,⟨_,h1⟩,_⟩:=h;grind [Res.blk,Value.ownBlock]
 | tbox el b' cells=>
   grind [ResOk,Res.blk]
 | mrow x es=>
   grind [ResOk,Res.blk]
 | miter b' cur left=>
   grind [ResOk,Res.blk]
 | raw k=>
   cases k<;>grind [ResOk,Res.blk]
 | iter b' s pos=>
   have h:w.heap[b']? =some (.stringIter s pos):=h;grind [Res.blk]
def GlW(tp own:Nat->Prop)(w:World):Prop:=∀p∈lg,¬tp p.1/\ ¬own p.1/\∃(el:Nat) (z:Nat×Nat),w.heap[p.1]? =some (.cells p.2 el z)
def TpG(tp own:Nat->Prop)(w:World):Prop:=(∀b,tp b->b<w.heap.size)/\GlW tp own w
def GlW.mono{tp c own a:Nat->Prop}{w:World}(h:GlW tp own w)(h1:∀b,c b->tp b)(h2:∀b,a b->own b):GlW c a w:=λp hp=>
 ⟨λx=>(h p hp).1 (h1 _ x),λx=>(h p hp).2.1 (h2 _ x),(h p hp).2.2⟩
def TpG.mono{tp own a:Nat->Prop}{w:World}(h:TpG tp own w)(h2:∀b,a b->own b):TpG tp a w:=⟨h.1,h.2.mono (λ_ x=>x) h2⟩
def GlW.lt{tp own:Nat->Prop}{w:World}(h:GlW tp own w){p:Nat×Array Value}(hp:p∈lg):p.1<w.heap.size:=by
 grind [GlW]
def GlW.step{dq:Prop}{tp own:Nat->Prop}{w w':World}(h:GlW tp own w)(hs:Step dq tp own w w'):GlW tp own w':=λp hp=>by
 grind [GlW,Step]
structure CO where
 O:Nat->Prop
 tp0:Nat->Prop
 w0:World
 own0:Nat->Prop
 N:Nat
 ds:List Deferred:=[]
 dq:Prop:=True
structure StW (E:CO) (tp:Nat->Prop) (H:ab) (w:World):Prop where
 hO:∀b,E.O b->b<E.w0.heap.size
 tpx:∀b,E.tp0 b->tp b
 tpn:∀b,tp b->E.tp0 b\/E.w0.heap.size<=b
 tpl:(∀b,tp b->b<w.heap.size)/\GlW E.tp0 E.own0 E.w0
 step:Step E.dq E.tp0 E.own0 E.w0 w
 loc:∀b,bA H b->E.own0 b\/E.w0.heap.size<=b
 sat:qtL E.O tp H w
def StW.tpg{E:CO}{tp:Nat->Prop}{H:ab}{w:World}(h:StW E tp H w):TpG tp (bA H) w:=⟨h.tpl.1,λp hp=>by
 have a:=h.tpl.2.lt hp;obtain⟨h1,h2,el,z,hz⟩:=h.tpl.2.step h.step p hp;refine⟨λx=>?_,λx=>?_,el,z,hz⟩
 ·rcases h.tpn _ x with x|x;grind;omega
 ·rcases h.loc _ x with x|x;grind;omega⟩
theorem StW.move{E:CO}{tp a:Nat->Prop}{H H':ab}{w w':World}(h:StW E tp H w)(hs:Step E.dq tp (bA H) w w')
 (s:∀b,tp b->a b) (l:∀b,a b->tp b\/w.heap.size<=b) (p:∀b,a b->b<w'.heap.size)
 (c:∀b,bA H' b->bA H b\/w.heap.size<=b) (j:qtL E.O a H' w'):
 StW E a H' w'/\∀x d,R tp (aR E.O tp H w) w x d->R a (aR E.O a H' w') w' x d:=by
 have u:E.w0.heap.size<=w.heap.size:=h.step.size;refine⟨⟨h.hO,λb hb=>s b (h.tpx b hb),λb hb=>?_,⟨p,h.tpl.2⟩,?_,λb hb=>?_,j⟩,λx d y=>?_⟩
 ·rcases l b hb with hb|hb
  ·exact h.tpn b hb
  omega
 ·refine⟨hs.os.trans h.step.os,hs.tape.trans h.step.tape,hs.output.trans h.step.output,qGg u hs.size,λb hb ho r=>?_,λb hb=>(h.step.tapes b hb).trans (hs.tapes b (h.tpx b hb)),λq=>qGg (h.step.drawn q) (hs.drawn q)⟩;rw[hs.same b (by omega) (λk=>?_) (λt=>?_)]
  ·exact h.step.same b hb ho r
  ·rcases h.loc b k with h1|h1;grind;omega
  ·rcases h.tpn b t with h1|h1;grind;omega
 ·rcases c b hb with hb|hb
  ·exact h.loc b hb
  omega
 ·refine y.mono s (λb hb=>?_) hs.tapes;obtain⟨h1,h2,h3,h4⟩:=hb;refine⟨⟨qFS h1 hs.size,h2,λt=>?_,λho=>?_⟩,hs.same b h1 h4 h3⟩;grind;grind
def SO{H:ab}{id:Nat}{r':Option Res}{b:Nat}(h:bA (ai H id r') b):(∃r,r'=some r/\r.blk=some b)\/ ∃i r,i≠id/\H i=some r/\r.blk=some b:=by
 grind [bA,ai]
theorem StW.own{E:CO}{tp:Nat->Prop}{H:ab}{w w':World}{row:Option Nat}(h:StW E tp H w)(id:Nat)(r':Option Res)(k:GrB w w' row)
 (u:∀b,row=some b->∃r,H id=some r/\r.blk=some b)
 (l:∀r b,r'=some r->r.blk=some b->w.heap.size<=b\/ ∃y,H id=some y/\y.blk=some b)
 (J:(∀x d,R tp (aR E.O tp H w) w x d->R tp (aR E.O tp (ai H id r') w') w' x d)->∀r,r'=some r->ResOk (R tp (aR E.O tp (ai H id r') w') w') w' r):
 StW E tp (ai H id r') w'/\∀x d,R tp (aR E.O tp H w) w x d->R tp (aR E.O tp (ai H id r') w') w' x d:=by
 have L:E.w0.heap.size<=w.heap.size:=h.step.size;have c:∀b,row=some b->bA H b:=λb hb=>by grind [bA]
 have F:∀b,bA (ai H id r') b->bA H b\/w.heap.size<=b:=λb hb=>by
  grind [bA,SO]
 have p:∀b,aR E.O tp H w b->aR E.O tp (ai H id r') w' b/\w'.heap[b]? =w.heap[b]?:=λb hb=>by
  obtain⟨h1,h2,h3,h4⟩:=hb;refine⟨⟨qFS h1 k.size,h2,h3,λho=>?_⟩,k.block b h1 (λe=>h4 (c b e.symm))⟩;grind
 have a:∀b,tp b->w'.heap[b]? =w.heap[b]?:=λb hb=>k.block b (h.tpl.1 b hb) (λe=>by
  obtain⟨r,h1,h2⟩:=u b e.symm;exact(h.sat.out id r b h1 h2).2 hb)
 have move:∀x d,R tp (aR E.O tp H w) w x d->R tp (aR E.O tp (ai H id r') w') w' x d:=λx d q=>
  q.mono (λ_ h=>h) p (λb hb=> .same (a b hb))
 have A:Step E.dq tp (bA H) w w':=⟨k.os,k.tape,k.output,k.size,λb hb ho _=>k.block b hb (λe=>ho (c b e.symm)),λb hb=> .same (a b hb),λ_=>k.drawn⟩
 refine h.move A (λ_ h=>h) (λ_ h=> .inl h) (λb hb=>qFS (h.tpl.1 b hb) k.size) F ⟨?_,?_,?_⟩
 ·intro i j r s b hi C q hs;by_cases t:i=id
  ·by_cases I:j=id;omega
   ·exfalso;subst t;simp[ai]at hi;simp[ai,I]at C;rcases l r b hi q with h3|⟨y,h3,h4⟩
    ·have:=(h.sat.ok j s C).lt hs;omega
    ·exact I (h.sat.dis _ _ _ _ b C h3 hs h4)
  ·simp[ai,t]at hi;by_cases I:j=id
   ·exfalso;subst I;simp[ai]at C;rcases l s b C hs with h3|⟨y,h3,h4⟩
    ·have:=(h.sat.ok i r hi).lt q;omega
    ·exact t (h.sat.dis _ _ _ _ b hi h3 q h4)
   ·simp[ai,I]at C;exact h.sat.dis _ _ _ _ b hi C q hs
 ·intro i r b hi q;by_cases t:i=id
  ·subst t;simp[ai]at hi;rcases l r b hi q with h3|⟨y,h3,h4⟩
   ·exact⟨λhO=>by have:=h.hO b hO;omega,λK=>by have:=h.tpl.1 b K;omega⟩
   ·exact h.sat.out _ y b h3 h4
  ·simp[ai,t]at hi;exact h.sat.out _ r b hi q
 ·intro i r hi;by_cases t:i=id;grind [ResOk,StW,GrB,Res,Res.blk,bA,aR,ai]
  ·simp[ai,t]at hi;refine(h.sat.ok i r hi).conv move (λb hb=>k.block b ((h.sat.ok i r hi).lt hb) (λe=>?_));obtain⟨y,h3,h4⟩:=u b e.symm;exact t (h.sat.dis _ _ _ _ b hi h3 hb h4)
theorem StW.grow{E:CO}{tp:Nat->Prop}{H:ab}{w w':World}(h:StW E tp H w)(c:GrB w w' none):
 StW E tp H w'/\∀x d,R tp (aR E.O tp H w) w x d->R tp (aR E.O tp H w') w' x d:=by
 have j:∀b,aR E.O tp H w b->aR E.O tp H w' b/\w'.heap[b]? =w.heap[b]?:=λb hb=>
  ⟨⟨qFS hb.1 c.size,hb.2⟩,c.block b hb.1 (by simp)⟩
 have a:∀b,tp b->w'.heap[b]? =w.heap[b]?:=λb hb=>c.block b (h.tpl.1 b hb) (by simp)
 have move:∀x d,R tp (aR E.O tp H w) w x d->R tp (aR E.O tp H w') w' x d:=λx d l=>
  l.mono (λ_ h=>h) j (λb hb=> .same (a b hb))
 have k:Step E.dq tp (bA H) w w':=⟨c.os,c.tape,c.output,c.size,λb hb _ _=>c.block b hb (by simp),λb hb=> .same (a b hb),λ_=>c.drawn⟩
 refine h.move k (λ_ h=>h) (λ_ h=> .inl h) (λb hb=>qFS (h.tpl.1 b hb) c.size) (λb hb=> .inl hb) ⟨h.sat.dis,h.sat.out,λi r hi=>?_⟩;exact(h.sat.ok i r hi).conv move (λb hb=>c.block b ((h.sat.ok i r hi).lt hb) (by simp))
def VU(w:World)(row:Option Nat):GrB w w.drew row:=⟨⟨rfl,rfl,rfl,qFH _,λ_ _ _=>rfl⟩,qGV _⟩
def gG(w:World)(row:Option Nat):GrB w w row:=⟨⟨rfl,rfl,rfl,qFH _,λ_ _ _=>rfl⟩,qFH _⟩
abbrev Sg:=Nat->D
def upd(a:Sg)(t:Nat)(d:D):Sg:=λs=>if s=t then d else a s
def St(E:CO)(b:Sg)(H:ab)(a:Act)(w:World):Prop:=
 a.defers=E.ds/\a.tmps.size=E.N/\∃tp,StW E tp H w/\∀t,R tp (aR E.O tp H w) w (a.tmps.getD t undef) (b t)
def gx(a:Sg)(t:Option Nat)(d:D):Sg:=match t with|some t=>upd a t d|none=>a
def qnp{N:Nat}{a:Act}{b:Sg}{Q:Value->D->Prop}(k:a.tmps.size=N)(c:∀t,Q (a.tmps.getD t undef) (b t))(dst:Option Nat)(j:∀t,dst=some t->t<N){x:Value}{d:D}(l:Q x d):
 ∀t,Q ((a.put dst x).tmps.getD t undef) (gx b dst d t):=by
 intro t;cases dst with
 |none=>exact c t
 | some s=>
   have hs:=j s rfl;simp only[Act.put,gx,upd];by_cases e:t=s;simp_all
   ·have p:¬s=t:=λh=>e h.symm
    simp_all
def qb1(a:Act)(dst:Option Nat)(x:Value):(a.put dst x).defers=a.defers:=by cases dst<;>rfl
def qi7(a:Act)(dst:Option Nat)(x:Value):(a.put dst x).tmps.size=a.tmps.size:=by cases dst<;>simp[Act.put]
def St.put{E:CO}{h:Sg}{H H':ab}{a:Act}{w':World}{b:Nat->Prop}{tp:Nat->Prop}{w:World}(p:a.defers=E.ds)(j:a.tmps.size=E.N)
 (k:∀t,R tp (aR E.O tp H w) w (a.tmps.getD t undef) (h t))
 (hm:StW E b H' w'/\∀x d,R tp (aR E.O tp H w) w x d->R b (aR E.O b H' w') w' x d) (dst:Option Nat) (c:∀t,dst=some t->t<E.N) {x:Value} {d:D}
 (l:R b (aR E.O b H' w') w' x d):St E (gx h dst d) H' (a.put dst x) w':=
 ⟨by grind [qb1],by grind [qi7],b,hm.1,qnp j (λt=>hm.2 _ _ (k t)) dst c l⟩
end
section
inductive qe7 where
 |int|str|bool
inductive KK where
 |int (k:IntKind)|str|bool|ptr
inductive MOp where
 |mk
 |look (ok agg ka:Bool) (ks:List KK) (z:List Value)
 |upd (ka:Bool) (ks:List KK)
 |del (ka:Bool) (ks:List KK)
 |rng
 |next
 |entry
 |len
 |aidx (len sz:Nat)
def MOp.isRead:MOp->Bool
 | .look .. | .entry| .len| .aidx .. =>true
 | _=>false
inductive COp where
 |mv (x:Operand)
 |pick (c x y:Operand)
 |alloc (el:Nat) (z:List Value)
 |box (el:Nat) (im:Bool) (x:Operand)
 |tbx (el:Nat) (x:Operand)
 |build (z:List Value) (parts:List (Nat×Nat×Operand))
 |bslice (el n:Nat) (parts:List Operand)
 |nslice (el n:Nat)
 |mslice (el n:Nat) (parts:List Operand)
 |load (agg:Bool) (sz:Nat) (x:Operand)
 |store (rt:Option Nat) (sz:Nat) (x y:Operand)
 |nilck (x:Operand)
 |arith (op:BinOp) (x y:Operand)
 |cmp (op:BinOp) (x y:Operand)
 |eql (neg agg:Bool) (ks:List qe7) (x y:Operand)
 |scat (x y:Operand)
 |not (x:Operand)
 |neg (x:Operand)
 |conv (k:IntKind) (x:Operand)
 |clo (f:Nat) (caps:List Operand)
 |mkslice (el n bytes:Nat) (agg:Bool) (z:List Value) (l c:Operand)
 |slice (n:Nat) (x:Operand) (lo hi:Option Operand)
 |sslice (x:Operand) (lo hi:Option Operand)
 |faddr (off:Nat) (x:Operand)
 |fld (agg:Bool) (sz off:Nat) (x:Operand)
 |iaddr (n:Nat) (x i:Operand)
 |sidx (x i:Operand)
 |ext (x:Operand) (i:Nat)
 |len (x:Operand)
 |slen (x:Operand)
 |mm (mx:Bool) (xs:List Operand)
 |append (rt:Option Nat) (el n bytes:Nat) (x y:Operand)
 |appmk (el n bytes:Nat) (agg:Bool) (z:List Value) (x c:Operand)
 |clear (n:Nat) (agg:Bool) (z:List Value) (x:Operand)
 |copy (n:Nat) (x y:Operand)
 |cap (x:Operand)
 |srange (x:Operand)
 |snext (x:Operand)
 |sbytes (x:Operand)
 |srunes (x:Operand)
 |bstr (x:Operand)
 |rstr (x:Operand)
 |mkif (t:Nat) (x:Operand)
 |m (o:MOp) (xs:List Operand)
 |bad
 |call (f:Nat) (args:List Operand)
 |callv (f:Operand) (args:List Operand)
 |callb (r f:Nat) (args:List Operand)
def yy:Value->D
 | .bool b=> .v (.bool b)
 | .int k n=> .v (.int k n)
 | .string s=> .v (.string s)
 | .pointer a=> .v (.pointer a)
 | .slice a l c=> .v (.slice a l c)
 | .nilFunc=> .v .nilFunc
 | .map a=> .v (.map a)
 | _=> .any
def ev(a:Sg):Operand->D
 | .tmp t=>a t
 | .const x=>yy x
 | .global g=> .v (.pointer (some ⟨g,0,none⟩))
 | .func f=> .clo f []
def CG:Operand->Bool
 | .const (.string s)=>decide (s.size<=1000000)
 | _=>true
def cF(P:Program)(t:TypeId):Option Nat:=(P.info? t).map (·.size)
def il(P:Program)(t:TypeId):Option Bool:=
 match P.underlying t with
 |some (.struct _)|some (.array _ _)=>some true
 |some _=>some false
 |none=>none
def cj(P:Program)(t:TypeId):Option (List Value):=do
 let i <-P.info? t
 let z <-i.zero
 if z.cells.toList.all (·.oneCell') && z.cells.size==i.size && z.cells.toList.all (λx=>match x with| .string s=>decide (s.size<=1000000)| .bool _| .int _ _| .pointer _| .slice _ _ _| .nilFunc| .map _=>true|_=>false)then some z.cells.toList else none
def Nj(P:Program)(t:TypeId)(agg:Bool):Bool:=match(P.info? t).bind (·.zero)with
 |some (.agg _)=>agg
 |some x=>!agg && x.oneCell'
 |none=>false
def Fb(P:Program)(kf:TypeId->Option (List KK)):List Field->Nat->Option (List KK)
 | [],_=>some []
 | f::r,off=>do
   let ks <-kf f.type
   if f.offset = off && decide (f.name ≠ "_") && decide (cF P f.type = some ks.length) then
    let l <-Fb P kf r (off+ks.length)
    some (ks++l)
   else none
def M3(P:Program):Nat->TypeId->Option (List KK)
 | 0,_=>none
 | n+1,t=>match P.underlying t with
   |some (.int k)=>some [.int k]
   |some .string=>some [.str]
   |some .bool=>some [.bool]
   | some (.pointer e)=>match cF P e with
     |some (_+1)=>some [.ptr]
     | _=>none
   |some (.struct fs)=>if P.stoodInHeld t then none else Fb P (M3 P n) fs.toList 0
   | some (.array len e)=>do
     let ks <-M3 P n e
     if cF P e=some ks.length then some (List.replicate len ks).flatten else none
   | _=>none
def qjV(P:Program)(t:TypeId):Option (Bool×List KK):=do
 let ka <-il P t
 let ks <-M3 P 50 t
 some (ka,ks)
def rh(P:Program)(t:TypeId):Option qe7:=
 match P.underlying t with
 |some (.int _)=>some .int
 |some .string=>some .str
 |some .bool=>some .bool
 | _=>none
def BY(P:Program)(t:TypeId):Option (List qe7):=
 match P.underlying t with
 | some (.struct fs)=>
   if !P.stoodInHeld t && !P.eqGuardType P.depth t && decide (fs.toList.map (·.offset) = List.range' 0 fs.toList.length) && fs.toList.all (fun f => decide (f.name ≠ "_")) then fs.toList.mapM (fun f => rh P f.type) else none
 | _=>none
def pH(P:Program)(neg:Bool)(t:TypeId)(x y:Operand):Option COp:=
 match rh P t with
 |some k=>some (.eql neg false [k] x y)
 |none=>(BY P t).map λks=> .eql neg true ks x y
def zV(parts:Array (Nat×Operand))(n:Nat):Option (List Operand):=
 if parts.toList.map (·.1)=List.range n then some (parts.toList.map (·.2))else none
def qkQ(im:List Nat)(d:Option Nat):Bool:=d.any im.contains
def quQ(im:List Nat)(d:Option Nat):Bool:=d.any λd=>im.contains (d+100000)
def qm6(im:List Nat)(d:Option Nat):Bool:=d.any λd=>im.contains (d+200000)
def qiV(im:List Nat)(d:Option Nat):Option Nat:=d.bind λd=>(im.find? λc=>c/1000=1000+d).map λc=>c % 1000
def qq4(im:List Nat)(x:Operand):Option Nat:=match x with
 | .tmp t=>(im.find? λc=>c/1000=2000+t).map λc=>c % 1000
 | _=>none
def qeH(im:List Nat)(d:Option Nat):Option Nat:=d.bind λd=>(im.find? λc=>c/1000=3000+d).map λc=>c % 1000
def qcK(b:Option Nat)(f:Nat)(args:List Operand):COp:=match b with
 |none=> .call f args
 |some r=> .callb r f args
def qpC(im:List Nat):Bool:=im.contains 300000
def FR:Nat:=1000000007
def VO(P:Program)(t:TypeId):Bool:=match P.underlying t with|some (.int _)=>true|_=>false
def da(P:Program)(im:List Nat)(o:Oper):Option COp:=
 if !o.op.operands.toList.all CG then none else
 match o.op with
 | .move x| .assign x=>some (.mv x)
 | .pick c x y=>some (.pick c x y)
 | .alloc el=>do some (.alloc el (<-cj P el))
 | .box el x=>if qm6 im o.dst then some (.tbx el x)else some (.box el (qkQ im o.dst) x)
 | .build t parts=>do
   let z <-cj P t
   match P.underlying t with
   | some (.struct fs)=>
     let a <-parts.toList.mapM λp=>do
      let f <-fs[p.1]?
      let sz <-cF P f.type
      if f.offset+sz<=z.length then some (f.offset,sz,p.2)else none
     if fs.toList.all (λf=>(cF P f.type).isSome)then some (.build z a)else none
   | some (.array _ el)=>
     let sz <-cF P el
     let a <-parts.toList.mapM λp=>if p.1*sz+sz<=z.length then some (p.1*sz,sz,p.2)else none
     some (.build z a)
   | _=>none
 | .buildSlice t len parts=>do
   match P.underlying t with
   | some (.slice el)=>
     let n <-cF P el
     let _ <-cj P el
     let a <-zV parts len
     if len*n<=2^24 && 0<n then(if len=0 then some (.nslice el n)else if quQ im o.dst then some (.mslice el n a)else some (.bslice el n a))else none
   | _=>none
 | .load t x=>do
   let agg <-il P t
   let sz <-cF P t
   if agg||sz=1 then some (.load agg sz x)else none
 | .store t x y=>do some (.store (qq4 im x) (<-cF P t) x y)
 | .nilCheck x=>some (.nilck x)
 | .binOp op t x y _=>
   match op with
   | .add=>if VO P t then some (.arith .add x y)else match P.underlying t with|some .string=>some (.scat x y)|_=>none
   | .sub| .mul| .quo| .rem=>if VO P t then some (.arith op x y)else none
   | .and| .or| .shl| .shr=>if VO P t then some (.arith op x y)else none
   | .lss| .leq| .gtr| .geq=>if VO P t then some (.cmp op x y)else match P.underlying t with|some .string=>some (.cmp op x y)|_=>none
   | .eql=>pH P false t x y
   | .neq=>pH P true t x y
   | _=>none
 | .unOp .not _ x=>some (.not x)
 | .unOp .neg _ x=>some (.neg x)
 | .convert s t x=>
   match P.underlying s,P.underlying t with
   |some (.int _),some (.int k)=>some (.conv k x)
   |some (.int _),some .string=>some (.rstr x)
   | some .string,some (.slice el)=>match P.underlying el with
     |some (.int .u8)=>some (.sbytes x)
     |some (.int .i32)=>some (.srunes x)
     | _=>none
   | some (.slice el),some .string=>match P.underlying el with
     |some (.int .u8)=>some (.bstr x)
     | _=>none
   | _,_=>none
 | .makeFunc (.func f) first caps=>if first.isEmpty then some (.clo f caps.toList)else none
 | .makeSlice t l c=>do
   match P.underlying t with
   | some (.slice el)=>
     let n <-cF P el
     let z <-cj P el
     let b:=P.bytesOf el
     let agg <-il P el
     if 0<n && (agg||n=1)then some (.mkslice el n b agg z l c)else none
   | _=>none
 | .slice t x lo hi none=>
   match P.underlying t with
   |some (.slice el)=>do some (.slice (<-cF P el) x lo hi)
   |some .string=>some (.sslice x lo hi)
   | _=>none
 | .fieldAddr t x f=>do
   match P.underlying t with
   | some (.struct fs)=>
     let fd <-fs[f]?
     let sz <-cF P fd.type
     if 0<sz then some (.faddr fd.offset x)else none
   | _=>none
 | .field t x f=>do
   match P.underlying t with
   | some (.struct fs)=>
     let fd <-fs[f]?
     let agg <-il P fd.type
     let sz <-cF P fd.type
     if agg||sz=1 then some (.fld agg sz fd.offset x)else none
   | _=>none
 | .indexAddr t x i=>do
   match P.underlying t with
   |some (.slice el)=>some (.iaddr (<-cF P el) x i)
   | some (.array len el)=>match i with
     | .const (.int .i64 k)=>do
       let sz <-cF P el
       if 0<=k/\k<len then some (.faddr (k.toNat*sz) x)else none
     | _=>do some (.m (.aidx len (<-cF P el)) [x,i])
   | _=>none
 | .index t x i=>
   match P.underlying t with
   |some .string=>some (.sidx x i)
   | _=>none
 | .extract x i=>some (.ext x i)
 | .range t x=>match P.underlying t with
   |some .string=>some (.srange x)
   |some (.map _ _)=>some (.m .rng [x])
   | _=>none
 | .next x true=>some (.snext x)
 | .next x false=>some (.m .next [x])
 | .entry x=>some (.m .entry [x])
 | .makeMap t none=>some (.m .mk [])
 | .lookup t x k ok=>match P.underlying t with
   | some (.map d h)=>do
     let (ka,ks) <-qjV P d
     let z <-cj P h
     let agg <-il P h
     if Nj P h agg then some (.m (.look ok agg ka ks z) [x,k])else none
   | _=>none
 | .mapUpdate t x k v| .insert t x k v=>match P.underlying t with
   | some (.map d _)=>do
     let (ka,ks) <-qjV P d
     some (.m (.upd ka ks) [x,k,v])
   | _=>none
 | .makeInterface t x=>if qpC im then(match P.underlying t with|some (.struct _)=>some (.mkif t x)|_=>none)else some .bad
 | .panic x=>if qpC im && decide (P.funcs.size<=FR)then some (.call FR [x])else some .bad
 | .call c=>
   match c.callee with
   | .value (.func f)=>if f=FR then none else some (qcK (qeH im o.dst) f c.args.toList)
   | .value f=>some (.callv f c.args.toList)
   | .builtin .len=>match c.argTypes.toList,c.args.toList with
     | [t], [x]=>match P.underlying t with|some (.slice _)=>some (.len x)|some .string=>some (.slen x)|some (.map _ _)=>some (.m .len [x])|_=>none
     | _,_=>none
   | .builtin .min=>some (.mm false c.args.toList)
   | .builtin .max=>some (.mm true c.args.toList)
   | .builtin .append=>match c.argTypes.toList,c.args.toList with
     | [t,u], [x,y]=>if t=u then(match P.underlying t with
       | some (.slice el)=>do
         let n <-cF P el
         let _ <-cj P el
         if 0<n then some (.append (qiV im o.dst) el n (P.bytesOf el) x y)else none
       | _=>none)else(match P.underlying t,P.underlying u with
       | some (.slice el),some (.int _)=>do
         let n <-cF P el
         let z <-cj P el
         let agg <-il P el
         if 0<n && (agg||n=1)then some (.appmk el n (P.bytesOf el) agg z x y)else none
       | some (.slice el),some .string=>do
         let n <-cF P el
         let _ <-cj P el
         if n=1 then some (.append (qiV im o.dst) el n (P.bytesOf el) x y)else none
       | _,_=>none)
     | _,_=>none
   | .builtin .clear=>match c.argTypes.toList,c.args.toList with
     | [t], [x]=>match P.underlying t with
       | some (.slice el)=>do
         let n <-cF P el
         let z <-cj P el
         let agg <-il P el
         if 0<n && (agg||n=1)then some (.clear n agg z x)else none
       | _=>none
     | _,_=>none
   | .builtin .copy=>match c.argTypes.toList,c.args.toList with
     | [t,u], [x,y]=>if t=u then(match P.underlying t with
       | some (.slice el)=>do
         let n <-cF P el
         if 0<n then some (.copy n x y)else none
       | _=>none)else none
     | _,_=>none
   | .builtin .cap=>match c.argTypes.toList,c.args.toList with
     | [t], [x]=>match P.underlying t with|some (.slice _)=>some (.cap x)|_=>none
     | _,_=>none
   | .builtin .delete=>match c.argTypes.toList,c.args.toList with
     | [t,_], [x,k]=>match P.underlying t with
       | some (.map d _)=>do
         let (ka,ks) <-qjV P d
         some (.m (.del ka ks) [x,k])
       | _=>none
     | _,_=>none
   | _=>none
 | _=>none
abbrev PT:=Nat->List D->ab->(D->ab->Prop)->Prop
structure PC where
 pre:List D->Prop
 post:List D->D->Prop
def nC(A:PT):Prop:=∀(d:Nat) (ds:List D) (H:ab) (K a:D->ab->Prop),(∀r H,K r H->a r H)->A d ds H K->A d ds H a
inductive Spc where
 |none
 |pure (c:PC)
 |gen (A:PT) (h:nC A)
def Spc.pt:Spc->PT
 | .none=>λ_ _ _ _=>False
 | .pure c=>λ_ ds H K=>c.pre ds/\∀r,c.post ds r->K r H
 | .gen A _=>A
def InR:IntKind->Int->Prop
 | .i64,n=> -9223372036854775808<=n/\n<=9223372036854775807
 | .i32,n=> -2147483648<=n/\n<=2147483647
 | .i16,n=> -32768<=n/\n<=32767
 | .i8,n=> -128<=n/\n<=127
 | .u64,n=>0<=n/\n<=18446744073709551615
 | .u32,n=>0<=n/\n<=4294967295
 | .u16,n=>0<=n/\n<=65535
 | .u8,n=>0<=n/\n<=255
def InR.wrap{k:IntKind}{n:Int}(h:InR k n):k.wrap n=n:=by
 cases k<;>simp only[InR]at h<;>simp[IntKind.wrap,IntKind.bits,IntKind.signed] <;>omega
def qcP(k:IntKind)(a b:Int):Int:=k.wrap (BitVec.ofInt k.bits a &&& BitVec.ofInt k.bits b).toNat
def quG(k:IntKind)(a b:Int):Int:=k.wrap (BitVec.ofInt k.bits a|||BitVec.ofInt k.bits b).toNat
def Yh(k:IntKind)(a b:Int):Int:=k.wrap (a*2^min b.toNat k.bits)
def qfH(k:IntKind)(a b:Int):Int:=a.fdiv (2^min b.toNat k.bits)
def qhf(op:BinOp)(k a:IntKind):Prop:=match op with
 | .shl| .shr=>True
 | _=>k=a
def jE(op:BinOp)(k:IntKind)(a b:Int)(K:D->Prop):Prop:=
 match op with
 | .add=>InR k (a+b)/\K (.v (.int k (a+b)))
 | .sub=>InR k (a -b)/\K (.v (.int k (a -b)))
 | .mul=>InR k (a*b)/\K (.v (.int k (a*b)))
 | .quo=>b≠0/\InR k (a.tdiv b)/\K (.v (.int k (a.tdiv b)))
 | .rem=>b≠0/\K (.v (.int k (a.tmod b)))
 | .and=>K (.v (.int k (qcP k a b)))
 | .or=>K (.v (.int k (quG k a b)))
 | .shl=>0<=b/\K (.v (.int k (Yh k a b)))
 | .shr=>0<=b/\K (.v (.int k (qfH k a b)))
 | _=>False
def qal(op:BinOp)(a b:Int):Option Bool:=
 match op with
 | .lss=>some (decide (a<b))
 | .leq=>some (decide (a<=b))
 | .gtr=>some (decide (b<a))
 | .geq=>some (decide (b<=a))
 | _=>none
def qcG(op:BinOp)(a b:ByteArray):Option Bool:=
 match op with
 | .lss=>some (Op.bytesLess a.toList b.toList)
 | .leq=>some (Op.bytesLess a.toList b.toList||a.toList==b.toList)
 | .gtr=>some (!(Op.bytesLess a.toList b.toList||a.toList==b.toList))
 | .geq=>some (!Op.bytesLess a.toList b.toList)
 | _=>none
def qxw:List D->Option (List Value)
 | []=>some []
 | .v x::l=>(qxw l).map (x:: ·)
 | _=>none
def yF:D->Option (IntKind×Int)
 | .v (.int k n)=>some (k,n)
 | _=>none
def qzG:D->Option ByteArray
 | .v (.string s)=>some s
 | _=>none
def qzH:D->Option Bool
 | .v (.bool b)=>some b
 | _=>none
def qhg(k:qe7)(d e:D):Option Bool:=
 match k with
 | .int=>(yF d).bind λp=>(yF e).bind λq=>if p.1=q.1 then some (decide (p.2=q.2))else none
 | .str=>(qzG d).bind λp=>(qzG e).bind λq=>some (decide (p=q))
 | .bool=>(qzH d).bind λp=>(qzH e).bind λq=>some (decide (p=q))
def qow:List qe7->List D->List D->Option Bool
 | [],as,c=>if as.isEmpty && c.isEmpty then some true else none
 |k::ks,as,c=>as.head?.bind λa=>c.head?.bind λb=>(qhg k a b).bind λp=>(qow ks as.tail c.tail).bind λq=>some (p && q)
def rR:D->Option (List D)
 | .agg cs=>some cs
 | _=>none
def qrW(agg:Bool)(ks:List qe7)(a b:D):Option Bool:=
 if agg then(rR a).bind λas=>(rR b).bind λc=>qow ks as c
 else match ks with
  | [k]=>qhg k a b
  | _=>none
def xq(lo hi:Option (Option (IntKind×Int)))(len:Nat)(K:Nat->Nat->Prop):Prop:=
 match lo,hi with
 |none,none=>K 0 len
 |some (some (_,l)),none=>0<=l/\l<=len/\K l.toNat len
 |none,some (some (_,h))=>0<=h/\h<=len/\K 0 h.toNat
 |some (some (_,l)),some (some (_,h))=>0<=l/\l<=h/\h<=len/\K l.toNat h.toNat
 | _,_=>False
def TT(agg:Bool)(z:List Value):D:=if agg then .agg (z.map yy)else yy (z.headD (.bool false))
def setAt(l:List D)(off:Nat)(new:List D):List D:=l.take off++new++l.drop (off+new.length)
def Tf(agg:Bool)(sz:Nat)(cs:List D)(off:Nat):D:=if agg then .agg ((cs.drop off).take sz)else(cs[off]?).getD .any
def mJ(a:Sg):List (Nat×Nat×Operand)->List D->(List D->Prop)->Prop
 | [],cs,K=>K cs
 |(off,sz,x)::r,cs,K=>(ev a x).kn=true/\(ev a x).cells.length=sz/\mJ a r (setAt cs off (ev a x).cells) K
def nY(n:Nat):List D->Prop
 | []=>True
 |d::r=>d.kn=true/\d.cells.length=n/\nY n r
def qcM:D->Option UInt8
 | .v (.int .u8 n)=>some (UInt8.ofNat n.toNat)
 | _=>none
def qpS(es:List D):Bool:=es.all λd=>(qcM d).isSome
def qst(es:List D):ByteArray:=⟨(es.map λd=>(qcM d).getD 0).toArray⟩
def qkx:KK->D->Bool
 | .int k, .v (.int a _)=>decide (k=a)
 | .str, .v (.string _)=>true
 | .bool, .v (.bool _)=>true
 | .ptr, .cptr cs _=>decide (cs.length≠1)
 | .ptr, .v (.pointer none)=>true
 | _,_=>false
def qcy:List KK->List D->Bool
 | [], []=>true
 |k::ks,d::ds=>qkx k d && qcy ks ds
 | _,_=>false
def M6(ka:Bool)(ks:List KK)(d:D):Bool:=
 if ka then(match rR d with|some cs=>qcy ks cs|none=>false)else(match ks with|[k]=>qkx k d|_=>false)
def Wb(ka:Bool)(ks:List KK):D->Bool
 | .tup [k,_]=>M6 ka ks k
 | _=>false
def qtj:D->Bool
 | .v _=>true
 | _=>false
def F1(d:D):Bool:=d.cells.all qtj
def Mh(a b:D):Prop:=∃(tp I:Nat->Prop) (w:World) (x:Value),R tp I w x a/\R tp I w x b
def D3(d:D)(H:ab)(K:List D->Prop):Prop:=
 match d with
 | .mp es=>K es
 | .v (.map none)=>K []
 | .own id x=>match H id with
   |some (.mrow a es)=>a=x/\K es
   | _=>False
 | _=>False
def qnX(ok:Bool)(v:D)(b:Bool):D:=if ok then .tup [v, .v (.bool b)]else v
def zr(ok agg ka:Bool)(ks:List KK)(z:List Value)(k:D)(es:List D)(K:D->Prop):Prop:=
 es.all (Wb ka ks)=true/\M6 ka ks k=true/\(∀a v,D.tup [a,v] ∈es->Mh k a->K (qnX ok v true))/\((F1 k=true->∀v,D.tup [k,v] ∉es)->K (qnX ok (TT agg z) false))
def Di(ka:Bool)(ks:List KK)(k v:D)(es:List D)(K:List D->Prop):Prop:=
 es.all (Wb ka ks)=true/\M6 ka ks k=true/\(∀a b v' c,es=a++D.tup [b,v']::c->Mh k b->K (a++D.tup [k,v]::c))/\((F1 k=true->∀v',D.tup [k,v'] ∉es)->K (es++ [.tup [k,v]]))
def Tz(ka:Bool)(ks:List KK)(k:D)(es:List D)(st:List Nat)(K:List D->List Nat->Prop):Prop:=
 es.all (Wb ka ks)=true/\M6 ka ks k=true/\(∀(i:Nat) (a v':D),es[i]? =some (D.tup [a,v'])->Mh k a->K (es.eraseIdx i) (st.eraseIdx i))/\((F1 k=true->∀v',D.tup [k,v'] ∉es)->K es st)
def qqa(st:List Nat)(clock n:Nat):Prop:=st.length=n/\st.Nodup/\∀s∈st,s<clock
def FV(x:Value)(clock:Nat)(seen:List Nat)(r:Option Res)(K:D->Prop):Prop:=match r with
 | some (.raw (.mrs b es st a))=>b=x/\a=clock/\match seen.getLast? with
   |some s=>s∈st/\∀(i:Nat) (e:D),st[i]? =some s->es[i]? =some e->K e
   |none=>False
 | _=>False
def LZ(id b m:Nat)(x:Value)(clock:Nat)(seen:List Nat)(r:Option Res)(H:ab)(K:D->ab->Prop):Prop:=match r with
 | some (.raw (.mrs c es st a))=>c=x/\a=clock/\((∀s∈st,s∈seen)->K (.tup [.v (.bool false)]) (ai H m (some (.mrow c es))))/\
    ∀s,s∈st->s∉seen->K (.tup [.v (.bool true), .any, .any]) (ai H id (some (.raw (.mit b m x clock (seen++ [s])))))
 | _=>False
def LP(t id:Nat)(x:Value)(r:Option Res)(H:ab)(K:D->ab->Prop):Prop:=match r with
 |some (.mrow a es)=>a=x/\∀b st clock,qqa st clock es.length->K (.bptr t b 0) (ai (ai H id (some (.raw (.mrs a es st clock)))) t (some (.raw (.mit b id a clock []))))
 | _=>False
def P1(off:Nat)(d:D)(K:D->Prop):Prop:=match d with
 | .cptr cs o=>K (.cptr cs (o+off))
 | .bptr id b o=>K (.bptr id b (o+off))
 | .eptr id x n i o=>K (.eptr id x n i (o+off))
 | _=>False
def yr(o:MOp)(ds:List D)(H:ab)(K:D->Prop):Prop:=
 match o,ds with
 | .look ok agg ka ks z, [x,k]=>D3 x H λes=>zr ok agg ka ks z k es K
 | .len, [x]=>D3 x H λes=>K (.v (.int .i64 es.length))
 | .entry, [.bptr id b off]=>off=0/\match H id with
   |some (.miter b' [e] _)=>b'=b/\K e
   |some (.raw (.mit b' m x clock seen))=>b'=b/\FV x clock seen (H m) K
   | _=>False
 | .aidx len sz, [x, .v (.int _ k)]=>0<=k/\k<len/\P1 (k.toNat*sz) x K
 | _,_=>False
def ip(o:MOp)(ds:List D)(dst:Option Nat)(H:ab)(K:D->ab->Prop):Prop:=
 match o,ds with
 | .mk, []=>match dst with
   |some t=>∀x,K (.own t x) (ai H t (some (.mrow x [])))
   |none=>False
 | .upd ka ks, [.own id x,k,v]=>match H id with
   |some (.mrow a es)=>a=x/\Di ka ks k v es λes'=>K .undef (ai H id (some (.mrow a es')))
   | _=>False
 | .rng, [x]=>match dst with
   | some t=>(match x with
     | .mp es=>∀b,K (.bptr t b 0) (ai H t (some (.miter b [] es)))
     | .v (.map none)=>∀b,K (.bptr t b 0) (ai H t (some (.miter b [] [])))
     | .own id x=>LP t id x (H id) H K
     | _=>False)
   |none=>False
 | .next, [.bptr id b off]=>off=0/\match H id with
   |some (.miter b' cur left)=>b'=b/\(left=[]->K (.tup [.v (.bool false)]) H)/\∀h e j,left=h++e::j->K (.tup [.v (.bool true), .any, .any]) (ai H id (some (.miter b' [e] (h++j))))
   |some (.raw (.mit b' m x clock seen))=>b'=b/\LZ id b' m x clock seen (H m) H K
   | _=>False
 | .del ka ks, [.own id x,k]=>match H id with
   |some (.raw (.mrs a es st clock))=>a=x/\Tz ka ks k es st λes' c=>K (.tup []) (ai H id (some (.raw (.mrs a es' c clock))))
   | _=>False
 |o,ds=>yr o ds H λd=>K d H
def am(c:COp)(j:Sg)(H:ab)(K:D->Prop):Prop:=
 match c with
 | .mv x=>K (ev j x)
 | .pick c x y=>match ev j c with
   | .v (.bool t)=>(t=true->K (ev j x))/\(t=false->K (ev j y))
   | _=>False
 | .box _ true x=>(ev j x).kn=true/\K (.cptr (ev j x).cells 0)
 | .build z parts=>mJ j parts (z.map yy) λcs=>K (.agg cs)
 | .bslice _ n A=>nY n (A.map (ev j))/\K (.list n (A.map (ev j)))
 | .load agg sz x=>match ev j x with
   | .cptr cs off=>off+sz<=cs.length/\K (Tf agg sz cs off)
   | .bptr id b off=>match H id with
     |some (.box b' cells)=>b'=b/\off+sz<=cells.length/\K (Tf agg sz cells off)
     | _=>False
   | .eptr id x n i off=>match H id with
     |some (.row r _ q es)=>r=x/\q=n/\off+sz<=n/\i<es.length/\∀d,es[i]? =some d->K (Tf agg sz d.cells off)
     | _=>False
   | _=>False
 | .nilck x=>match ev j x with
   | .cptr cs off=>K (.cptr cs off)
   | .bptr id b off=>K (.bptr id b off)
   | .eptr id x n i off=>K (.eptr id x n i off)
   | .tape L=>K (.tape L)
   | .clo f caps=>K (.clo f caps)
   | _=>False
 | .arith op x y=>match ev j x,ev j y with
   | .v (.int k a), .v (.int u b)=>qhf op k u/\jE op k a b K
   | _,_=>False
 | .cmp op x y=>match ev j x,ev j y with
   | .v (.int k a), .v (.int u b)=>k=u/\(match qal op a b with|some t=>K (.v (.bool t))|none=>False)
   | .v (.string a), .v (.string b)=>match qcG op a b with|some t=>K (.v (.bool t))|none=>False
   | _,_=>False
 | .eql neg agg ks x y=>match qrW agg ks (ev j x) (ev j y)with
   |some p=>K (.v (.bool (if neg then !p else p)))
   |none=>False
 | .scat x y=>match ev j x,ev j y with
   | .v (.string a), .v (.string b)=>a.size+b.size<=1000000000/\K (.v (.string (a++b)))
   | _,_=>False
 | .not x=>match ev j x with
   | .v (.bool b)=>K (.v (.bool (!b)))
   | _=>False
 | .neg x=>match ev j x with
   | .v (.int k n)=>InR k (0 -n)/\K (.v (.int k (0 -n)))
   | _=>False
 | .conv k x=>match ev j x with
   | .v (.int _ n)=>K (.v (.int k (k.wrap n)))
   | _=>False
 | .clo f caps=>K (.clo f (caps.map (ev j)))
 | .slice n x lo hi=>match ev j x with
   | .list q es=>q=n/\(match lo.map (λo=>yF (ev j o)),hi.map (λo=>yF (ev j o))with
     |none,none=>K (.list n es)
     |some (some (_,l)),none=>0<=l/\l<=es.length/\K (.list n (es.drop l.toNat))
     |none,some (some (_,h))=>0<=h/\h<=es.length/\K (.list n (es.take h.toNat))
     |some (some (_,l)),some (some (_,h))=>0<=l/\l<=h/\h<=es.length/\K (.list n ((es.take h.toNat).drop l.toNat))
     | _,_=>False)
   | .own id x=>match H id with
     |some (.row r _ q es)=>r=x/\q=n/\xq (lo.map λo=>yF (ev j o)) (hi.map λo=>yF (ev j o)) es.length λl h=>K (.sub id x n l h)
     | _=>False
   | .sub id x q a b=>q=n/\xq (lo.map λo=>yF (ev j o)) (hi.map λo=>yF (ev j o)) (b -a) λl h=>K (.sub id x n (a+l) (a+h))
   | .v (.slice none 0 0)=>xq (lo.map λo=>yF (ev j o)) (hi.map λo=>yF (ev j o)) 0 λ_ _=>K (.v (.slice none 0 0))
   | _=>False
 | .sslice x lo hi=>match ev j x with
   | .v (.string s)=>(match lo.map (λo=>yF (ev j o)),hi.map (λo=>yF (ev j o))with
     |none,none=>K (.v (.string (s.extract 0 s.size)))
     |some (some (_,l)),none=>0<=l/\l<=s.size/\K (.v (.string (s.extract l.toNat s.size)))
     |none,some (some (_,h))=>0<=h/\h<=s.size/\K (.v (.string (s.extract 0 h.toNat)))
     |some (some (_,l)),some (some (_,h))=>0<=l/\l<=h/\h<=s.size/\K (.v (.string (s.extract l.toNat h.toNat)))
     | _,_=>False)
   | _=>False
 | .faddr off x=>match ev j x with
   | .cptr cs o=>K (.cptr cs (o+off))
   | .bptr id b o=>K (.bptr id b (o+off))
   | .eptr id x n i o=>K (.eptr id x n i (o+off))
   | _=>False
 | .fld agg sz off x=>match ev j x with
   | .agg cs=>off+sz<=cs.length/\K (Tf agg sz cs off)
   | _=>False
 | .iaddr n x i=>match ev j i with
   | .v (.int _ k)=>match ev j x with
     | .list q es=>q=n/\0<=k/\k<es.length/\∀d,es[k.toNat]? =some d->K (.cptr d.cells 0)
     | .own id x=>match H id with
       |some (.row r _ q es)=>r=x/\q=n/\0<=k/\k<es.length/\K (.eptr id x n k.toNat 0)
       | _=>False
     | .sub id x q lo hi=>q=n/\0<=k/\k<(hi -lo:Nat)/\K (.eptr id x n (lo+k.toNat) 0)
     | _=>False
   | _=>False
 | .sidx x i=>match ev j i with
   | .v (.int _ k)=>match ev j x with
     | .v (.string s)=>0<=k/\k<s.size/\∀c,s.data[k.toNat]? =some c->K (.v (.int .u8 c.toNat))
     | _=>False
   | _=>False
 | .ext x i=>match ev j x with
   | .tup ds=>match ds[i]? with
     |some d=>K d
     |none=>False
   | _=>False
 | .len x=>match ev j x with
   | .list _ es=>(es.length:Int)<=9223372036854775807->K (.v (.int .i64 es.length))
   | .own id x=>match H id with
     |some (.row r _ _ es)=>r=x/\((es.length:Int)<=9223372036854775807->K (.v (.int .i64 es.length)))
     | _=>False
   | .v (.slice _ n _)=>K (.v (.int .i64 n))
   | .sub _ _ _ lo hi=>((hi -lo:Nat):Int)<=9223372036854775807->K (.v (.int .i64 (hi -lo:Nat)))
   | _=>False
 | .cap x=>match ev j x with
   | .v (.slice none 0 0)=>K (.v (.int .i64 0))
   | _=>False
 | .sbytes x=>match ev j x with
   | .v (.string s)=>K (.list 1 (s.data.toList.map λc=> .v (.int .u8 c.toNat)))
   | _=>False
 | .srunes x=>match ev j x with
   | .v (.string s)=>s.size<=1000000000/\K (.list 1 ((Conv.runesFrom s s.size 0 #[]).toList.map D.v))
   | _=>False
 | .bstr x=>match ev j x with
   | .own id x=>match H id with
     |some (.row r _ n es)=>r=x/\n=1/\qpS es=true/\K (.v (.string (qst es)))
     | _=>False
   | .v (.slice none 0 0)=>K (.v (.string ⟨#[]⟩))
   | _=>False
 | .rstr x=>match ev j x with
   | .v (.int _ n)=>K (.v (.string (Utf8.encode n)))
   | _=>False
 | .mkif t x=>match ev j x with
   | .agg cs=>match qxw cs with
     |some xs=>K (.v (.iface t (.agg xs.toArray)))
     |none=>False
   | _=>False
 | .slen x=>match ev j x with
   | .v (.string s)=>(s.size:Int)<=9223372036854775807->K (.v (.int .i64 s.size))
   | _=>False
 | .m o xs=>yr o (xs.map (ev j)) H K
 | .mm mx [x,y]=>match ev j x,ev j y with
   | .v (.int k a), .v (.int u b)=>k=u/\K (.v (.int k (if mx then max a b else min a b)))
   | _,_=>False
 | .mm mx [x,y,z]=>match ev j x,ev j y,ev j z with
   | .v (.int k a), .v (.int u b), .v (.int w c)=>k=u/\k=w/\K (.v (.int k (if mx then max (max a b) c else min (min a b) c)))
   | _,_,_=>False
 | _=>False
def pQ(n:Nat)(d:D)(H:ab)(K:List D->Prop):Prop:=
 match d with
 | .list a es=>a=n/\K es
 | .own id x=>match H id with
   |some (.row b _ a es)=>b=x/\a=n/\K es
   | _=>False
 | .v (.slice none 0 0)=>K []
 | .sub id x a lo hi=>match H id with
   |some (.row b _ c es)=>b=x/\a=n/\c=n/\K ((es.take hi).drop lo)
   | _=>False
 | _=>False
def Kl(s:ByteArray):List D:=s.data.toList.map λb=> .v (.int .u8 b.toNat)
def yM(n:Nat)(d:D)(H:ab)(K:List D->Prop):Prop:=
 match d with
 | .v (.string s)=>n=1/\K (Kl s)
 |d=>pQ n d H K
def bK(c:COp)(dst:Option Nat)(a:Sg)(H:ab)(K:D->ab->Prop):Prop:=
 match c with
 | .alloc _ z=>match dst with
   |some t=>∀b,K (.bptr t b 0) (ai H t (some (.box b (z.map yy))))
   |none=>False
 | .box _ false x=>match dst with
   |some t=>(ev a x).kn=true/\∀b,K (.bptr t b 0) (ai H t (some (.box b (ev a x).cells)))
   |none=>False
 | .tbx el x=>match dst with
   |some t=>(ev a x).kn=true/\∀b,K (.bptr t b 0) (ai H t (some (.tbox el b (ev a x).cells)))
   |none=>False
 | .nslice el n=>match dst with
   |some t=>∀x,K (.own t x) (ai H t (some (.row x el n [])))
   |none=>False
 | .mslice el n q=>match dst with
   |some t=>nY n (q.map (ev a))/\∀x,K (.own t x) (ai H t (some (.row x el n (q.map (ev a)))))
   |none=>False
 | .mkslice el n bytes agg z l c=>match dst with
   | some t=>match yF (ev a l),yF (ev a c)with
     |some (_,l),some (_,c)=>0<=l/\l<=c/\bytes*c<=140737488355328/\c<=140737488355328/\∀x,K (.own t x) (ai H t (some (.row x el n (List.replicate l.toNat (if agg then .agg (z.map yy)else yy (z.headD (.bool false)))))))
     | _,_=>False
   |none=>False
 | .store _ sz x y=>(ev a y).kn=true/\(ev a y).cells.length=sz/\match ev a x with
   | .bptr id b off=>match H id with
     |some (.box b' cells)=>b'=b/\off+sz<=cells.length/\K .undef (ai H id (some (.box b' (setAt cells off (ev a y).cells))))
     | _=>False
   | .eptr id x n i off=>match H id with
     | some (.row h el j es)=>h=x/\j=n/\0<n/\off+sz<=n/\i<es.length/\∀d,es[i]? =some d->
        K .undef (ai H id (some (.row h el j (es.set i (if off=0/\sz=n then ev a y else .agg (setAt d.cells off (ev a y).cells))))))
     | _=>False
   | _=>False
 | .srange x=>match dst,ev a x with
   |some t, .v (.string s)=>∀b,K (.bptr t b 0) (ai H t (some (.iter b s 0)))
   | _,_=>False
 | .snext x=>match ev a x with
   | .bptr id b off=>off=0/\match H id with
     |some (.iter b' s pos)=>b'=b/\(pos<s.size->K (.tup [.v (.bool true), .v (.int .i64 pos), .v (.int .i32 (Utf8.decode s pos).1)]) (ai H id (some (.iter b' s (pos+ (Utf8.decode s pos).2)))))/\(¬pos<s.size->K (.tup [.v (.bool false)]) H)
     | _=>False
   | _=>False
 | .append _ el n bytes x y=>yM n (ev a y) H λes2=>match ev a x with
   | .own id x=>match H id with
     |some (.row h p j es)=>h=x/\p=el/\j=n/\(es.length+es2.length) *bytes<=140737488355328/\es.length+es2.length<=140737488355328/\∀v,K (.own id v) (ai H id (some (.row v el n (es++es2))))
     | _=>False
   | .v (.slice none 0 0)=>match dst with
     |some t=>es2.length*bytes<=140737488355328/\es2.length<=140737488355328/\∀v,K (.own t v) (ai H t (some (.row v el n es2)))
     |none=>False
   | .sub id x j lo hi=>match H id with
     |some (.row h p k es)=>h=x/\p=el/\j=n/\k=n/\lo=0/\(hi+es2.length) *bytes<=140737488355328/\hi+es2.length<=140737488355328/\∀v,K (.own id v) (ai H id (some (.row v el n (es.take hi++es2))))
     | _=>False
   | _=>False
 | .appmk el n bytes agg z x c=>match ev a x with
   | .v (.slice none 0 0)=>match dst,yF (ev a c)with
     |some t,some (_,c)=>0<=c/\c*bytes<=140737488355328/\c<=140737488355328/\∀v,K (.own t v) (ai H t (some (.row v el n (List.replicate c.toNat (TT agg z)))))
     | _,_=>False
   | _=>False
 | .clear n agg z x=>match ev a x with
   | .own id x=>match H id with
     |some (.row h el j es)=>h=x/\j=n/\K (.tup []) (ai H id (some (.row h el j (List.replicate es.length (TT agg z)))))
     | _=>False
   | .sub id x j lo hi=>match H id with
     |some (.row h el k es)=>h=x/\j=n/\k=n/\K (.tup []) (ai H id (some (.row h el k (es.take lo++List.replicate (hi -lo) (TT agg z) ++es.drop hi))))
     | _=>False
   | .v (.slice none 0 0)=>K (.tup []) H
   | _=>False
 | .copy n x y=>pQ n (ev a y) H λsrc=>match ev a x with
   | .own id x=>match H id with
     |some (.row h el j es)=>h=x/\j=n/\K (.v (.int .i64 (min src.length es.length:Nat))) (ai H id (some (.row h el j (src.take es.length++es.drop src.length))))
     | _=>False
   | .sub id x j lo hi=>match H id with
     |some (.row h el k es)=>h=x/\j=n/\k=n/\K (.v (.int .i64 (min src.length (hi -lo):Nat))) (ai H id (some (.row h el k (es.take lo++src.take (hi -lo) ++es.drop (lo+min src.length (hi -lo))))))
     | _=>False
   | _=>False
 | .m o xs=>ip o (xs.map (ev a)) dst H K
 |c=>am c a H λd=>K d H
end
section
def COp.isCall:COp->Bool
 | .call _ _| .callv _ _| .callb _ _ _=>true
 | _=>false
def COp.isRead:COp->Bool
 | .call _ _| .callv _ _| .callb _ _ _| .alloc _ _| .box _ false _| .tbx _ _| .nslice _ _| .mslice .. | .mkslice .. | .store .. | .append .. | .appmk .. | .clear .. | .copy .. | .srange .. | .snext .. =>false
 | .m o _=>o.isRead
 | _=>true
@[simp] theorem qar(b:Option Nat)(f:Nat)(args:List Operand):(qcK b f args).isCall=true:=by cases b<;>rfl
@[simp] theorem qaq(b:Option Nat)(f:Nat)(args:List Operand):(qcK b f args).isRead=false:=by cases b<;>rfl
end
section
def Good(P:Program)(o:Oper)(a:Act)(tp I:Nat->Prop)(w:World)(K:D->Prop):Prop:=
 ∃x d,(execOp a.eval o).run P w= .ok (.value x) w/\R tp I w x d/\K d
section
variable {P:Program}{o:Oper}{a:Act}{tp I:Nat->Prop}{w:World}{σ:Sg}{K:D->Prop}
def R.inv_v{x y:Value}(h:R tp I w x (.v y)):x=y:=by cases h;rfl
def R.inv_agg{x:Value}{cs:List D}(h:R tp I w x (.agg cs)):∃xs:List Value,x= .agg xs.toArray/\xs.length=cs.length/\ba (R tp I w) xs cs:=by
 cases h with
 |agg xs cs hl h1 h=>exact⟨xs,rfl,hl,λk y c b hc=>⟨h1 y (qFF b),h k y c b hc⟩⟩
def R.int(k:IntKind)(n:Int):R tp I w (.int k n) (.v (.int k n)):= .v _ rfl (λs h=>by cases h)
def R.bool(b:Bool):R tp I w (.bool b) (.v (.bool b)):= .v _ rfl (λs h=>by cases h)
def R.str(s:ByteArray)(h:s.size<=maxLen):R tp I w (.string s) (.v (.string s)):= .v _ rfl (λb c=>by grind)
def R.inv_str{x:Value}{s:ByteArray}(h:R tp I w x (.v (.string s))):x= .string s/\s.size<=maxLen:=by
 cases h<;>grind
def qpR(x:Value)(h:∀s,x= .string s->s.size<=maxLen):R tp I w x (yy x):=by
 cases x<;>first|exact .any _|exact .v _ rfl h
def qcz(b:∀t,R tp I w (a.tmps.getD t undef) (σ t))(x:Operand)(d:CG x=true):R tp I w (a.eval x) (ev σ x):=by
 cases x with
 |tmp t=>exact b t
 | const x=>
   refine qpR x (λs hs=>?_);subst hs;have:s.size<=1000000:=by grind [CG]
   grind [maxLen]
 |global g=>exact .v _ rfl (λs h=>by cases h)
 |func f=>exact .clo f [] [] rfl (λk x c h=>by simp)
def qeg{x:Operand}(ho:o.op= .move x\/o.op= .assign x)(b:R tp I w (a.eval x) (ev σ x))(c:K (ev σ x)):Good P o a tp I w K:=by
 refine⟨a.eval x,ev σ x,?_,b,c⟩;rcases ho with ho|ho<;>simp[execOp,ho]
def qgB{c x y:Operand}(ho:o.op= .pick c x y)(hc:R tp I w (a.eval c) (ev σ c))(d:R tp I w (a.eval x) (ev σ x))(h:R tp I w (a.eval y) (ev σ y)){H:ab}
 (b:am (.pick c x y) σ H K):Good P o a tp I w K:=by
 simp only[am]at b;split at b
 ·rename_i t j;rw[j]at hc;have:=hc.inv_v;cases t
  ·exact⟨a.eval y,ev σ y,by simp_all [execOp,asBool],h,b.2 rfl⟩
  ·exact⟨a.eval x,ev σ x,by simp_all [execOp,asBool],d,b.1 rfl⟩
 grind
def qco{x:Operand}(ho:o.op= .nilCheck x)(b:R tp I w (a.eval x) (ev σ x)){H:ab}(c:am (.nilck x) σ H K):Good P o a tp I w K:=by
 simp only[am]at c;generalize d:a.eval x=q at b;split at c<;>first|exact c.elim|skip
 all_goals
  rename_i e;rw[e]at b;refine⟨q,_,?_,b,c⟩;cases b<;>simp[execOp,ho,d]
theorem jl{op:BinOp}{t u:TypeId}{x y:Operand}(ho:o.op= .binOp op t x y u)(c:op= .add\/op= .sub\/op= .mul\/op= .quo\/op= .rem\/op= .and\/op= .or\/op= .shl\/op= .shr)
 (h:R tp I w (a.eval x) (ev σ x)) (j:R tp I w (a.eval y) (ev σ y)) {H:ab} (b:am (.arith op x y) σ H K):Good P o a tp I w K:=by
 simp only[am]at b;split at b
 ·rename_i k p l q r s;rw[r]at h;rw[s]at j;have h1:=h.inv_v;have h2:=j.inv_v;obtain⟨hk,b⟩:=b;rcases c with rfl|rfl|rfl|rfl|rfl|rfl|rfl|rfl|rfl<;>simp only[jE]at b<;>first|(have d:k=l:=hk;subst d)|skip
  ·exact⟨_,_,by simp[execOp,ho,h1,h2,eqGuard,binOp,Op.intArith,b.1.wrap], .int _ _,b.2⟩
  ·exact⟨_,_,by simp[execOp,ho,h1,h2,eqGuard,binOp,Op.intArith,b.1.wrap], .int _ _,b.2⟩
  ·exact⟨_,_,by simp[execOp,ho,h1,h2,eqGuard,binOp,Op.intArith,b.1.wrap], .int _ _,b.2⟩
  ·exact⟨_,_,by simp[execOp,ho,h1,h2,eqGuard,binOp,Op.intDiv,b.1,b.2.1.wrap], .int _ _,b.2.2⟩
  ·exact⟨_,_,by simp_all [execOp,eqGuard,binOp,Op.intDiv], .int _ _,b.2⟩
  ·exact⟨_,_,by simp_all [execOp,eqGuard,binOp,Op.intBits,qcP], .int _ _,b⟩
  ·exact⟨_,_,by simp_all [execOp,eqGuard,binOp,Op.intBits,quG], .int _ _,b⟩
  ·exact⟨_,_,by simp[execOp,ho,h1,h2,eqGuard,binOp,Op.shift,Yh,show ¬q< 0 by omega], .int _ _,b.2⟩
  ·exact⟨_,_,by simp[execOp,ho,h1,h2,eqGuard,binOp,Op.shift,qfH,show ¬q< 0 by omega], .int _ _,b.2⟩
 grind
theorem ZI{op:BinOp}{t u:TypeId}{x y:Operand}(ho:o.op= .binOp op t x y u)
 (c:R tp I w (a.eval x) (ev σ x)) (d:R tp I w (a.eval y) (ev σ y)) {H:ab} (b:am (.cmp op x y) σ H K):Good P o a tp I w K:=by
 simp only[am]at b;split at b
 ·rename_i k p l q h j;rw[h]at c;rw[j]at d;have h1:=c.inv_v;have h2:=d.inv_v;obtain⟨rfl,b⟩:=b;cases op<;>simp only[qal]at b<;>first
   |exact b.elim
   |exact⟨_,_,by simp_all [execOp,eqGuard,binOp,Op.intCmp], .bool _,b⟩
 ·rename_i p q h j;rw[h]at c;rw[j]at d;have h1:=c.inv_v;have h2:=d.inv_v;cases op<;>simp only[qcG]at b<;>first
   |exact b.elim
   |exact⟨_,_,by simp_all [execOp,eqGuard,binOp,Op.stringOp], .bool _,b⟩
 grind
def qgz{t u:TypeId}{x y:Operand}(ho:o.op= .binOp .add t x y u)
 (c:R tp I w (a.eval x) (ev σ x)) (d:R tp I w (a.eval y) (ev σ y)) {H:ab} (b:am (.scat x y) σ H K):Good P o a tp I w K:=by
 simp only[am]at b;split at b
 ·rename_i p q h j;rw[h]at c;rw[j]at d;have h1:=c.inv_v;have h2:=d.inv_v;obtain⟨hb,b⟩:=b;have hn:¬((p.size:Int) +q.size > 9223372036854775807):=by omega
  refine⟨.string (p++q),_,?_, .str _ (by grind [maxLen]),b⟩;have:¬(9223372036854775807<(p.size:Int) +q.size):=by omega
  simp_all [execOp,eqGuard,binOp,Op.stringOp]
 grind
def qj9{t:TypeId}{x:Operand}(ho:o.op= .unOp .not t x)(d:R tp I w (a.eval x) (ev σ x)){H:ab}(c:am (.not x) σ H K):Good P o a tp I w K:=by
 simp only[am]at c;split at c
 ·rename_i b h;rw[h]at d;have h1:=d.inv_v;exact⟨_,_,by simp_all [execOp,Op.unary], .bool _,c⟩
 grind
def qka{t:TypeId}{x:Operand}(ho:o.op= .unOp .neg t x)(c:R tp I w (a.eval x) (ev σ x)){H:ab}(b:am (.neg x) σ H K):Good P o a tp I w K:=by
 simp only[am]at b;split at b
 ·rename_i k n d;rw[d]at c;have h1:=c.inv_v;have h2:=b.1.wrap;exact⟨.int k (0 -n),_,by simp_all [execOp,Op.unary,Op.intArith], .int _ _,b.2⟩
 grind
def qgG{s t:TypeId}{k d:IntKind}{x:Operand}(ho:o.op= .convert s t x)(hs:P.underlying s=some (.int d))(j:P.underlying t=some (.int k))
 (c:R tp I w (a.eval x) (ev σ x)) {H:ab} (b:am (.conv k x) σ H K):Good P o a tp I w K:=by
 simp only[am]at b;split at b
 ·rename_i l n h;rw[h]at c;have h1:=c.inv_v;exact⟨.int k (k.wrap n),_,by simp_all [execOp,convert,Conv.intToInt,run_underlying], .int _ _,b⟩
 grind
def qpA:∀{cs:List D} {xs b:List Value},qxw cs=some xs->b.length=cs.length->(∀(k:Nat) (x:Value) (c:D),b[k]? =some x->cs[k]? =some c->R tp I w x c)->b=xs
 | [],xs,b,h,hl,d=>by
   cases h<;>grind
 |c::cs,xs, [],h,hl,d=>by grind
 | c::cs,xs,y::b,h,hl,d=>by
   cases c<;>simp only[qxw]at h<;>try (cases h;done)
   rename_i v;obtain⟨j,h1,rfl⟩:=qFM.1 h;have h0:=(d 0 y (.v v) rfl rfl).inv_v;rw[h0,qpA h1 (by grind) λk x c l hc=>d (k+1) x c l hc]
def qgD{t:TypeId}{x:Operand}{fs:Array Field}(ho:o.op= .makeInterface t x)(l:P.underlying t=some (.struct fs))(c:R tp I w (a.eval x) (ev σ x)){H:ab}(b:am (.mkif t x) σ H K):Good P o a tp I w K:=by
 simp only[am]at b;split at b
 ·rename_i cs j;rw[j]at c;split at b
  ·rename_i xs d;generalize p:a.eval x=q at c;cases c with
   | agg k _ hl h1 h=>
     have:=qpA d hl h;subst this;refine⟨.iface t (.agg k.toArray),_,?_, .v _ rfl (λs hs=>by grind),b⟩;simp_all [execOp,Instr.makeInterface,run_underlying]
  grind
 grind
def qke{f:Nat}{first caps:Array Operand}(ho:o.op= .makeFunc (.func f) first caps)(h:first.isEmpty=true)(c:∀x∈caps.toList,R tp I w (a.eval x) (ev σ x)){H:ab}(b:am (.clo f caps.toList) σ H K):Good P o a tp I w K:=by
 simp only[am]at b;have d:first= #[]:=by grind
 obtain⟨caps⟩:=caps;simp only at b c;refine⟨.func (.func f) #[] (caps.map a.eval).toArray,_,by simp_all [execOp,Instr.makeFunc], .clo f _ _ (by simp) ?_,b⟩;grind
def qkd{x:Operand}{i:Nat}(ho:o.op= .extract x i)(c:R tp I w (a.eval x) (ev σ x)){H:ab}(b:am (.ext x i) σ H K):Good P o a tp I w K:=by
 simp only[am]at b;split at b
 ·rename_i ds j;split at b
  ·rename_i d k;rw[j]at c;generalize l:a.eval x=q at c;cases c with
   | tup xs ds hl h=>
     have hi:i<xs.length:=by grind
     refine⟨xs[i],d,by simp[execOp,ho,l,Instr.extract,hi],h i _ d (by simp) k,b⟩
  grind
 grind
end
section
variable {P:Program}{o:Oper}{a:Act}{tp I:Nat->Prop}{w:World}{σ:Sg}{K:D->Prop}
def vU{t:TypeId}{b:Bool}(h:il P t=some b)(w:World):(isAgg t).run P w= .ok b w:=by
 unfold il at h;cases c:P.underlying t with
 |none=>grind
 | some d=>
   rw[c]at h;unfold isAgg;rw[qF0,run_underlying c w];cases d<;>simp at h<;>subst h<;>simp
def be{t:TypeId}{n:Nat}(h:cF P t=some n)(w:World):(sizeOf t).run P w= .ok n w:=by
 unfold cF at h;cases b:P.info? t<;>simp_all [sizeOf,typeInfo]
def mj(b o n:Nat):(⟨b,o,none⟩:Addr).add n=⟨b,o+n,none⟩:=Addr.add_lit b o n
theorem qjO{t:TypeId}{agg:Bool}{sz:Nat}(r:il P t=some agg)(hs:cF P t=some sz)(h1:(agg||sz=1)=true){cs:List D}{off b base:Nat}{f:Nat->Value}(hlen:off+sz<=cs.length)
 (hcell:∀(k:Nat) (c:D),cs[k]? =some c->w.cell? ⟨b,base+k,none⟩=some (f k))
 (l:∀(k:Nat) (c:D),cs[k]? =some c->(f k).oneCell'=true)
 (h:∀(k:Nat) (c:D),cs[k]? =some c->R tp I w (f k) c):
 ∃x,(loadVar t ⟨b,base+off,none⟩).run P w= .ok x w/\R tp I w x (Tf agg sz cs off):=by
 have at_:∀j,j<sz->∃c,cs[off+j]? =some c:=λj p=>⟨cs[off+j]'(by omega),qFC (by omega)⟩
 have hl:(loadCells ⟨b,base+off,none⟩ sz).run P w= .ok ((List.range sz).map λj=>f (off+j)).toArray w:=
  run_loadCells w _ sz _ (λj p=>by
   grind [il,cF,mj])
 cases agg with
 | true=>
   refine⟨.agg ((List.range sz).map λj=>f (off+j)).toArray,by simp_all [loadVar,vU,be],?_⟩;simp only[Tf,if_true];refine .agg _ _ (by grind) (λx q=>?_) (λk x c q hc=>?_);grind;grind
 | false=>
   have d:sz=1:=by grind
   subst d;obtain⟨c,hc⟩:=at_ 0 (by omega);simp_all [loadVar,vU,Tf]
def tq{xs:Array Value}{cells:List D}{b el:Nat}(j:w.heap[b]? =some (.cells xs el (0,0)))(hl:xs.size=cells.length)(hc:ba (R tp I w) xs.toList cells):
 ∃f:Nat->Value,(∀(k:Nat) (c:D),cells[k]? =some c->w.cell? ⟨b,0+k,none⟩=some (f k))/\(∀(k:Nat) (c:D),cells[k]? =some c->(f k).oneCell'=true)/\(∀(k:Nat) (c:D),cells[k]? =some c->R tp I w (f k) c):=by
 refine⟨λk=>xs.getD k undef,λk c hk=>?_,λk c hk=>?_,λk c hk=>?_⟩
 all_goals
  have h:k<xs.size:=by grind
  have l:xs[k]? =some xs[k]:=by simp
  have d:xs.getD k undef=xs[k]:=by simp[Array.getD,h]
 ·dsimp only;rw[Nat.zero_add,cell_of_row w b k xs el (0,0) j,l,d]
 grind [ba]
 ·dsimp only;rw[d];exact(hc k _ c (by simp) hk).2
theorem qfL{xs:List Value}{x:Value}{el n:Nat}{es:List D}(ho:w.ownsRow 0 el n x es.length xs)(hn:∀d∈es,d.kn=true/\d.cells.length=n)(hc:ba (R tp I w) xs (bp es))
 {i:Nat} {d:D} (hi:es[i]? =some d) {b:Nat} (hb:x.ownBlock=some b):
 ∃f:Nat->Value,(∀(k:Nat) (c:D),d.cells[k]? =some c->w.cell? ⟨b,i*n+k,none⟩=some (f k))/\(∀(k:Nat) (c:D),d.cells[k]? =some c->(f k).oneCell'=true)/\(∀(k:Nat) (c:D),d.cells[k]? =some c->R tp I w (f k) c):=by
 have q:d.cells.length=n:=(hn d (qFF hi)).2;have j:=bh (es:=es) (λd r=>(hn d r).2);have s:i<es.length:=(qFB.1 hi).1;have key:∀(k:Nat) (c:D),d.cells[k]? =some c->∃y,xs[i*n+k]? =some y/\(bp es)[i*n+k]? =some c:=by
  intro k c hk;have t:k<n:=by grind
  have l:(bp es)[i*n+k]? =some c:=by grind [dY]
  have u:i*n+k<xs.length:=by
   have:=(qFB.1 l).1;rw[ho.1,<-j];omega
  simp_all
 refine⟨λk=>xs.getD (i*n+k) undef,λk c hk=>?_,λk c hk=>?_,λk c hk=>?_⟩
 all_goals
  obtain⟨y,p,l⟩:=key k c hk;have h:xs.getD (i*n+k) undef=y:=by grind
 ·dsimp only;rw[h];have:=ho.cells hb _ _ p;simp_all [mj]
 grind [ba]
 ·dsimp only;rw[h];exact(hc _ _ c p l).2
theorem Tm{t:TypeId}{agg:Bool}{sz:Nat}{x:Operand}(ho:o.op= .load t x)(O:il P t=some agg)(hs:cF P t=some sz)(h1:(agg||sz=1)=true)(l:R tp I w (a.eval x) (ev σ x)){H Hr:ab}
 (p:∀i r,Hr i=some r->H i=some r) (d:∀i r,H i=some r->ResOk (R tp I w) w r) (j:am (.load agg sz x) σ Hr K):Good P o a tp I w K:=by
 simp only[am]at j;generalize W:a.eval x=q at l;have fin:∀(b base off:Nat) (cs:List D) (f:Nat->Value),q= .pointer (some ⟨b,base+off,none⟩)->off+sz<=cs.length->(∀(k:Nat) (c:D),cs[k]? =some c->w.cell? ⟨b,base+k,none⟩=some (f k))->
  (∀(k:Nat) (c:D),cs[k]? =some c->(f k).oneCell'=true)->(∀(k:Nat) (c:D),cs[k]? =some c->R tp I w (f k) c)->K (Tf agg sz cs off)->Good P o a tp I w K:=by
  intro b base off cs f Q hlen s u A hk;obtain⟨y,Y,S⟩:=qjO (P:=P) O hs h1 hlen s u A;exact⟨y,_,by simp_all [execOp,Instr.loadAt,Instr.sureAddr],S,hk⟩
 split at j
 ·rename_i cs off C;rw[C]at l;cases l with
  |cptr b base _ _ f hI hz hcell E h=>exact fin b base off cs f rfl j.1 hcell E h j.2
 ·rename_i id b off C;rw[C]at l;cases l;split at j
  ·rename_i b' cells F;obtain⟨rfl,hlen,hk⟩:=j;obtain⟨xs,el,J,L,M⟩:=d _ _ (p _ _ F);obtain⟨f,s,u,A⟩:=tq J L M;exact fin b' 0 off cells f (by simp) hlen s u A hk
  grind
 ·rename_i id y n i off C;rw[C]at l;cases l with
  | eptr _ b len cap _ _ _=>
    split at j
    ·rename_i Z el U es F;obtain⟨rfl,rfl,hlen,hi,hk⟩:=j;obtain⟨xs,J,L,M⟩:=d _ _ (p _ _ F);have N:es[i]? =some es[i]:=by simp
     obtain⟨f,s,u,A⟩:=qfL J L M N (b:=b) rfl;exact fin b (i*U) off es[i].cells f rfl (by grind) s u A (hk _ N)
    grind
 grind
theorem qkc{t:TypeId}{fs:Array Field}{fi:Nat}{fd:Field}{agg:Bool}{sz:Nat}{x:Operand}(ho:o.op= .field t x fi)(u:P.underlying t=some (.struct fs))(A:fs[fi]? =some fd)
 (C:il P fd.type=some agg) (hs:cF P fd.type=some sz) (h1:(agg||sz=1)=true) (r:R tp I w (a.eval x) (ev σ x)) {H:ab} (j:am (.fld agg sz fd.offset x) σ H K):Good P o a tp I w K:=by
 simp only[am]at j;split at j
 ·rename_i cs E;rw[E]at r;obtain⟨xs,F,hl,hc⟩:=r.inv_agg;obtain⟨hlen,hk⟩:=j;cases agg with
  | true=>
    refine⟨.agg ((xs.drop fd.offset).take sz).toArray,_,?_,?_,hk⟩
    ·simp only[execOp,ho,F,Instr.field,asAgg,qF0,run_underlying u,qFR,A,part,vU C,be hs,qF9,if_true];simp
    ·simp only[Tf,if_true];refine .agg _ _ (by grind) (λy h=>?_) (λk y c h d=>?_)
     ·have l:=qGw (qF1 h);obtain⟨k,p⟩:=qF3.1 l;have b:k<cs.length:=by grind
      exact(hc k y _ p (qFC b)).1
     ·rw[qFX]at h d;split at h
      ·rename_i b;rw[if_pos b]at d;rw[qGx]at h d;exact(hc _ y c h d).2
      grind
  | false=>
    have q:sz=1:=by grind
    subst q;have b:fd.offset<cs.length:=by omega
    have s:fd.offset<xs.length:=by omega
    refine⟨xs[fd.offset],_,?_,?_,hk⟩;simp_all [execOp,Instr.field,asAgg,part,run_underlying,vU]
    ·simp only[Tf,qGt,if_false,qFC b,qGp];exact(hc fd.offset _ _ (by simp) (by simp)).2
 grind
theorem wQ{d:Nat}{x:Operand}(run:∀b off,a.eval x= .pointer (some ⟨b,off,none⟩)->(execOp a.eval o).run P w= .ok (.value (.pointer (some ⟨b,off+d,none⟩))) w)
 (c:R tp I w (a.eval x) (ev σ x)) {H:ab} (j:am (.faddr d x) σ H K):Good P o a tp I w K:=by
 simp only[am]at j;generalize p:a.eval x=q at c run;split at j
 ·rename_i cs off k;rw[k]at c;cases c with
  | cptr b base _ _ f hI hz hcell l h=>
    refine⟨_,_,run _ _ rfl,?_,j⟩;rw[qHR];exact .cptr b base cs _ f hI hz hcell l h
 ·rename_i id b off k;rw[k]at c;cases c;exact⟨_,_,run _ _ rfl, .bptr _ _ _,j⟩
 ·rename_i id y n i off k;rw[k]at c;cases c with
  | eptr _ b len cap _ _ _=>
    refine⟨_,_,run _ _ rfl,?_,j⟩;rw[qHR];exact .eptr id b len cap n i _
 grind
def qcq{t:TypeId}{fs:Array Field}{fi:Nat}{fd:Field}{sz:Nat}{x:Operand}(ho:o.op= .fieldAddr t x fi)(j:P.underlying t=some (.struct fs))(k:fs[fi]? =some fd)
 (hs:cF P fd.type=some sz) (h0:0<sz) (c:R tp I w (a.eval x) (ev σ x)) {H:ab} (d:am (.faddr fd.offset x) σ H K):Good P o a tp I w K:=by
 have h:sz≠0:=by omega
 refine wQ (λb off hb=>?_) c d;simp_all [execOp,Instr.fieldAt,Instr.sureAddr,fieldPlace,mj,run_underlying,be]
def qct{t el:TypeId}{len sz:Nat}{k:Int}{x:Operand}(ho:o.op= .indexAddr t x (.const (.int .i64 k)))(c:P.underlying t=some (.array len el))(hs:cF P el=some sz)(h0:0<=k/\k<len)
 (d:R tp I w (a.eval x) (ev σ x)) {H:ab} (h:am (.faddr (k.toNat*sz) x) σ H K):Good P o a tp I w K:=by
 refine wQ (λb off hb=>?_) d h;have hc:a.eval (.const (.int .i64 k))= .int .i64 k:=rfl;simp[execOp,ho,hc,hb,Instr.indexAt,asIntOf,run_underlying c,Instr.sureAddr,h0.1,h0.2,be hs,mj]
theorem qcp{t el:TypeId}{n:Nat}{x i:Operand}(ho:o.op= .indexAddr t x i)(O:P.underlying t=some (.slice el))(hs:cF P el=some n)
 (s:R tp I w (a.eval x) (ev σ x)) (hi:R tp I w (a.eval i) (ev σ i)) {H Hr:ab} (L:∀i r,Hr i=some r->H i=some r) (A:∀i r,H i=some r->ResOk (R tp I w) w r)
 (u:am (.iaddr n x i) σ Hr K):Good P o a tp I w K:=by
 simp only[am]at u;generalize Q:a.eval x=q at s;split at u
 ·rename_i kk k S;rw[S]at hi;have M:=hi.inv_v;have run:∀b off len cap,q= .slice (some ⟨b,off,none⟩) len cap->0<=k->k<len->(execOp a.eval o).run P w= .ok (.value (.pointer (some ⟨b,off+k.toNat*n,none⟩))) w:=by
   intro b off len cap hb h0 h1;simp[execOp,ho,Q,M,hb,Instr.indexAt,asIntOf,run_underlying O,h0,h1,be hs,mj]
  split at u
  ·rename_i d es C;rw[C]at s;obtain⟨rfl,h0,h1,hk⟩:=u;cases s with
   |nolist=>grind
   | list b off cap _ _ f hI hc hm hz hn hcell l h=>
     have E:k.toNat<es.length:=by omega
     have U:es[k.toNat]? =some es[k.toNat]:=by simp
     refine⟨_,_,run b off _ cap rfl h0 h1,?_,hk _ U⟩;have F:∀(j:Nat) (c:D),es[k.toNat].cells[j]? =some c->(bp es)[k.toNat*d+j]? =some c:=λj c J=>by
      grind [ResOk,dY]
     exact .cptr b (off+k.toNat*d) es[k.toNat].cells 0 (λj=>f (k.toNat*d+j)) hI (by grind) (λj c J=>by grind) (λj c J=>l _ c (F j c J)) (λj c J=>h _ c (F j c J))
  ·rename_i id y C;rw[C]at s;cases s with
   | own _ _ l=>
     split at u
     ·rename_i x' W d es Y;obtain⟨rfl,rfl,h0,h1,hk⟩:=u;obtain⟨xs,⟨Z,N⟩,g3⟩:=A _ _ (L _ _ Y);rcases N with⟨_,h4⟩|⟨g,cap,cur,rfl,_⟩
      omega
      ·refine⟨_,_,run g 0 _ cap rfl h0 h1,?_,hk⟩;rw[qGn,<-qGN (k.toNat*d)];exact .eptr id g _ cap d k.toNat 0
     grind
  ·rename_i id y d lo hi C;rw[C]at s;obtain⟨rfl,h0,h1,hk⟩:=u;cases s with
   |subnil=>omega
   | sub _ b len cap _ _ _ p Z N g3 hm hp=>
     have E:lo<cap:=by omega
     have:=hp (.inl E);subst this;refine⟨_,_,run b (lo*d) _ _ rfl h0 h1,?_,hk⟩;rw[<-qHb,<-qGN ((lo+k.toNat) *d)];exact .eptr id b len cap d (lo+k.toNat) 0
  grind
 grind
theorem qgy{t:TypeId}{x i:Operand}(ho:o.op= .index t x i)(y:P.underlying t=some .string)
 (h:R tp I w (a.eval x) (ev σ x)) (hi:R tp I w (a.eval i) (ev σ i)) {H:ab} (d:am (.sidx x i) σ H K):Good P o a tp I w K:=by
 simp only[am]at d;split at d
 ·rename_i A k l;rw[l]at hi;have p:=hi.inv_v;split at d
  ·rename_i s q;rw[q]at h;have r:=h.inv_v;obtain⟨h0,h1,hk⟩:=d;have b:k.toNat<s.size:=by omega
   have j:k.toNat<s.data.size:=b;have c:s.data[k.toNat]? =some s.data[k.toNat]:=by simp
   refine⟨.int .u8 (s.data[k.toNat]).toNat,_,?_, .int _ _,hk _ c⟩;have u:s[k.toNat]? =some (s.data[k.toNat]):=by
    rw[getElem?_pos s k.toNat b];rfl
   simp_all [execOp,Instr.index,asIntOf,run_underlying]
  grind
 grind
theorem qkb{t e:TypeId}{c:Call}{x:Operand}(ho:o.op= .call c)(hc:c.callee= .builtin .len)(s:c.argTypes.toList=[t])(d:c.args.toList=[x])(J:P.underlying t=some (.slice e))
 (j:R tp I w (a.eval x) (ev σ x)) {H Hr:ab} (E:∀i r,Hr i=some r->H i=some r) (u:∀i r,H i=some r->ResOk (R tp I w) w r)
 (k:am (.len x) σ Hr K):Good P o a tp I w K:=by
 obtain⟨cl,⟨args⟩,⟨L⟩⟩:=c;simp only at s d hc;subst s;subst d;subst hc;simp only[am]at k;generalize M:a.eval x=q at j;have run:∀b n cap,q= .slice b n cap->(execOp a.eval o).run P w= .ok (.value (.int .i64 n)) w:=by
  intro b n cap hb;simp[execOp,ho,resolve,invoke,builtin,M,hb,Builtin.len_,run_underlying J,goInt]
 split at k
 ·rename_i n es l;rw[l]at j;cases j with
  |nolist b cap _=>exact⟨_,_,run b 0 cap rfl, .int _ _,by grind⟩
  |list b off cap _ _ f hI A hm hz hn hcell C h=>exact⟨_,_,run _ _ _ rfl, .int _ _,k (by grind [ResOk,D,ev,PlainB,maxLen])⟩
 ·rename_i id y l;rw[l]at j;cases j with
  | own _ _ C=>
    split at k
    ·rename_i U el N es O;obtain⟨rfl,hk⟩:=k;obtain⟨xs,⟨Q,F⟩,S⟩:=u _ _ (E _ _ O);rcases F with⟨rfl,h4⟩|⟨g,cap,cur,rfl,_,_,A,hm,_⟩
     ·have:es=[]:=qFU h4;subst this;exact⟨_,_,run _ 0 _ rfl, .int _ _,by grind⟩
     ·exact⟨_,_,run _ _ _ rfl, .int _ _,hk (by grind [maxLen])⟩
    grind
 ·rename_i l;rw[l]at j;have:=j.inv_v;exact⟨_,_,run _ _ _ this, .int _ _,k⟩
 ·rename_i id y N lo hi l;rw[l]at j;cases j with
  |subnil=>exact⟨_,_,run _ 0 _ rfl, .int _ _,by grind⟩
  |sub _ b len cap _ _ _ p Q F S hm hp=>exact⟨_,_,run _ _ _ rfl, .int _ _,k (by grind [maxLen])⟩
 grind
def qkf{t e:TypeId}{c:Call}{x:Operand}(ho:o.op= .call c)(hc:c.callee= .builtin .cap)(d:c.argTypes.toList=[t])(b:c.args.toList=[x])(k:P.underlying t=some (.slice e))
 (j:R tp I w (a.eval x) (ev σ x)) {Hr:ab} (h:am (.cap x) σ Hr K):Good P o a tp I w K:=by
 obtain⟨cl,⟨args⟩,⟨l⟩⟩:=c;simp only at d b hc;subst d;subst b;subst hc;simp only[am]at h;split at h
 ·rename_i p;rw[p]at j;have:=j.inv_v;refine⟨.int .i64 0,_,?_, .int _ _,h⟩;simp[execOp,ho,resolve,invoke,builtin,this,Builtin.cap_,run_underlying k,goInt]
 grind
def qgx{t:TypeId}{c:Call}{x:Operand}(ho:o.op= .call c)(hc:c.callee= .builtin .len)(d:c.argTypes.toList=[t])(b:c.args.toList=[x])(k:P.underlying t=some .string)
 (j:R tp I w (a.eval x) (ev σ x)) {H:ab} (h:am (.slen x) σ H K):Good P o a tp I w K:=by
 obtain⟨cl,⟨args⟩,⟨l⟩⟩:=c;simp only at d b hc;subst d;subst b;subst hc;simp only[am]at h;split at h
 ·rename_i s p;rw[p]at j;obtain⟨h1,h2⟩:=j.inv_str;refine⟨.int .i64 s.size,_,?_, .int _ _,h (by grind [maxLen])⟩;simp[execOp,ho,resolve,invoke,builtin,h1,Builtin.len_,run_underlying k,goInt]
 grind
theorem qfM{xs:List Value}{es:List D}(hl:xs.length=es.length)(hb:qpS es=true)(h:∀(k:Nat) (y:Value) (c:D),xs[k]? =some y->es[k]? =some c->R tp I w y c):
 ∃b:List Int,xs=b.map (Value.int .u8)/\b.map (λn=>UInt8.ofNat n.toNat)=es.map λd=>(qcM d).getD 0:=by
 induction xs generalizing es with
 | nil=>
   have:es=[]:=qFU (by grind);simp_all
 | cons x xs l=>
   cases es with
   |nil=>grind
   | cons d es=>
     simp only[qpS,qHo,qFJ]at hb;obtain⟨b,h1,h2⟩:=l (es:=es) (by grind) hb.2 (λk y c q hc=>h (k+1) y c (by grind) (by grind));have p:=h 0 x d rfl rfl;cases j:qcM d with
     |none=>grind
     | some c=>
       unfold qcM at j;split at j
       ·rename_i n;cases j;have:=p.inv_v;subst this;refine⟨n::b,by grind,?_⟩;simp only[qF6,h2];rfl
       grind
def qav:∀{es:List D},qpS es=true->bp es=es
 | [],_=>rfl
 | d::es,hb=>by
   simp only[qpS,qHo,qFJ]at hb;have b:=hb.1;have:d.cells=[d]:=by
    cases d<;>first|rfl|grind [qcM]
   have c:=qav (es:=es) hb.2;grind [bp]
def qcx(l:List Int):∀s:ByteArray,l.foldl (λr n=>r.push (UInt8.ofNat n.toNat)) s=⟨s.data++ (l.map λn=>UInt8.ofNat n.toNat).toArray⟩:=by
 induction l<;>simp_all
def ZV(n:Int):(Utf8.encode n).size<=4:=by
 unfold Utf8.encode;simp only;generalize (if Utf8.valid n=true then n.toNat else Utf8.runeError)=c;split
 ·exact qFE rfl
 ·split
  ·exact qFE rfl
  ·split<;>exact qFE rfl
def qgA{t u:TypeId}{k:IntKind}{x:Operand}(ho:o.op= .convert t u x)(h:P.underlying t=some (.int k))(j:P.underlying u=some .string)
 (c:R tp I w (a.eval x) (ev σ x)) {H:ab} (b:am (.rstr x) σ H K):Good P o a tp I w K:=by
 simp only[am]at b;split at b
 ·rename_i l n d;rw[d]at c;have h1:=c.inv_v;refine⟨_,_,?_, .str (Utf8.encode n) (qGg (ZV n) (qFE rfl)),b⟩;simp_all [execOp,convert,Conv.intToString,run_underlying]
 grind
theorem qgH{t u el:TypeId}{x:Operand}(ho:o.op= .convert t u x)(M:P.underlying t=some (.slice el))(N:P.underlying u=some .string)(he:P.underlying el=some (.int .u8))
 (l:R tp I w (a.eval x) (ev σ x)) {H Hr:ab} (C:∀i r,Hr i=some r->H i=some r) (p:∀i r,H i=some r->ResOk (R tp I w) w r)
 (s:am (.bstr x) σ Hr K):Good P o a tp I w K:=by
 simp only[am]at s;generalize W:a.eval x=q at l;have nil:q= .slice none 0 0->(execOp a.eval o).run P w= .ok (.value (.string ⟨#[]⟩)) w:=λhb=>by
  have:=run_convert_bytes_string (P:=P) w t u el none 0 0 M he N;simp only[execOp,ho,W,hb,qF0,this,Conv.bytesToString,qF9,qFR];rfl
 split at s
 ·rename_i id y E;rw[E]at l;cases l with
  | own _ _ O=>
    split at s
    ·rename_i x' Y n' es Z;obtain⟨rfl,rfl,hb,hk⟩:=s;obtain⟨xs,h,g3,Q⟩:=p _ _ (C _ _ Z);have b:=λg hg=>h.cells (g:=g) hg
     obtain⟨g1,g2⟩:=h;have hfl:=bh (es:=es) (λd hd=>(g3 d hd).2);have A:xs.length=es.length:=by omega
     have F:bp es=es:=by
      exact qav hb
     rw[F]at Q;obtain⟨S,h1,h2⟩:=qfM A hb (λk y c hy hc=>(Q k y c hy hc).2);have hs:qst es=⟨(S.map λn=>UInt8.ofNat n.toNat).toArray⟩:=by rw[h2];rfl
     have hsz:(qst es).size=es.length:=by show((es.map λd=>(qcM d).getD 0).toArray).size=_;simp
     rcases g2 with⟨rfl,h4⟩|⟨g,cap,cur,rfl,_,_,U,hm,_⟩
     ·have J:es=[]:=qFU h4;subst J;exact⟨_,_,nil rfl, .str _ (by grind),hk⟩
     ·refine⟨.string (qst es),_,?_, .str _ (by omega),hk⟩;have hc:=run_convert_bytes_string (P:=P) w t u el (some ⟨g,0,none⟩) es.length cap M he N;have hl:=run_loadCells_list (P:=P) w ⟨g,0,none⟩ xs (λj v hj=>b g rfl j v hj);rw[A,h1]at hl;have L:=run_bytesToString (P:=P) w ⟨g,0,none⟩ es.length cap S hl;rw[qcx,show ByteArray.empty.data= #[]from rfl,Array.empty_append,<-hs]at L;grind [execOp,qF0,qF9,qFR]
    grind
 ·rename_i E;rw[E]at l;have:=l.inv_v;exact⟨_,_,nil this, .str _ (by simp[ByteArray.size,maxLen]),s⟩
 grind
theorem qeh{mx:Bool}{c:Call}(ho:o.op= .call c)(hc:c.callee= .builtin (if mx then .max else .min))
 (j:∀x∈c.args.toList,R tp I w (a.eval x) (ev σ x)) {H:ab} (b:am (.mm mx c.args.toList) σ H K):Good P o a tp I w K:=by
 obtain⟨cl,⟨args⟩,u⟩:=c;simp only at j hc b;subst hc
 match args,j,b with
 | [],_,b=>exact b.elim
 | [_],_,b=>exact b.elim
 | [x,y],j,b=>
   simp only[am]at b;split at b
   ·rename_i k p A q s t;obtain⟨rfl,hk⟩:=b;have d:=j x (by simp);rw[s]at d;have h:=j y (by simp);rw[t]at h;have h1:=d.inv_v;have h2:=h.inv_v;refine⟨_,_,?_, .int _ _,hk⟩;cases mx
    ·simp[execOp,ho,resolve,invoke,builtin,h1,h2,Builtin.min_,Builtin.min2];omega
    ·simp[execOp,ho,resolve,invoke,builtin,h1,h2,Builtin.max_,Builtin.max2];omega
   grind
 | [x,y,z],j,b=>
   simp only[am]at b;split at b
   ·rename_i k p A q C r s t E;obtain⟨rfl,rfl,hk⟩:=b;have d:=j x (by simp);rw[s]at d;have h:=j y (by simp);rw[t]at h;have l:=j z (by simp);rw[E]at l;have h1:=d.inv_v;have h2:=h.inv_v;have h3:=l.inv_v;refine⟨_,_,?_, .int _ _,hk⟩;cases mx
    ·simp[execOp,ho,resolve,invoke,builtin,h1,h2,h3,Builtin.min_,Builtin.min2];omega
    ·simp[execOp,ho,resolve,invoke,builtin,h1,h2,h3,Builtin.max_,Builtin.max2];omega
   grind
 | _::_::_::_::_,_,b=>exact b.elim
end
end
end Go.Gv
