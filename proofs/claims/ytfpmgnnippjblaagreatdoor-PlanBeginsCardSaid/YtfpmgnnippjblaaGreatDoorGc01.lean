/- A -/
import Derived.WalkKit
import Derived.Orders
import Derived.Below
set_option linter.all false
namespace Go.Gv
def i' {α:Sort _} (a:α):α:=a
def qF3:=@Option.bind_eq_some_iff
def qF4:=@List.getElem?_eq_some_iff
def qF5:=@Option.bind_eq_bind
def qF6:=@List.getElem?_eq_getElem
def qF7:=@List.mem_of_getElem?
def qF8:=@Nat.le_of_ble_eq_true
def qF9:=@Bool.and_eq_true
def qGa:=@List.all_eq_true
def qGb:=@Nat.le_refl
def qGc:=@List.take_length
def qGd:=@List.mem_map
def qGe:=@Option.map_eq_some_iff
def qGf:=@Option.some.inj
def qGg:=@Array.getElem?_eq_some_iff
def qGh:=@Option.some.injEq
def qGi:=@List.mem_append
def qGj:=@Result.andThen_ok
def qGk:=@List.eq_nil_of_length_eq_zero
def qGl:=@Nat.lt_of_lt_of_le
def qGm:=@List.mem_cons
def qGn:=@List.getElem?_map
def qGo:=@List.getElem?_take
def qGp:=@List.mem_iff_getElem?
def qGq:=@List.mem_of_mem_take
def qGr:=@Nat.zero_le
def qGs:=@Sem.run_bind
def qGt:=@Option.bind_some
def qGu:=@List.getElem?_eq_none
def qGv:=@List.length_take
def qGw:=@Nat.mul_le_mul_right
def qGx:=@Array.getElem?_toList
def qGy:=@Sem.run_pure
def qGz:=@List.not_mem_nil
def qGA:=@Nat.le_trans
def qGB:=@List.take_append_drop
def qGC:=@List.length_append
def qGD:=@Bool.eq_iff_iff
def qGE:=@List.length_map
def qGF:=@List.cons.injEq
def qGG:=@List.map_cons
def qGH:=@List.getElem?_append_right
def qGI:=@List.getElem?_append_left
def qGJ:=@Option.getD_some
def qGK:=@Option.isSome_iff_exists
def qGL:=@Array.getD_eq_getD_getElem?
def qGM:=@List.mapM_cons
def qGN:=@List.ext_getElem?
def qGO:=@List.mem_of_mem_drop
def qGP:=@List.drop_eq_getElem_cons
def qGQ:=@Bool.false_eq_true
def qGR:=@List.take_of_length_le
def qGS:=@Nat.zero_add
def qGT:=@List.length_cons
def qGU:=@List.drop_length
def qGV:=@Array.length_toList
def qGW:=@List.length_eq_zero_iff
def qGX:=@Array.getElem?_append_left
def qGY:=@Array.getElem?_eq_getElem
def qGZ:=@List.map_congr_left
def qG0:=@List.flatMap_cons
def qG1:=@List.nil_append
def qG2:=@List.mem_filter
def qG3:=@List.pairwise_append
def qG4:=@List.cons_append
def qG5:=@List.any_eq_true
def qG6:=@List.append_assoc
def qG7:=@List.take_add_one
def qG8:=@List.getElem?_drop
def qG9:=@List.length_drop
def qHa:=@Nat.eq_zero_or_pos
def qHb:=@Int.le_refl
def qHc:=@Nat.succ_mul
def qHd:=@List.mem_or_eq_of_mem_set
def qHe:=@List.pairwise_iff_getElem
def qHf:=@List.foldl_cons
def qHg:=@List.append_nil
def qHh:=@List.length_eq_one_iff
def qHi:=@List.getElem?_set_self
def qHj:=@List.map_nil
def qHk:=@List.mem_singleton
def qHl:=@List.pairwise_cons
def qHm:=@Code.wp_mono
def qHn:=@List.size_toArray
def qHo:=@World.ownsRow_nil
def qHp:=@Nat.le_succ
def qHq:=@Nat.add_zero
def qHr:=@List.filter_eq_self
def qHs:=@Bool.true_and
def qHt:=@Option.map_none
def qHu:=@Nat.mod_lt
def qHv:=@Nat.div_add_mod
def qHw:=@List.filter_append
def qHx:=@UInt8.toNat_ofNat'
def qHy:=@Nat.add_mul
def qHz:=@List.drop_eq_nil_of_le
def qHA:=@List.length_replicate
def qHB:=@Iff.rfl
def qHC:=@List.mem_range
def qHD:=@Int.mul_nonneg
def qHE:=@List.getElem_mem
def qHF:=@List.mem_cons_of_mem
def qHG:=@List.all_cons
def qHH:=@ByteArray.toList_eq
def qHI:=@List.length_nil
def qHJ:=@Option.map_some
def qHK:=@List.rel_of_pairwise_cons
def qHL:=@List.map_append
def qHM:=@List.nodup_cons
def qHN:=@Nat.sub_self
def qHO:=@Nat.le_mul_of_pos_right
def qHP:=@Classical.axiomOfChoice
def qHQ:=@Int.toNat_natCast
def qHR:=@List.set_eq_take_append_cons_drop
def qHS:=@Array.getElem?_eq_none
def qHT:=@List.drop_nil
def qHU:=@List.range'_succ
def qHV:=@List.filter_cons
def qHW:=@List.mem_flatMap
def qHX:=@Array.getElem?_modify
def qHY:=@World.cell?_of_block
def qHZ:=@List.range_eq_range'
def qH0:=@Nat.div_lt_of_lt_mul
def qH1:=@World.grownBy_alloc
def qH2:=@List.flatMap_append
def qH3:=@List.take_zero
def qH4:=@Nat.add_sub_cancel
def qH5:=@List.take_nil
def qH6:=@Prod.mk.injEq
def qH7:=@Bool.not_eq_true'
def qH8:=@List.eq_of_mem_replicate
def qH9:=@Nat.mul_comm
def qIa:=@RowKit.Below.heap_alloc
def qIb:=@List.length_set
def qIc:=@List.nodup_nil
def qId:=@Nat.add_assoc
def qIe:=@List.replicate_zero
def qIf:=@List.replicate_succ
def qIg:=@List.filter_sublist
def qIh:=@List.getElem?_range
def qIi:=@List.mem_cons_self
def qIj:=@List.append_of_mem
def qIk:=@List.map_set
def qIl:=@Array.size_append
def qIm:=@List.flatten_cons
def qIn:=@ByteArray.ext_iff
def qIo:=@Array.all_eq_true
def qIp:=@List.foldl_append
inductive D where
 |any
 |undef
 |v (x:Value)
 |agg (cs:List D)
 |list (n:Nat) (es:List D)
 |cptr (cs:List D) (off:Nat)
 |bptr (id b off:Nat)
 |own (id:Nat) (x:Value)
 |eptr (id:Nat) (x:Value) (n i off:Nat)
 |sub (id:Nat) (x:Value) (n lo hi:Nat)
 |tape (L:List Int)
 |clo (f:Nat) (caps:List D)
 |tup (ds:List D)
 |mp (es:List D)
 |mst (cur es:List D)
def D.cells:D->List D
 | .agg cs=>cs
 |d=>[d]
def D.kn:D->Bool
 | .any| .undef| .tup _| .mst _ _=>false
 | _=>true
def bq(es:List D):List D:=es.flatMap D.cells
def slen:Value->Nat
 | .slice _ n _=>n
 | _=>0
def PlainB(w:World)(b:Nat):Prop:=∃(xs:Array Value) (el:Nat),w.heap[b]? =some (.cells xs el (0,0))
def PH(m:Option Nat)(since:Nat)(seen:Array Nat)(last:Nat):Value:= .tuple #[.map m, .int .i64 since, .agg (seen.map λ(n:Nat)=> .int .i64 n), .int .i64 last]
def jq(es:Array MapEntry)(seen:Array Nat):List MapEntry:=es.toList.filter λe=>!seen.contains e.born
def fI(es:Array MapEntry)(clock:Nat):Prop:=(∀e∈es.toList,e.born<clock)/\(es.toList.map (·.born)).Nodup
inductive R (tp I:Nat->Prop) (w:World):Value->D->Prop
 |any (x:Value):R tp I w x .any
 |undef:R tp I w Go.undef .undef
 |v (x:Value) (h:x.oneCell'=true) (hs:∀s,x= .string s->s.size<=maxLen):R tp I w x (.v x)
 | agg (xs:List Value) (cs:List D) (hl:xs.length=cs.length) (h1:∀x∈xs,x.oneCell'=true)
    (h:∀(k:Nat) (x:Value) (c:D),xs[k]? =some x->cs[k]? =some c->R tp I w x c):R tp I w (.agg xs.toArray) (.agg cs)
 |nolist (a:Option Addr) (cap n:Nat):R tp I w (.slice a 0 cap) (.list n [])
 | list (b off cap n:Nat) (es:List D) (f:Nat->Value) (hI:I b) (hc:es.length<=cap) (hm:cap<=maxLen)
    (hz:n≠1->PlainB w b) (hn:∀d∈es,d.kn=true/\d.cells.length=n)
    (hcell:∀(k:Nat) (c:D),(bq es)[k]? =some c->w.cell? ⟨b,off+k,none⟩=some (f k))
    (h1:∀(k:Nat) (c:D),(bq es)[k]? =some c->(f k).oneCell'=true)
    (h:∀(k:Nat) (c:D),(bq es)[k]? =some c->R tp I w (f k) c):R tp I w (.slice (some ⟨b,off,none⟩) es.length cap) (.list n es)
 | cptr (b base:Nat) (cs:List D) (off:Nat) (f:Nat->Value) (hI:I b) (hz:cs.length≠1->PlainB w b)
    (hcell:∀(k:Nat) (c:D),cs[k]? =some c->w.cell? ⟨b,base+k,none⟩=some (f k))
    (h1:∀(k:Nat) (c:D),cs[k]? =some c->(f k).oneCell'=true)
    (h:∀(k:Nat) (c:D),cs[k]? =some c->R tp I w (f k) c):R tp I w (.pointer (some ⟨b,base+off,none⟩)) (.cptr cs off)
 |bptr (id b off:Nat):R tp I w (.pointer (some ⟨b,off,none⟩)) (.bptr id b off)
 |own (id:Nat) (x:Value) (h:x.oneCell'=true):R tp I w x (.own id x)
 |eptr (id:Nat) (b len cap n i off:Nat):R tp I w (.pointer (some ⟨b,i*n+off,none⟩)) (.eptr id (.slice (some ⟨b,0,none⟩) len cap) n i off)
 |subnil (id n:Nat):R tp I w (.slice none 0 0) (.sub id (.slice none 0 0) n 0 0)
 | sub (id b len cap n lo hi:Nat) (p:Option Addr) (h1:lo<=hi) (h2:hi<=len) (h3:len<=cap) (hm:cap<=maxLen) (hp:lo<cap\/lo=0->p=some ⟨b,lo*n,none⟩):
    R tp I w (.slice p (hi -lo) (cap -lo)) (.sub id (.slice (some ⟨b,0,none⟩) len cap) n lo hi)
 | tape (b:Nat) (L:List Int) (s:Value) (i:Int) (el:Nat) (hb:tp b) (hh:w.heap[b]? =some (.cells #[s, .int .i64 i] el (0,0)))
    (h0:0<=i) (h1:i<=slen s) (hs:slen s=L.length) (h:R tp I w s (.list 1 (L.map λn=> .v (.int .i64 n)))):R tp I w (.pointer (some ⟨b,0,none⟩)) (.tape L)
 | clo (f:Nat) (xs:List Value) (caps:List D) (hl:xs.length=caps.length)
    (h:∀(k:Nat) (x:Value) (c:D),xs[k]? =some x->caps[k]? =some c->R tp I w x c):R tp I w (.func (.func f) #[] xs.toArray) (.clo f caps)
 | tup (xs:List Value) (ds:List D) (hl:xs.length=ds.length)
    (h:∀(k:Nat) (x:Value) (c:D),xs[k]? =some x->ds[k]? =some c->R tp I w x c):R tp I w (.tuple xs.toArray) (.tup ds)
 |nomp:R tp I w (.map none) (.mp [])
 | mp (b:Nat) (es:Array MapEntry) (clock:Nat) (ds:List D) (hI:I b) (hh:w.heap[b]? =some (.map es clock)) (hl:es.size=ds.length) (hb:fI es clock)
    (h:∀(k:Nat) (e:MapEntry) (c:D),es[k]? =some e->ds[k]? =some c->R tp I w (.tuple #[e.key,e.val]) c):R tp I w (.map (some b)) (.mp ds)
 |nomst (since last:Nat) (seen:Array Nat):R tp I w (PH none since seen last) (.mst [] [])
 | mst (b:Nat) (es:Array MapEntry) (clock since last:Nat) (seen:Array Nat) (ce:MapEntry) (cur ds:List D) (hI:I b) (hh:w.heap[b]? =some (.map es clock)) (hb:fI es clock)
    (hs:∀e∈es.toList,e.born<since) (hsl:since<=last/\since<=clock) (hl:(jq es seen).length=ds.length)
    (hc:cur=[]\/(cur.length=1/\seen.back? =some ce.born/\ce∈es.toList/\last=clock)) (hcr:∀c,cur=[c]->R tp I w (.tuple #[ce.key,ce.val]) c)
    (h:∀(k:Nat) (e:MapEntry) (c:D),(jq es seen)[k]? =some e->ds[k]? =some c->R tp I w (.tuple #[e.key,e.val]) c):R tp I w (PH (some b) since seen last) (.mst cur ds)
def TapeStep(w w':World)(b:Nat):Prop:=
 ∀ (s:Value) (i:Int) (el:Nat),w.heap[b]? =some (.cells #[s, .int .i64 i] el (0,0))->0<=i->i<=slen s->
  ∃(j:Int) (a:Nat),w'.heap[b]? =some (.cells #[s, .int .i64 j] a (0,0))/\0<=j/\j<=slen s
def TapeStep.refl(w:World)(b:Nat):TapeStep w w b:=λ_ i el h h0 h1=>⟨i,el,h,h0,h1⟩
def TapeStep.same{w w':World}{b:Nat}(h:w'.heap[b]? =w.heap[b]?):TapeStep w w' b:=λ_ i el hh h0 h1=>⟨i,el,h ▸hh,h0,h1⟩
def TapeStep.trans{w a c:World}{b:Nat}(h:TapeStep w a b)(k:TapeStep a c b):TapeStep w c b:=λs i el hh h0 h1=>by
 grind [TapeStep]
def PlainB.same{w w':World}{b:Nat}(h:PlainB w b)(e:w'.heap[b]? =w.heap[b]?):PlainB w' b:=by
 grind [PlainB]
theorem R.mono{tp I r y:Nat->Prop}{w w':World}{x:Value}{d:D}(h:R tp I w x d)(A:∀b,tp b->r b)
 (hI:∀b,I b->y b/\w'.heap[b]? =w.heap[b]?) (C:∀b,tp b->TapeStep w w' b):R r y w' x d:=by
 induction h with
 |any x=>exact .any x
 |undef=>exact .undef
 |v x h hs=>exact .v x h hs
 |agg xs cs hl h1 _ q=>exact .agg xs cs hl h1 q
 |nolist a cap n=>exact .nolist a cap n
 | list b off cap n es f l hc hm hz hn hcell h1 _ q=>
   exact .list b off cap n es f (hI b l).1 hc hm (λh=>(hz h).same (hI b l).2) hn (λk c hk=>by grind [TapeStep,PlainB,D.kn,World.cell?_of_block]) h1 q
 | cptr b base cs off f l hz hcell h1 _ q=>
   exact .cptr b base cs off f (hI b l).1 (λh=>(hz h).same (hI b l).2) (λk c hk=>by grind [TapeStep,PlainB,World.cell?_of_block]) h1 q
 |bptr id b off=>exact .bptr id b off
 |own id x h=>exact .own id x h
 |eptr id b len cap n i off=>exact .eptr id b len cap n i off
 |subnil id n=>exact .subnil id n
 |sub id b len cap n lo hi p h1 h2 h3 hm hp=>exact .sub id b len cap n lo hi p h1 h2 h3 hm hp
 | tape b L s i el hb hh h0 h1 hs _ q=>
   obtain⟨j,t,a1,a2,a3⟩:=C b hb s i el hh h0 h1;exact .tape b L s j t (A b hb) a1 a2 a3 hs q
 |clo f xs caps hl _ q=>exact .clo f xs caps hl q
 |tup xs ds hl _ q=>exact .tup xs ds hl q
 |nomp=>exact .nomp
 |mp b es clock ds l hh hl hb _ q=>exact .mp b es clock ds (hI b l).1 ((hI b l).2.trans hh) hl hb q
 |nomst since last seen=>exact .nomst since last seen
 |mst b es clock since last seen ce cur ds l hh hb hs hsl hl hc _ _ u q=>exact .mst b es clock since last seen ce cur ds (hI b l).1 ((hI b l).2.trans hh) hb hs hsl hl hc u q
theorem R.cells{tp I:Nat->Prop}{w:World}{x:Value}{d:D}(h:R tp I w x d)(hk:d.kn=true):
 x.cells.toList.length=d.cells.length/\∀(k:Nat) (y:Value) (c:D),x.cells.toList[k]? =some y->d.cells[k]? =some c->y.oneCell'=true/\R tp I w y c:=by
 have one:∀(y:Value) (e:D),y.oneCell'=true->e.cells=[e]->y.cells= #[y]->R tp I w y e->
  y.cells.toList.length=e.cells.length/\∀(k:Nat) (z:Value) (c:D),y.cells.toList[k]? =some z->e.cells[k]? =some c->z.oneCell'=true/\R tp I w z c:=by
  grind
 have j:∀y:Value,y.oneCell'=true->y.cells= #[y]:=by
  intro y q;cases y<;>first|rfl|grind [Value.oneCell']
 cases h with
 |any x=>grind [D.kn]
 |undef=>grind [D.kn]
 |tup xs ds hl h=>grind [D.kn]
 |nomst=>grind [D.kn]
 |mst=>grind [fI,D.kn]
 |nomp=>exact one _ _ rfl rfl rfl .nomp
 |mp b es clock ds l hh hl hb h=>exact one _ _ rfl rfl rfl (.mp b es clock ds l hh hl hb h)
 | agg xs cs hl h1 h=>
   refine⟨hl,λk y c q hc=>⟨h1 y (qF7 q),h k y c q hc⟩⟩
 |v x h hs=>exact one _ _ h rfl (j _ h) (.v x h hs)
 |own id x h=>exact one _ _ h rfl (j _ h) (.own id x h)
 |nolist a cap n=>exact one _ _ rfl rfl rfl (.nolist a cap n)
 |list b off cap n es f l hc hm hz hn hcell h1 h=>exact one _ _ rfl rfl rfl (.list b off cap n es f l hc hm hz hn hcell h1 h)
 |cptr b base cs off f l hz hcell h1 h=>exact one _ _ rfl rfl rfl (.cptr b base cs off f l hz hcell h1 h)
 |bptr id b off=>exact one _ _ rfl rfl rfl (.bptr id b off)
 |eptr id b len cap n i off=>exact one _ _ rfl rfl rfl (.eptr id b len cap n i off)
 |subnil id n=>exact one _ _ rfl rfl rfl (.subnil id n)
 |sub id b len cap n lo hi p h1 h2 h3 hm hp=>exact one _ _ rfl rfl rfl (.sub id b len cap n lo hi p h1 h2 h3 hm hp)
 |tape b L s i el hb hh h0 h1 hs h=>exact one _ _ rfl rfl rfl (.tape b L s i el hb hh h0 h1 hs h)
 |clo f xs caps hl h=>exact one _ _ rfl rfl rfl (.clo f xs caps hl h)
theorem ij{n:Nat} :∀{es:List D},(∀d∈es,d.cells.length=n)->∀{i j:Nat},j<n->(bq es)[i*n+j]? =(es[i]?).bind λd=>d.cells[j]?
 | [],_,i,j,_=>by rfl
 | d::es,h,0,j,a=>by
   simp_all [bq,qGI]
 | d::es,h,i+1,j,a=>by
   have b:=h d (by simp);have c:=ij (es:=es) (λd b=>h d (by grind)) (i:=i) a;grind [bq]
theorem ba{n:Nat} :∀{es:List D},(∀d∈es,d.cells.length=n)->(bq es).length=es.length*n
 | [],_=>by simp[bq]
 | d::es,h=>by
   have a:=ba (es:=es) (λd b=>h d (by grind));grind [bq]
theorem sE(a b:List D):bq (a++b)=bq a++bq b:=by simp[bq]
def sw:List (Nat×Array Value):=[]
inductive qFW where
 |mrs (x:Value) (es:List D) (st:List Nat) (clock:Nat)
 |mit (b m:Nat) (x:Value) (clock:Nat) (seen:List Nat)
inductive Res where
 |box (b:Nat) (cells:List D)
 |row (x:Value) (el n:Nat) (es:List D)
 |iter (b:Nat) (s:ByteArray) (pos:Nat)
 |tbox (el b:Nat) (cells:List D)
 |mrow (x:Value) (es:List D)
 |miter (b:Nat) (cur left:List D)
 |raw (r:qFW)
def Res.blk:Res->Option Nat
 | .box b _=>some b
 | .row x _ _ _=>x.ownBlock
 | .iter b _ _=>some b
 | .tbox _ b _=>some b
 | .mrow x _=>match x with| .map m=>m|_=>none
 | .miter b _ _=>some b
 | .raw (.mrs x _ _ _)=>match x with| .map m=>m|_=>none
 | .raw (.mit b _ _ _ _)=>some b
abbrev ab:=Nat->Option Res
def aj(H:ab)(id:Nat)(r:Option Res):ab:=λi=>if i=id then r else H i
def bG(H:ab)(b:Nat):Prop:=∃i r,H i=some r/\r.blk=some b
def be(O tp:Nat->Prop)(H:ab)(w:World)(b:Nat):Prop:=b<w.heap.size/\ ¬O b/\ ¬tp b/\ ¬bG H b
def aS(Q:Value->D->Prop)(xs:List Value)(cs:List D):Prop:=
 ∀(k:Nat) (y:Value) (c:D),xs[k]? =some y->cs[k]? =some c->y.oneCell'=true/\Q y c
def BB(Q:Value->D->Prop)(es:Array MapEntry)(ds:List D):Prop:=
 es.size=ds.length/\∀(k:Nat) (e:MapEntry) (c:D),es[k]? =some e->ds[k]? =some c->Q (.tuple #[e.key,e.val]) c
def ResOk(Q:Value->D->Prop)(w:World):Res->Prop
 | .box b cells=>∃(xs:Array Value) (el:Nat),w.heap[b]? =some (.cells xs el (0,0))/\xs.size=cells.length/\aS Q xs.toList cells
 | .iter b s pos=>w.heap[b]? =some (.stringIter s pos)
 | .tbox el b cells=>∃xs:Array Value,w.heap[b]? =some (.cells xs el (0,0))/\xs.size=cells.length/\aS Q xs.toList cells
 | .mrow x es=>∃(b:Nat) (a:Array MapEntry) (clock:Nat),x= .map (some b)/\w.heap[b]? =some (.map a clock)/\fI a clock/\BB Q a es
 | .miter b cur left=>∃(m:Option Nat) (since last:Nat) (seen:Array Nat),w.heap[b]? =some (.mapIter m since seen last)/\Q (PH m since seen last) (.mst cur left)
 | .raw (.mrs x es st clock)=>∃(b:Nat) (a:Array MapEntry),x= .map (some b)/\w.heap[b]? =some (.map a clock)/\fI a clock/\a.toList.map (·.born)=st/\BB Q a es
 | .raw (.mit b _ x clock seen)=>∃c,x= .map (some c)/\w.heap[b]? =some (.mapIter (some c) clock seen.toArray clock)
 | .row x el n es=>∃xs:List Value,w.ownsRow 0 el n x es.length xs/\(∀d∈es,d.kn=true/\d.cells.length=n)/\aS Q xs (bq es)
structure qtM (O tp:Nat->Prop) (H:ab) (w:World):Prop where
 dis:∀i j r s b,H i=some r->H j=some s->r.blk=some b->s.blk=some b->i=j
 out:∀i r b,H i=some r->r.blk=some b->¬O b/\ ¬tp b
 ok:∀i r,H i=some r->ResOk (R tp (be O tp H w) w) w r
structure GrB (w w':World) (row:Option Nat):Prop extends World.grownBy w w' row where
 drawn:w.drawn<=w'.drawn
def GrB.alloc(w:World)(o:Obj)(row:Option Nat):GrB w (w.alloc o) row:=⟨qH1 w o row,qGb _⟩
structure Step (dq:Prop) (tp own:Nat->Prop) (w w':World):Prop where
 os:w'.os=w.os
 tape:w'.tape=w.tape
 output:w'.output=w.output
 size:w.heap.size<=w'.heap.size
 same:∀b,b<w.heap.size->¬own b->¬tp b->w'.heap[b]? =w.heap[b]?
 tapes:∀b,tp b->TapeStep w w' b
 drawn:dq->w.drawn<=w'.drawn
def Step.refl{dq:Prop}(tp own:Nat->Prop)(w:World):Step dq tp own w w:=⟨rfl,rfl,rfl,qGb _,λ_ _ _ _=>rfl,λ_ _=> .refl _ _,λ_=>qGb _⟩
theorem ResOk.conv{Q p:Value->D->Prop}{w w':World}{r:Res}(h:ResOk Q w r)(l:∀x d,Q x d->p x d)(hb:∀b,r.blk=some b->w'.heap[b]? =w.heap[b]?):ResOk p w' r:=by
 cases r with
 | box b cells=>
   obtain⟨xs,el,h1,h2,h3⟩:=h;exact⟨xs,el,by rw[hb b rfl];omega,h2,λk y c j hc=>⟨(h3 k y c j hc).1,l _ _ (h3 k y c j hc).2⟩⟩
 | row x el n es=>
   obtain⟨xs,⟨h0,h1⟩,h2,h3⟩:=h;refine⟨xs,⟨h0,?_⟩,h2,λk y c j hc=>⟨(h3 k y c j hc).1,l _ _ (h3 k y c j hc).2⟩⟩;rcases h1 with h1|⟨g,cap,cur,q,t,C,u⟩;grind
   ·exact .inr ⟨g,cap,cur,q,t,by rw[hb g (by subst q;rfl)];omega,u⟩
 | tbox el b cells=>
   obtain⟨xs,h1,h2,h3⟩:=h;exact⟨xs,by rw[hb b rfl];omega,h2,λk y c j hc=>⟨(h3 k y c j hc).1,l _ _ (h3 k y c j hc).2⟩⟩
 | mrow x es=>
   obtain⟨b,a,clock,rfl,h1,h2,h3,h4⟩:=h;exact⟨b,a,clock,rfl,by rw[hb b rfl];omega,h2,h3,λk e c he hc=>l _ _ (h4 k e c he hc)⟩
 | miter b cur left=>
   obtain⟨m,since,last,seen,h1,h2⟩:=h;exact⟨m,since,last,seen,by rw[hb b rfl];omega,l _ _ h2⟩
 | raw k=>
   cases k with
   | mrs x es st clock=>
     obtain⟨b,a,rfl,h1,h2,h3,h4⟩:=h;exact⟨b,a,rfl,by rw[hb b rfl];omega,h2,h3,h4.1,λk e c he hc=>l _ _ (h4.2 k e c he hc)⟩
   | mit b m x clock seen=>
     obtain⟨A,rfl,h1⟩:=h;exact⟨A,rfl,by rw[hb b rfl];omega⟩
 | iter b s pos=>
   have h:w.heap[b]? =some (.stringIter s pos):=h;show w'.heap[b]? =_;rw[hb b rfl];exact h
def ResOk.lt{Q:Value->D->Prop}{w:World}{r:Res}(h:ResOk Q w r){b:Nat}(hb:r.blk=some b):b<w.heap.size:=by
 cases r with
 | box b' cells=>
   grind [ResOk,Res.blk]
 | row x el n es=>
   obtain⟨xs,⟨_,h1⟩,_⟩:=h;grind [Res.blk,Value.ownBlock]
 | tbox el b' cells=>
   grind [ResOk,Res.blk]
 | mrow x es=>
   grind [ResOk,Res.blk]
 | miter b' cur left=>
   grind [ResOk,Res.blk]
 | raw k=>
   cases k<;>grind [ResOk,Res.blk]
 | iter b' s pos=>
   have h:w.heap[b']? =some (.stringIter s pos):=h;grind [Res.blk]
def GlW(tp own:Nat->Prop)(w:World):Prop:=∀p∈sw,¬tp p.1/\ ¬own p.1/\∃(el:Nat) (z:Nat×Nat),w.heap[p.1]? =some (.cells p.2 el z)
def TpG(tp own:Nat->Prop)(w:World):Prop:=(∀b,tp b->b<w.heap.size)/\GlW tp own w
def GlW.mono{tp c own a:Nat->Prop}{w:World}(h:GlW tp own w)(h1:∀b,c b->tp b)(h2:∀b,a b->own b):GlW c a w:=λp hp=>
 ⟨λx=>(h p hp).1 (h1 _ x),λx=>(h p hp).2.1 (h2 _ x),(h p hp).2.2⟩
def TpG.mono{tp own a:Nat->Prop}{w:World}(h:TpG tp own w)(h2:∀b,a b->own b):TpG tp a w:=⟨h.1,h.2.mono (λ_ x=>x) h2⟩
def GlW.lt{tp own:Nat->Prop}{w:World}(h:GlW tp own w){p:Nat×Array Value}(hp:p∈sw):p.1<w.heap.size:=by
 grind [GlW]
def GlW.step{dq:Prop}{tp own:Nat->Prop}{w w':World}(h:GlW tp own w)(hs:Step dq tp own w w'):GlW tp own w':=λp hp=>by
 grind [GlW,Step]
structure BU where
 O:Nat->Prop
 tp0:Nat->Prop
 w0:World
 own0:Nat->Prop
 N:Nat
 ds:List Deferred:=[]
 dq:Prop:=True
structure StW (E:BU) (tp:Nat->Prop) (H:ab) (w:World):Prop where
 hO:∀b,E.O b->b<E.w0.heap.size
 tpx:∀b,E.tp0 b->tp b
 tpn:∀b,tp b->E.tp0 b\/E.w0.heap.size<=b
 tpl:(∀b,tp b->b<w.heap.size)/\GlW E.tp0 E.own0 E.w0
 step:Step E.dq E.tp0 E.own0 E.w0 w
 loc:∀b,bG H b->E.own0 b\/E.w0.heap.size<=b
 sat:qtM E.O tp H w
def StW.tpg{E:BU}{tp:Nat->Prop}{H:ab}{w:World}(h:StW E tp H w):TpG tp (bG H) w:=⟨h.tpl.1,λp hp=>by
 have a:=h.tpl.2.lt hp;obtain⟨h1,h2,el,z,hz⟩:=h.tpl.2.step h.step p hp;refine⟨λx=>?_,λx=>?_,el,z,hz⟩
 ·rcases h.tpn _ x with x|x;grind;omega
 ·rcases h.loc _ x with x|x;grind;omega⟩
theorem StW.move{E:BU}{tp a:Nat->Prop}{H H':ab}{w w':World}(h:StW E tp H w)(hs:Step E.dq tp (bG H) w w')
 (s:∀b,tp b->a b) (l:∀b,a b->tp b\/w.heap.size<=b) (p:∀b,a b->b<w'.heap.size)
 (c:∀b,bG H' b->bG H b\/w.heap.size<=b) (j:qtM E.O a H' w'):
 StW E a H' w'/\∀x d,R tp (be E.O tp H w) w x d->R a (be E.O a H' w') w' x d:=by
 have u:E.w0.heap.size<=w.heap.size:=h.step.size;refine⟨⟨h.hO,λb hb=>s b (h.tpx b hb),λb hb=>?_,⟨p,h.tpl.2⟩,?_,λb hb=>?_,j⟩,λx d y=>?_⟩
 ·rcases l b hb with hb|hb
  ·exact h.tpn b hb
  omega
 ·refine⟨hs.os.trans h.step.os,hs.tape.trans h.step.tape,hs.output.trans h.step.output,qGA u hs.size,λb hb ho r=>?_,λb hb=>(h.step.tapes b hb).trans (hs.tapes b (h.tpx b hb)),λq=>qGA (h.step.drawn q) (hs.drawn q)⟩;rw[hs.same b (by omega) (λk=>?_) (λt=>?_)]
  ·exact h.step.same b hb ho r
  ·rcases h.loc b k with h1|h1;grind;omega
  ·rcases h.tpn b t with h1|h1;grind;omega
 ·rcases c b hb with hb|hb
  ·exact h.loc b hb
  omega
 ·refine y.mono s (λb hb=>?_) hs.tapes;obtain⟨h1,h2,h3,h4⟩:=hb;refine⟨⟨qGl h1 hs.size,h2,λt=>?_,λho=>?_⟩,hs.same b h1 h4 h3⟩;grind;grind
theorem Te{H:ab}{id:Nat}{r':Option Res}{b:Nat}(h:bG (aj H id r') b):(∃r,r'=some r/\r.blk=some b)\/ ∃i r,i≠id/\H i=some r/\r.blk=some b:=by
 grind [bG,aj]
theorem StW.own{E:BU}{tp:Nat->Prop}{H:ab}{w w':World}{row:Option Nat}(h:StW E tp H w)(id:Nat)(r':Option Res)(k:GrB w w' row)
 (u:∀b,row=some b->∃r,H id=some r/\r.blk=some b)
 (l:∀r b,r'=some r->r.blk=some b->w.heap.size<=b\/ ∃y,H id=some y/\y.blk=some b)
 (J:(∀x d,R tp (be E.O tp H w) w x d->R tp (be E.O tp (aj H id r') w') w' x d)->∀r,r'=some r->ResOk (R tp (be E.O tp (aj H id r') w') w') w' r):
 StW E tp (aj H id r') w'/\∀x d,R tp (be E.O tp H w) w x d->R tp (be E.O tp (aj H id r') w') w' x d:=by
 have L:E.w0.heap.size<=w.heap.size:=h.step.size;have c:∀b,row=some b->bG H b:=λb hb=>by grind [bG]
 have F:∀b,bG (aj H id r') b->bG H b\/w.heap.size<=b:=λb hb=>by
  grind [bG,Te]
 have p:∀b,be E.O tp H w b->be E.O tp (aj H id r') w' b/\w'.heap[b]? =w.heap[b]?:=λb hb=>by
  obtain⟨h1,h2,h3,h4⟩:=hb;refine⟨⟨qGl h1 k.size,h2,h3,λho=>?_⟩,k.block b h1 (λe=>h4 (c b e.symm))⟩;grind
 have a:∀b,tp b->w'.heap[b]? =w.heap[b]?:=λb hb=>k.block b (h.tpl.1 b hb) (λe=>by
  obtain⟨r,h1,h2⟩:=u b e.symm;exact(h.sat.out id r b h1 h2).2 hb)
 have move:∀x d,R tp (be E.O tp H w) w x d->R tp (be E.O tp (aj H id r') w') w' x d:=λx d q=>
  q.mono (λ_ h=>h) p (λb hb=> .same (a b hb))
 have A:Step E.dq tp (bG H) w w':=⟨k.os,k.tape,k.output,k.size,λb hb ho _=>k.block b hb (λe=>ho (c b e.symm)),λb hb=> .same (a b hb),λ_=>k.drawn⟩
 refine h.move A (λ_ h=>h) (λ_ h=> .inl h) (λb hb=>qGl (h.tpl.1 b hb) k.size) F ⟨?_,?_,?_⟩
 ·intro i j r s b hi C q hs;by_cases t:i=id
  ·by_cases I:j=id;omega
   ·exfalso;subst t;simp[aj]at hi;simp[aj,I]at C;rcases l r b hi q with h3|⟨y,h3,h4⟩
    ·have:=(h.sat.ok j s C).lt hs;omega
    ·exact I (h.sat.dis _ _ _ _ b C h3 hs h4)
  ·simp[aj,t]at hi;by_cases I:j=id
   ·exfalso;subst I;simp[aj]at C;rcases l s b C hs with h3|⟨y,h3,h4⟩
    ·have:=(h.sat.ok i r hi).lt q;omega
    ·exact t (h.sat.dis _ _ _ _ b hi h3 q h4)
   ·simp[aj,I]at C;exact h.sat.dis _ _ _ _ b hi C q hs
 ·intro i r b hi q;by_cases t:i=id
  ·subst t;simp[aj]at hi;rcases l r b hi q with h3|⟨y,h3,h4⟩
   ·exact⟨λhO=>by have:=h.hO b hO;omega,λK=>by have:=h.tpl.1 b K;omega⟩
   ·exact h.sat.out _ y b h3 h4
  ·simp[aj,t]at hi;exact h.sat.out _ r b hi q
 ·intro i r hi;by_cases t:i=id;grind [ResOk,StW,GrB,Res,Res.blk,bG,be,aj]
  ·simp[aj,t]at hi;refine(h.sat.ok i r hi).conv move (λb hb=>k.block b ((h.sat.ok i r hi).lt hb) (λe=>?_));obtain⟨y,h3,h4⟩:=u b e.symm;exact t (h.sat.dis _ _ _ _ b hi h3 hb h4)
theorem StW.grow{E:BU}{tp:Nat->Prop}{H:ab}{w w':World}(h:StW E tp H w)(c:GrB w w' none):
 StW E tp H w'/\∀x d,R tp (be E.O tp H w) w x d->R tp (be E.O tp H w') w' x d:=by
 have j:∀b,be E.O tp H w b->be E.O tp H w' b/\w'.heap[b]? =w.heap[b]?:=λb hb=>
  ⟨⟨qGl hb.1 c.size,hb.2⟩,c.block b hb.1 (by simp)⟩
 have a:∀b,tp b->w'.heap[b]? =w.heap[b]?:=λb hb=>c.block b (h.tpl.1 b hb) (by simp)
 have move:∀x d,R tp (be E.O tp H w) w x d->R tp (be E.O tp H w') w' x d:=λx d l=>
  l.mono (λ_ h=>h) j (λb hb=> .same (a b hb))
 have k:Step E.dq tp (bG H) w w':=⟨c.os,c.tape,c.output,c.size,λb hb _ _=>c.block b hb (by simp),λb hb=> .same (a b hb),λ_=>c.drawn⟩
 refine h.move k (λ_ h=>h) (λ_ h=> .inl h) (λb hb=>qGl (h.tpl.1 b hb) c.size) (λb hb=> .inl hb) ⟨h.sat.dis,h.sat.out,λi r hi=>?_⟩;exact(h.sat.ok i r hi).conv move (λb hb=>c.block b ((h.sat.ok i r hi).lt hb) (by simp))
def Ww(w:World)(row:Option Nat):GrB w w.drew row:=⟨⟨rfl,rfl,rfl,qGb _,λ_ _ _=>rfl⟩,qHp _⟩
theorem gm(w:World)(row:Option Nat):GrB w w row:=⟨⟨rfl,rfl,rfl,qGb _,λ_ _ _=>rfl⟩,qGb _⟩
abbrev Sg:=Nat->D
def upd(a:Sg)(t:Nat)(d:D):Sg:=λs=>if s=t then d else a s
def St(E:BU)(b:Sg)(H:ab)(a:Act)(w:World):Prop:=
 a.defers=E.ds/\a.tmps.size=E.N/\∃tp,StW E tp H w/\∀t,R tp (be E.O tp H w) w (a.tmps.getD t undef) (b t)
def fK(a:Sg)(t:Option Nat)(d:D):Sg:=match t with|some t=>upd a t d|none=>a
def qnx{N:Nat}{a:Act}{b:Sg}{Q:Value->D->Prop}(k:a.tmps.size=N)(c:∀t,Q (a.tmps.getD t undef) (b t))(dst:Option Nat)(j:∀t,dst=some t->t<N){x:Value}{d:D}(l:Q x d):
 ∀t,Q ((a.put dst x).tmps.getD t undef) (fK b dst d t):=by
 intro t;cases dst with
 |none=>exact c t
 | some s=>
   have hs:=j s rfl;simp only[Act.put,fK,upd];by_cases e:t=s;simp_all
   ·have p:¬s=t:=λh=>e h.symm
    simp_all
theorem qcG(a:Act)(dst:Option Nat)(x:Value):(a.put dst x).defers=a.defers:=by cases dst<;>rfl
theorem qjv(a:Act)(dst:Option Nat)(x:Value):(a.put dst x).tmps.size=a.tmps.size:=by cases dst<;>simp[Act.put]
def St.put{E:BU}{h:Sg}{H H':ab}{a:Act}{w':World}{b:Nat->Prop}{tp:Nat->Prop}{w:World}(p:a.defers=E.ds)(j:a.tmps.size=E.N)
 (k:∀t,R tp (be E.O tp H w) w (a.tmps.getD t undef) (h t))
 (hm:StW E b H' w'/\∀x d,R tp (be E.O tp H w) w x d->R b (be E.O b H' w') w' x d) (dst:Option Nat) (c:∀t,dst=some t->t<E.N) {x:Value} {d:D}
 (l:R b (be E.O b H' w') w' x d):St E (fK h dst d) H' (a.put dst x) w':=
 ⟨by grind [qcG],by grind [qjv],b,hm.1,qnx j (λt=>hm.2 _ _ (k t)) dst c l⟩
end Go.Gv
