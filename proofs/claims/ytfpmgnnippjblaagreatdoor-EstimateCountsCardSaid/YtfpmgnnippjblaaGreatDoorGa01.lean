/- A -/
import Derived.WalkKit
import Derived.Orders
import Derived.Below
set_option linter.all false
namespace Go.Gv
section
def i' {α:Sort _} (a:α):α:=a
def qBb:=@Option.bind_eq_some_iff
def qBc:=@List.getElem?_eq_some_iff
def qBd:=@Option.bind_eq_bind
def qBe:=@List.getElem?_eq_getElem
def qBf:=@List.mem_of_getElem?
def qBg:=@Nat.le_of_ble_eq_true
def qBh:=@Bool.and_eq_true
def qBi:=@List.all_eq_true
def qBj:=@Nat.le_refl
def qBk:=@Option.map_eq_some_iff
def qBl:=@Option.some.inj
def qBm:=@List.take_length
def qBn:=@Array.getElem?_eq_some_iff
def qBo:=@List.mem_append
def qBp:=@Result.andThen_ok
def qBq:=@Option.some.injEq
def qBr:=@List.mem_map
def qBs:=@List.eq_nil_of_length_eq_zero
def qBt:=@List.mem_cons
def qBu:=@Nat.lt_of_lt_of_le
def qBv:=@List.getElem?_take
def qBw:=@List.getElem?_map
def qBx:=@List.mem_of_mem_take
def qBy:=@Sem.run_bind
def qBz:=@Option.bind_some
def qBA:=@List.mem_iff_getElem?
def qBB:=@Nat.zero_le
def qBC:=@List.length_take
def qBD:=@Array.getElem?_toList
def qBE:=@List.getElem?_eq_none
def qBF:=@List.not_mem_nil
def qBG:=@Sem.run_pure
def qBH:=@Nat.mul_le_mul_right
def qBI:=@List.take_append_drop
def qBJ:=@List.length_append
def qBK:=@Bool.eq_iff_iff
def qBL:=@List.getElem?_append_right
def qBM:=@Nat.le_trans
def qBN:=@List.getElem?_append_left
def qBO:=@List.length_map
def qBP:=@Option.getD_some
def qBQ:=@List.take_of_length_le
def qBR:=@Array.getD_eq_getD_getElem?
def qBS:=@List.mapM_cons
def qBT:=@List.mem_of_mem_drop
def qBU:=@List.drop_eq_getElem_cons
def qBV:=@Nat.zero_add
def qBW:=@Option.isSome_iff_exists
def qBX:=@List.ext_getElem?
def qBY:=@List.length_eq_zero_iff
def qBZ:=@List.map_cons
def qB0:=@Array.getElem?_append_left
def qB1:=@Bool.false_eq_true
def qB2:=@List.length_cons
def qB3:=@List.drop_length
def qB4:=@Array.getElem?_eq_getElem
def qB5:=@Array.length_toList
def qB6:=@List.cons.injEq
def qB7:=@List.append_assoc
def qB8:=@List.take_add_one
def qB9:=@List.map_congr_left
def qCa:=@List.nil_append
def qCb:=@List.getElem?_drop
def qCc:=@List.length_drop
def qCd:=@List.cons_append
def qCe:=@List.any_eq_true
def qCf:=@List.pairwise_append
def qCg:=@List.flatMap_cons
def qCh:=@List.mem_or_eq_of_mem_set
def qCi:=@Int.le_refl
def qCj:=@List.foldl_cons
def qCk:=@List.length_eq_one_iff
def qCl:=@List.getElem?_set_self
def qCm:=@Nat.succ_mul
def qCn:=@List.map_nil
def qCo:=@List.mem_singleton
def qCp:=@Code.wp_mono
def qCq:=@List.append_nil
def qCr:=@List.size_toArray
def qCs:=@World.ownsRow_nil
def qCt:=@Nat.le_succ
def qCu:=@Bool.true_and
def qCv:=@Option.map_none
def qCw:=@Nat.mod_lt
def qCx:=@Nat.div_add_mod
def qCy:=@List.pairwise_cons
def qCz:=@UInt8.toNat_ofNat'
def qCA:=@Nat.add_mul
def qCB:=@List.drop_eq_nil_of_le
def qCC:=@Nat.add_zero
def qCD:=@List.length_replicate
def qCE:=@Iff.rfl
def qCF:=@List.mem_range
def qCG:=@List.mem_flatMap
def qCH:=@List.getElem_mem
def qCI:=@List.mem_cons_of_mem
def qCJ:=@List.all_cons
def qCK:=@ByteArray.toList_eq
def qCL:=@List.length_nil
def qCM:=@List.mem_filter
def qCN:=@Option.map_some
def qCO:=@List.rel_of_pairwise_cons
def qCP:=@List.map_append
def qCQ:=@List.pairwise_iff_getElem
def qCR:=@Nat.sub_self
def qCS:=@List.filter_append
def qCT:=@Int.mul_nonneg
def qCU:=@Nat.le_mul_of_pos_right
def qCV:=@Classical.axiomOfChoice
def qCW:=@List.set_eq_take_append_cons_drop
def qCX:=@Array.getElem?_eq_none
def qCY:=@List.drop_nil
def qCZ:=@List.range'_succ
def qC0:=@Array.getElem?_modify
def qC1:=@World.cell?_of_block
def qC2:=@List.range_eq_range'
def qC3:=@Nat.div_lt_of_lt_mul
def qC4:=@World.grownBy_alloc
def qC5:=@List.flatMap_append
def qC6:=@List.take_zero
def qC7:=@List.take_nil
def qC8:=@Bool.not_eq_true'
def qC9:=@Int.toNat_natCast
def qDa:=@List.eq_of_mem_replicate
def qDb:=@List.filter_cons
def qDc:=@Nat.mul_comm
def qDd:=@RowKit.Below.heap_alloc
def qDe:=@List.length_set
def qDf:=@Nat.add_assoc
def qDg:=@List.replicate_zero
def qDh:=@List.replicate_succ
def qDi:=@List.filter_eq_self
def qDj:=@List.getElem?_range
def qDk:=@List.mem_cons_self
def qDl:=@List.append_of_mem
def qDm:=@List.map_set
def qDn:=@Nat.eq_zero_or_pos
def qDo:=@Array.size_append
def qDp:=@List.flatten_cons
def qDq:=@ByteArray.ext_iff
def qDr:=@Array.all_eq_true
def qDs:=@List.foldl_append
inductive D where
 |any
 |undef
 |v (x:Value)
 |agg (cs:List D)
 |list (n:Nat) (es:List D)
 |cptr (cs:List D) (off:Nat)
 |bptr (id b off:Nat)
 |own (id:Nat) (x:Value)
 |eptr (id:Nat) (x:Value) (n i off:Nat)
 |sub (id:Nat) (x:Value) (n lo hi:Nat)
 |tape (L:List Int)
 |clo (f:Nat) (caps:List D)
 |tup (ds:List D)
 |mp (es:List D)
 |mst (cur es:List D)
def D.cells:D->List D
 | .agg cs=>cs
 |d=>[d]
def D.kn:D->Bool
 | .any| .undef| .tup _| .mst _ _=>false
 | _=>true
def bk(es:List D):List D:=es.flatMap D.cells
def slen:Value->Nat
 | .slice _ n _=>n
 | _=>0
def PlainB(w:World)(b:Nat):Prop:=∃(xs:Array Value) (el:Nat),w.heap[b]? =some (.cells xs el (0,0))
def M1(m:Option Nat)(since:Nat)(seen:Array Nat)(last:Nat):Value:= .tuple #[.map m, .int .i64 since, .agg (seen.map λ(n:Nat)=> .int .i64 n), .int .i64 last]
def iE(es:Array MapEntry)(seen:Array Nat):List MapEntry:=es.toList.filter λe=>!seen.contains e.born
def fy(es:Array MapEntry)(clock:Nat):Prop:=(∀e∈es.toList,e.born<clock)/\(es.toList.map (·.born)).Nodup
inductive R (tp I:Nat->Prop) (w:World):Value->D->Prop
 |any (x:Value):R tp I w x .any
 |undef:R tp I w Go.undef .undef
 |v (x:Value) (h:x.oneCell'=true) (hs:∀s,x= .string s->s.size<=maxLen):R tp I w x (.v x)
 | agg (xs:List Value) (cs:List D) (hl:xs.length=cs.length) (h1:∀x∈xs,x.oneCell'=true)
    (h:∀(k:Nat) (x:Value) (c:D),xs[k]? =some x->cs[k]? =some c->R tp I w x c):R tp I w (.agg xs.toArray) (.agg cs)
 |nolist (a:Option Addr) (cap n:Nat):R tp I w (.slice a 0 cap) (.list n [])
 | list (b off cap n:Nat) (es:List D) (f:Nat->Value) (hI:I b) (hc:es.length<=cap) (hm:cap<=maxLen)
    (hz:n≠1->PlainB w b) (hn:∀d∈es,d.kn=true/\d.cells.length=n)
    (hcell:∀(k:Nat) (c:D),(bk es)[k]? =some c->w.cell? ⟨b,off+k,none⟩=some (f k))
    (h1:∀(k:Nat) (c:D),(bk es)[k]? =some c->(f k).oneCell'=true)
    (h:∀(k:Nat) (c:D),(bk es)[k]? =some c->R tp I w (f k) c):R tp I w (.slice (some ⟨b,off,none⟩) es.length cap) (.list n es)
 | cptr (b base:Nat) (cs:List D) (off:Nat) (f:Nat->Value) (hI:I b) (hz:cs.length≠1->PlainB w b)
    (hcell:∀(k:Nat) (c:D),cs[k]? =some c->w.cell? ⟨b,base+k,none⟩=some (f k))
    (h1:∀(k:Nat) (c:D),cs[k]? =some c->(f k).oneCell'=true)
    (h:∀(k:Nat) (c:D),cs[k]? =some c->R tp I w (f k) c):R tp I w (.pointer (some ⟨b,base+off,none⟩)) (.cptr cs off)
 |bptr (id b off:Nat):R tp I w (.pointer (some ⟨b,off,none⟩)) (.bptr id b off)
 |own (id:Nat) (x:Value) (h:x.oneCell'=true):R tp I w x (.own id x)
 |eptr (id:Nat) (b len cap n i off:Nat):R tp I w (.pointer (some ⟨b,i*n+off,none⟩)) (.eptr id (.slice (some ⟨b,0,none⟩) len cap) n i off)
 |subnil (id n:Nat):R tp I w (.slice none 0 0) (.sub id (.slice none 0 0) n 0 0)
 | sub (id b len cap n lo hi:Nat) (p:Option Addr) (h1:lo<=hi) (h2:hi<=len) (h3:len<=cap) (hm:cap<=maxLen) (hp:lo<cap\/lo=0->p=some ⟨b,lo*n,none⟩):
    R tp I w (.slice p (hi -lo) (cap -lo)) (.sub id (.slice (some ⟨b,0,none⟩) len cap) n lo hi)
 | tape (b:Nat) (L:List Int) (s:Value) (i:Int) (el:Nat) (hb:tp b) (hh:w.heap[b]? =some (.cells #[s, .int .i64 i] el (0,0)))
    (h0:0<=i) (h1:i<=slen s) (hs:slen s=L.length) (h:R tp I w s (.list 1 (L.map λn=> .v (.int .i64 n)))):R tp I w (.pointer (some ⟨b,0,none⟩)) (.tape L)
 | clo (f:Nat) (xs:List Value) (caps:List D) (hl:xs.length=caps.length)
    (h:∀(k:Nat) (x:Value) (c:D),xs[k]? =some x->caps[k]? =some c->R tp I w x c):R tp I w (.func (.func f) #[] xs.toArray) (.clo f caps)
 | tup (xs:List Value) (ds:List D) (hl:xs.length=ds.length)
    (h:∀(k:Nat) (x:Value) (c:D),xs[k]? =some x->ds[k]? =some c->R tp I w x c):R tp I w (.tuple xs.toArray) (.tup ds)
 |nomp:R tp I w (.map none) (.mp [])
 | mp (b:Nat) (es:Array MapEntry) (clock:Nat) (ds:List D) (hI:I b) (hh:w.heap[b]? =some (.map es clock)) (hl:es.size=ds.length) (hb:fy es clock)
    (h:∀(k:Nat) (e:MapEntry) (c:D),es[k]? =some e->ds[k]? =some c->R tp I w (.tuple #[e.key,e.val]) c):R tp I w (.map (some b)) (.mp ds)
 |nomst (since last:Nat) (seen:Array Nat):R tp I w (M1 none since seen last) (.mst [] [])
 | mst (b:Nat) (es:Array MapEntry) (clock since last:Nat) (seen:Array Nat) (ce:MapEntry) (cur ds:List D) (hI:I b) (hh:w.heap[b]? =some (.map es clock)) (hb:fy es clock)
    (hs:∀e∈es.toList,e.born<since) (hsl:since<=last/\since<=clock) (hl:(iE es seen).length=ds.length)
    (hc:cur=[]\/(cur.length=1/\seen.back? =some ce.born/\ce∈es.toList/\last=clock)) (hcr:∀c,cur=[c]->R tp I w (.tuple #[ce.key,ce.val]) c)
    (h:∀(k:Nat) (e:MapEntry) (c:D),(iE es seen)[k]? =some e->ds[k]? =some c->R tp I w (.tuple #[e.key,e.val]) c):R tp I w (M1 (some b) since seen last) (.mst cur ds)
def TapeStep(w w':World)(b:Nat):Prop:=
 ∀ (s:Value) (i:Int) (el:Nat),w.heap[b]? =some (.cells #[s, .int .i64 i] el (0,0))->0<=i->i<=slen s->
  ∃(j:Int) (a:Nat),w'.heap[b]? =some (.cells #[s, .int .i64 j] a (0,0))/\0<=j/\j<=slen s
def TapeStep.refl(w:World)(b:Nat):TapeStep w w b:=λ_ i el h h0 h1=>⟨i,el,h,h0,h1⟩
def TapeStep.same{w w':World}{b:Nat}(h:w'.heap[b]? =w.heap[b]?):TapeStep w w' b:=λ_ i el hh h0 h1=>⟨i,el,h ▸hh,h0,h1⟩
def TapeStep.trans{w a c:World}{b:Nat}(h:TapeStep w a b)(k:TapeStep a c b):TapeStep w c b:=λs i el hh h0 h1=>by
 grind [TapeStep]
def PlainB.same{w w':World}{b:Nat}(h:PlainB w b)(e:w'.heap[b]? =w.heap[b]?):PlainB w' b:=by
 grind [PlainB]
theorem R.mono{tp I r y:Nat->Prop}{w w':World}{x:Value}{d:D}(h:R tp I w x d)(A:∀b,tp b->r b)
 (hI:∀b,I b->y b/\w'.heap[b]? =w.heap[b]?) (C:∀b,tp b->TapeStep w w' b):R r y w' x d:=by
 induction h with
 |any x=>exact .any x
 |undef=>exact .undef
 |v x h hs=>exact .v x h hs
 |agg xs cs hl h1 _ q=>exact .agg xs cs hl h1 q
 |nolist a cap n=>exact .nolist a cap n
 | list b off cap n es f l hc hm hz hn hcell h1 _ q=>
   exact .list b off cap n es f (hI b l).1 hc hm (λh=>(hz h).same (hI b l).2) hn (λk c hk=>by grind [TapeStep,PlainB,D.kn,World.cell?_of_block]) h1 q
 | cptr b base cs off f l hz hcell h1 _ q=>
   exact .cptr b base cs off f (hI b l).1 (λh=>(hz h).same (hI b l).2) (λk c hk=>by grind [TapeStep,PlainB,World.cell?_of_block]) h1 q
 |bptr id b off=>exact .bptr id b off
 |own id x h=>exact .own id x h
 |eptr id b len cap n i off=>exact .eptr id b len cap n i off
 |subnil id n=>exact .subnil id n
 |sub id b len cap n lo hi p h1 h2 h3 hm hp=>exact .sub id b len cap n lo hi p h1 h2 h3 hm hp
 | tape b L s i el hb hh h0 h1 hs _ q=>
   obtain⟨j,t,a1,a2,a3⟩:=C b hb s i el hh h0 h1;exact .tape b L s j t (A b hb) a1 a2 a3 hs q
 |clo f xs caps hl _ q=>exact .clo f xs caps hl q
 |tup xs ds hl _ q=>exact .tup xs ds hl q
 |nomp=>exact .nomp
 |mp b es clock ds l hh hl hb _ q=>exact .mp b es clock ds (hI b l).1 ((hI b l).2.trans hh) hl hb q
 |nomst since last seen=>exact .nomst since last seen
 |mst b es clock since last seen ce cur ds l hh hb hs hsl hl hc _ _ u q=>exact .mst b es clock since last seen ce cur ds (hI b l).1 ((hI b l).2.trans hh) hb hs hsl hl hc u q
theorem R.cells{tp I:Nat->Prop}{w:World}{x:Value}{d:D}(h:R tp I w x d)(hk:d.kn=true):
 x.cells.toList.length=d.cells.length/\∀(k:Nat) (y:Value) (c:D),x.cells.toList[k]? =some y->d.cells[k]? =some c->y.oneCell'=true/\R tp I w y c:=by
 have one:∀(y:Value) (e:D),y.oneCell'=true->e.cells=[e]->y.cells= #[y]->R tp I w y e->
  y.cells.toList.length=e.cells.length/\∀(k:Nat) (z:Value) (c:D),y.cells.toList[k]? =some z->e.cells[k]? =some c->z.oneCell'=true/\R tp I w z c:=by
  grind
 have j:∀y:Value,y.oneCell'=true->y.cells= #[y]:=by
  intro y q;cases y<;>first|rfl|grind [Value.oneCell']
 cases h with
 |any x=>grind [D.kn]
 |undef=>grind [D.kn]
 |tup xs ds hl h=>grind [D.kn]
 |nomst=>grind [D.kn]
 |mst=>grind [fy,D.kn]
 |nomp=>exact one _ _ rfl rfl rfl .nomp
 |mp b es clock ds l hh hl hb h=>exact one _ _ rfl rfl rfl (.mp b es clock ds l hh hl hb h)
 | agg xs cs hl h1 h=>
   refine⟨hl,λk y c q hc=>⟨h1 y (qBf q),h k y c q hc⟩⟩
 |v x h hs=>exact one _ _ h rfl (j _ h) (.v x h hs)
 |own id x h=>exact one _ _ h rfl (j _ h) (.own id x h)
 |nolist a cap n=>exact one _ _ rfl rfl rfl (.nolist a cap n)
 |list b off cap n es f l hc hm hz hn hcell h1 h=>exact one _ _ rfl rfl rfl (.list b off cap n es f l hc hm hz hn hcell h1 h)
 |cptr b base cs off f l hz hcell h1 h=>exact one _ _ rfl rfl rfl (.cptr b base cs off f l hz hcell h1 h)
 |bptr id b off=>exact one _ _ rfl rfl rfl (.bptr id b off)
 |eptr id b len cap n i off=>exact one _ _ rfl rfl rfl (.eptr id b len cap n i off)
 |subnil id n=>exact one _ _ rfl rfl rfl (.subnil id n)
 |sub id b len cap n lo hi p h1 h2 h3 hm hp=>exact one _ _ rfl rfl rfl (.sub id b len cap n lo hi p h1 h2 h3 hm hp)
 |tape b L s i el hb hh h0 h1 hs h=>exact one _ _ rfl rfl rfl (.tape b L s i el hb hh h0 h1 hs h)
 |clo f xs caps hl h=>exact one _ _ rfl rfl rfl (.clo f xs caps hl h)
theorem gG{n:Nat} :∀{es:List D},(∀d∈es,d.cells.length=n)->∀{i j:Nat},j<n->(bk es)[i*n+j]? =(es[i]?).bind λd=>d.cells[j]?
 | [],_,i,j,_=>by rfl
 | d::es,h,0,j,a=>by
   simp_all [bk,qBN]
 | d::es,h,i+1,j,a=>by
   have b:=h d (by simp);have c:=gG (es:=es) (λd b=>h d (by grind)) (i:=i) a;grind [bk]
theorem aR{n:Nat} :∀{es:List D},(∀d∈es,d.cells.length=n)->(bk es).length=es.length*n
 | [],_=>by simp[bk]
 | d::es,h=>by
   have a:=aR (es:=es) (λd b=>h d (by grind));grind [bk]
theorem rf(a b:List D):bk (a++b)=bk a++bk b:=by simp[bk]
def qW:List (Nat×Array Value):=[]
inductive qA4 where
 |mrs (x:Value) (es:List D) (st:List Nat) (clock:Nat)
 |mit (b m:Nat) (x:Value) (clock:Nat) (seen:List Nat)
inductive Res where
 |box (b:Nat) (cells:List D)
 |row (x:Value) (el n:Nat) (es:List D)
 |iter (b:Nat) (s:ByteArray) (pos:Nat)
 |tbox (el b:Nat) (cells:List D)
 |mrow (x:Value) (es:List D)
 |miter (b:Nat) (cur left:List D)
 |raw (r:qA4)
def Res.blk:Res->Option Nat
 | .box b _=>some b
 | .row x _ _ _=>x.ownBlock
 | .iter b _ _=>some b
 | .tbox _ b _=>some b
 | .mrow x _=>match x with| .map m=>m|_=>none
 | .miter b _ _=>some b
 | .raw (.mrs x _ _ _)=>match x with| .map m=>m|_=>none
 | .raw (.mit b _ _ _ _)=>some b
abbrev ab:=Nat->Option Res
def ak(H:ab)(id:Nat)(r:Option Res):ab:=λi=>if i=id then r else H i
def bA(H:ab)(b:Nat):Prop:=∃i r,H i=some r/\r.blk=some b
def aW(O tp:Nat->Prop)(H:ab)(w:World)(b:Nat):Prop:=b<w.heap.size/\ ¬O b/\ ¬tp b/\ ¬bA H b
def aN(Q:Value->D->Prop)(xs:List Value)(cs:List D):Prop:=
 ∀(k:Nat) (y:Value) (c:D),xs[k]? =some y->cs[k]? =some c->y.oneCell'=true/\Q y c
def zG(Q:Value->D->Prop)(es:Array MapEntry)(ds:List D):Prop:=
 es.size=ds.length/\∀(k:Nat) (e:MapEntry) (c:D),es[k]? =some e->ds[k]? =some c->Q (.tuple #[e.key,e.val]) c
def ResOk(Q:Value->D->Prop)(w:World):Res->Prop
 | .box b cells=>∃(xs:Array Value) (el:Nat),w.heap[b]? =some (.cells xs el (0,0))/\xs.size=cells.length/\aN Q xs.toList cells
 | .iter b s pos=>w.heap[b]? =some (.stringIter s pos)
 | .tbox el b cells=>∃xs:Array Value,w.heap[b]? =some (.cells xs el (0,0))/\xs.size=cells.length/\aN Q xs.toList cells
 | .mrow x es=>∃(b:Nat) (a:Array MapEntry) (clock:Nat),x= .map (some b)/\w.heap[b]? =some (.map a clock)/\fy a clock/\zG Q a es
 | .miter b cur left=>∃(m:Option Nat) (since last:Nat) (seen:Array Nat),w.heap[b]? =some (.mapIter m since seen last)/\Q (M1 m since seen last) (.mst cur left)
 | .raw (.mrs x es st clock)=>∃(b:Nat) (a:Array MapEntry),x= .map (some b)/\w.heap[b]? =some (.map a clock)/\fy a clock/\a.toList.map (·.born)=st/\zG Q a es
 | .raw (.mit b _ x clock seen)=>∃c,x= .map (some c)/\w.heap[b]? =some (.mapIter (some c) clock seen.toArray clock)
 | .row x el n es=>∃xs:List Value,w.ownsRow 0 el n x es.length xs/\(∀d∈es,d.kn=true/\d.cells.length=n)/\aN Q xs (bk es)
structure qpr (O tp:Nat->Prop) (H:ab) (w:World):Prop where
 dis:∀i j r s b,H i=some r->H j=some s->r.blk=some b->s.blk=some b->i=j
 out:∀i r b,H i=some r->r.blk=some b->¬O b/\ ¬tp b
 ok:∀i r,H i=some r->ResOk (R tp (aW O tp H w) w) w r
structure GrB (w w':World) (row:Option Nat):Prop extends World.grownBy w w' row where
 drawn:w.drawn<=w'.drawn
def GrB.alloc(w:World)(o:Obj)(row:Option Nat):GrB w (w.alloc o) row:=⟨qC4 w o row,qBj _⟩
structure Step (dq:Prop) (tp own:Nat->Prop) (w w':World):Prop where
 os:w'.os=w.os
 tape:w'.tape=w.tape
 output:w'.output=w.output
 size:w.heap.size<=w'.heap.size
 same:∀b,b<w.heap.size->¬own b->¬tp b->w'.heap[b]? =w.heap[b]?
 tapes:∀b,tp b->TapeStep w w' b
 drawn:dq->w.drawn<=w'.drawn
def Step.refl{dq:Prop}(tp own:Nat->Prop)(w:World):Step dq tp own w w:=⟨rfl,rfl,rfl,qBj _,λ_ _ _ _=>rfl,λ_ _=> .refl _ _,λ_=>qBj _⟩
theorem ResOk.conv{Q p:Value->D->Prop}{w w':World}{r:Res}(h:ResOk Q w r)(l:∀x d,Q x d->p x d)(hb:∀b,r.blk=some b->w'.heap[b]? =w.heap[b]?):ResOk p w' r:=by
 cases r with
 | box b cells=>
   obtain⟨xs,el,h1,h2,h3⟩:=h;exact⟨xs,el,by rw[hb b rfl];omega,h2,λk y c j hc=>⟨(h3 k y c j hc).1,l _ _ (h3 k y c j hc).2⟩⟩
 | row x el n es=>
   obtain⟨xs,⟨h0,h1⟩,h2,h3⟩:=h;refine⟨xs,⟨h0,?_⟩,h2,λk y c j hc=>⟨(h3 k y c j hc).1,l _ _ (h3 k y c j hc).2⟩⟩;rcases h1 with h1|⟨g,cap,cur,q,t,C,u⟩;grind
   ·exact .inr ⟨g,cap,cur,q,t,by rw[hb g (by subst q;rfl)];omega,u⟩
 | tbox el b cells=>
   obtain⟨xs,h1,h2,h3⟩:=h;exact⟨xs,by rw[hb b rfl];omega,h2,λk y c j hc=>⟨(h3 k y c j hc).1,l _ _ (h3 k y c j hc).2⟩⟩
 | mrow x es=>
   obtain⟨b,a,clock,rfl,h1,h2,h3,h4⟩:=h;exact⟨b,a,clock,rfl,by rw[hb b rfl];omega,h2,h3,λk e c he hc=>l _ _ (h4 k e c he hc)⟩
 | miter b cur left=>
   obtain⟨m,since,last,seen,h1,h2⟩:=h;exact⟨m,since,last,seen,by rw[hb b rfl];omega,l _ _ h2⟩
 | raw k=>
   cases k with
   | mrs x es st clock=>
     obtain⟨b,a,rfl,h1,h2,h3,h4⟩:=h;exact⟨b,a,rfl,by rw[hb b rfl];omega,h2,h3,h4.1,λk e c he hc=>l _ _ (h4.2 k e c he hc)⟩
   | mit b m x clock seen=>
     obtain⟨A,rfl,h1⟩:=h;exact⟨A,rfl,by rw[hb b rfl];omega⟩
 | iter b s pos=>
   have h:w.heap[b]? =some (.stringIter s pos):=h;show w'.heap[b]? =_;rw[hb b rfl];exact h
def ResOk.lt{Q:Value->D->Prop}{w:World}{r:Res}(h:ResOk Q w r){b:Nat}(hb:r.blk=some b):b<w.heap.size:=by
 cases r with
 | box b' cells=>
   grind [ResOk,Res.blk]
 | row x el n es=>
   obtain⟨xs,⟨_,h1⟩,_⟩:=h;grind [Res.blk,Value.ownBlock]
 | tbox el b' cells=>
   grind [ResOk,Res.blk]
 | mrow x es=>
   grind [ResOk,Res.blk]
 | miter b' cur left=>
   grind [ResOk,Res.blk]
 | raw k=>
   cases k<;>grind [ResOk,Res.blk]
 | iter b' s pos=>
   have h:w.heap[b']? =some (.stringIter s pos):=h;grind [Res.blk]
def GlW(tp own:Nat->Prop)(w:World):Prop:=∀p∈qW,¬tp p.1/\ ¬own p.1/\∃(el:Nat) (z:Nat×Nat),w.heap[p.1]? =some (.cells p.2 el z)
def TpG(tp own:Nat->Prop)(w:World):Prop:=(∀b,tp b->b<w.heap.size)/\GlW tp own w
def GlW.mono{tp c own a:Nat->Prop}{w:World}(h:GlW tp own w)(h1:∀b,c b->tp b)(h2:∀b,a b->own b):GlW c a w:=λp hp=>
 ⟨λx=>(h p hp).1 (h1 _ x),λx=>(h p hp).2.1 (h2 _ x),(h p hp).2.2⟩
def TpG.mono{tp own a:Nat->Prop}{w:World}(h:TpG tp own w)(h2:∀b,a b->own b):TpG tp a w:=⟨h.1,h.2.mono (λ_ x=>x) h2⟩
def GlW.lt{tp own:Nat->Prop}{w:World}(h:GlW tp own w){p:Nat×Array Value}(hp:p∈qW):p.1<w.heap.size:=by
 grind [GlW]
def GlW.step{dq:Prop}{tp own:Nat->Prop}{w w':World}(h:GlW tp own w)(hs:Step dq tp own w w'):GlW tp own w':=λp hp=>by
 grind [GlW,Step]
structure zW where
 O:Nat->Prop
 tp0:Nat->Prop
 w0:World
 own0:Nat->Prop
 N:Nat
 ds:List Deferred:=[]
 dq:Prop:=True
structure StW (E:zW) (tp:Nat->Prop) (H:ab) (w:World):Prop where
 hO:∀b,E.O b->b<E.w0.heap.size
 tpx:∀b,E.tp0 b->tp b
 tpn:∀b,tp b->E.tp0 b\/E.w0.heap.size<=b
 tpl:(∀b,tp b->b<w.heap.size)/\GlW E.tp0 E.own0 E.w0
 step:Step E.dq E.tp0 E.own0 E.w0 w
 loc:∀b,bA H b->E.own0 b\/E.w0.heap.size<=b
 sat:qpr E.O tp H w
def StW.tpg{E:zW}{tp:Nat->Prop}{H:ab}{w:World}(h:StW E tp H w):TpG tp (bA H) w:=⟨h.tpl.1,λp hp=>by
 have a:=h.tpl.2.lt hp;obtain⟨h1,h2,el,z,hz⟩:=h.tpl.2.step h.step p hp;refine⟨λx=>?_,λx=>?_,el,z,hz⟩
 ·rcases h.tpn _ x with x|x;grind;omega
 ·rcases h.loc _ x with x|x;grind;omega⟩
theorem StW.move{E:zW}{tp a:Nat->Prop}{H H':ab}{w w':World}(h:StW E tp H w)(hs:Step E.dq tp (bA H) w w')
 (s:∀b,tp b->a b) (l:∀b,a b->tp b\/w.heap.size<=b) (p:∀b,a b->b<w'.heap.size)
 (c:∀b,bA H' b->bA H b\/w.heap.size<=b) (j:qpr E.O a H' w'):
 StW E a H' w'/\∀x d,R tp (aW E.O tp H w) w x d->R a (aW E.O a H' w') w' x d:=by
 have u:E.w0.heap.size<=w.heap.size:=h.step.size;refine⟨⟨h.hO,λb hb=>s b (h.tpx b hb),λb hb=>?_,⟨p,h.tpl.2⟩,?_,λb hb=>?_,j⟩,λx d y=>?_⟩
 ·rcases l b hb with hb|hb
  ·exact h.tpn b hb
  omega
 ·refine⟨hs.os.trans h.step.os,hs.tape.trans h.step.tape,hs.output.trans h.step.output,qBM u hs.size,λb hb ho r=>?_,λb hb=>(h.step.tapes b hb).trans (hs.tapes b (h.tpx b hb)),λq=>qBM (h.step.drawn q) (hs.drawn q)⟩;rw[hs.same b (by omega) (λk=>?_) (λt=>?_)]
  ·exact h.step.same b hb ho r
  ·rcases h.loc b k with h1|h1;grind;omega
  ·rcases h.tpn b t with h1|h1;grind;omega
 ·rcases c b hb with hb|hb
  ·exact h.loc b hb
  omega
 ·refine y.mono s (λb hb=>?_) hs.tapes;obtain⟨h1,h2,h3,h4⟩:=hb;refine⟨⟨qBu h1 hs.size,h2,λt=>?_,λho=>?_⟩,hs.same b h1 h4 h3⟩;grind;grind
theorem qcS{H:ab}{id:Nat}{r':Option Res}{b:Nat}(h:bA (ak H id r') b):(∃r,r'=some r/\r.blk=some b)\/ ∃i r,i≠id/\H i=some r/\r.blk=some b:=by
 grind [bA,ak]
theorem StW.own{E:zW}{tp:Nat->Prop}{H:ab}{w w':World}{row:Option Nat}(h:StW E tp H w)(id:Nat)(r':Option Res)(k:GrB w w' row)
 (u:∀b,row=some b->∃r,H id=some r/\r.blk=some b)
 (l:∀r b,r'=some r->r.blk=some b->w.heap.size<=b\/ ∃y,H id=some y/\y.blk=some b)
 (J:(∀x d,R tp (aW E.O tp H w) w x d->R tp (aW E.O tp (ak H id r') w') w' x d)->∀r,r'=some r->ResOk (R tp (aW E.O tp (ak H id r') w') w') w' r):
 StW E tp (ak H id r') w'/\∀x d,R tp (aW E.O tp H w) w x d->R tp (aW E.O tp (ak H id r') w') w' x d:=by
 have L:E.w0.heap.size<=w.heap.size:=h.step.size;have c:∀b,row=some b->bA H b:=λb hb=>by grind [bA]
 have F:∀b,bA (ak H id r') b->bA H b\/w.heap.size<=b:=λb hb=>by
  grind [bA,qcS]
 have p:∀b,aW E.O tp H w b->aW E.O tp (ak H id r') w' b/\w'.heap[b]? =w.heap[b]?:=λb hb=>by
  obtain⟨h1,h2,h3,h4⟩:=hb;refine⟨⟨qBu h1 k.size,h2,h3,λho=>?_⟩,k.block b h1 (λe=>h4 (c b e.symm))⟩;grind
 have a:∀b,tp b->w'.heap[b]? =w.heap[b]?:=λb hb=>k.block b (h.tpl.1 b hb) (λe=>by
  obtain⟨r,h1,h2⟩:=u b e.symm;exact(h.sat.out id r b h1 h2).2 hb)
 have move:∀x d,R tp (aW E.O tp H w) w x d->R tp (aW E.O tp (ak H id r') w') w' x d:=λx d q=>
  q.mono (λ_ h=>h) p (λb hb=> .same (a b hb))
 have A:Step E.dq tp (bA H) w w':=⟨k.os,k.tape,k.output,k.size,λb hb ho _=>k.block b hb (λe=>ho (c b e.symm)),λb hb=> .same (a b hb),λ_=>k.drawn⟩
 refine h.move A (λ_ h=>h) (λ_ h=> .inl h) (λb hb=>qBu (h.tpl.1 b hb) k.size) F ⟨?_,?_,?_⟩
 ·intro i j r s b hi C q hs;by_cases t:i=id
  ·by_cases I:j=id;omega
   ·exfalso;subst t;simp[ak]at hi;simp[ak,I]at C;rcases l r b hi q with h3|⟨y,h3,h4⟩
    ·have:=(h.sat.ok j s C).lt hs;omega
    ·exact I (h.sat.dis _ _ _ _ b C h3 hs h4)
  ·simp[ak,t]at hi;by_cases I:j=id
   ·exfalso;subst I;simp[ak]at C;rcases l s b C hs with h3|⟨y,h3,h4⟩
    ·have:=(h.sat.ok i r hi).lt q;omega
    ·exact t (h.sat.dis _ _ _ _ b hi h3 q h4)
   ·simp[ak,I]at C;exact h.sat.dis _ _ _ _ b hi C q hs
 ·intro i r b hi q;by_cases t:i=id
  ·subst t;simp[ak]at hi;rcases l r b hi q with h3|⟨y,h3,h4⟩
   ·exact⟨λhO=>by have:=h.hO b hO;omega,λK=>by have:=h.tpl.1 b K;omega⟩
   ·exact h.sat.out _ y b h3 h4
  ·simp[ak,t]at hi;exact h.sat.out _ r b hi q
 ·intro i r hi;by_cases t:i=id;grind [ResOk,StW,GrB,Res,Res.blk,bA,aW,ak]
  ·simp[ak,t]at hi;refine(h.sat.ok i r hi).conv move (λb hb=>k.block b ((h.sat.ok i r hi).lt hb) (λe=>?_));obtain⟨y,h3,h4⟩:=u b e.symm;exact t (h.sat.dis _ _ _ _ b hi h3 hb h4)
theorem StW.grow{E:zW}{tp:Nat->Prop}{H:ab}{w w':World}(h:StW E tp H w)(c:GrB w w' none):
 StW E tp H w'/\∀x d,R tp (aW E.O tp H w) w x d->R tp (aW E.O tp H w') w' x d:=by
 have j:∀b,aW E.O tp H w b->aW E.O tp H w' b/\w'.heap[b]? =w.heap[b]?:=λb hb=>
  ⟨⟨qBu hb.1 c.size,hb.2⟩,c.block b hb.1 (by simp)⟩
 have a:∀b,tp b->w'.heap[b]? =w.heap[b]?:=λb hb=>c.block b (h.tpl.1 b hb) (by simp)
 have move:∀x d,R tp (aW E.O tp H w) w x d->R tp (aW E.O tp H w') w' x d:=λx d l=>
  l.mono (λ_ h=>h) j (λb hb=> .same (a b hb))
 have k:Step E.dq tp (bA H) w w':=⟨c.os,c.tape,c.output,c.size,λb hb _ _=>c.block b hb (by simp),λb hb=> .same (a b hb),λ_=>c.drawn⟩
 refine h.move k (λ_ h=>h) (λ_ h=> .inl h) (λb hb=>qBu (h.tpl.1 b hb) c.size) (λb hb=> .inl hb) ⟨h.sat.dis,h.sat.out,λi r hi=>?_⟩;exact(h.sat.ok i r hi).conv move (λb hb=>c.block b ((h.sat.ok i r hi).lt hb) (by simp))
def Tf(w:World)(row:Option Nat):GrB w w.drew row:=⟨⟨rfl,rfl,rfl,qBj _,λ_ _ _=>rfl⟩,qCt _⟩
theorem fL(w:World)(row:Option Nat):GrB w w row:=⟨⟨rfl,rfl,rfl,qBj _,λ_ _ _=>rfl⟩,qBj _⟩
abbrev Sg:=Nat->D
def upd(a:Sg)(t:Nat)(d:D):Sg:=λs=>if s=t then d else a s
def St(E:zW)(b:Sg)(H:ab)(a:Act)(w:World):Prop:=
 a.defers=E.ds/\a.tmps.size=E.N/\∃tp,StW E tp H w/\∀t,R tp (aW E.O tp H w) w (a.tmps.getD t undef) (b t)
def fj(a:Sg)(t:Option Nat)(d:D):Sg:=match t with|some t=>upd a t d|none=>a
def qjq{N:Nat}{a:Act}{b:Sg}{Q:Value->D->Prop}(k:a.tmps.size=N)(c:∀t,Q (a.tmps.getD t undef) (b t))(dst:Option Nat)(j:∀t,dst=some t->t<N){x:Value}{d:D}(l:Q x d):
 ∀t,Q ((a.put dst x).tmps.getD t undef) (fj b dst d t):=by
 intro t;cases dst with
 |none=>exact c t
 | some s=>
   have hs:=j s rfl;simp only[Act.put,fj,upd];by_cases e:t=s;simp_all
   ·have p:¬s=t:=λh=>e h.symm
    simp_all
theorem Zp(a:Act)(dst:Option Nat)(x:Value):(a.put dst x).defers=a.defers:=by cases dst<;>rfl
theorem qfA(a:Act)(dst:Option Nat)(x:Value):(a.put dst x).tmps.size=a.tmps.size:=by cases dst<;>simp[Act.put]
def St.put{E:zW}{h:Sg}{H H':ab}{a:Act}{w':World}{b:Nat->Prop}{tp:Nat->Prop}{w:World}(p:a.defers=E.ds)(j:a.tmps.size=E.N)
 (k:∀t,R tp (aW E.O tp H w) w (a.tmps.getD t undef) (h t))
 (hm:StW E b H' w'/\∀x d,R tp (aW E.O tp H w) w x d->R b (aW E.O b H' w') w' x d) (dst:Option Nat) (c:∀t,dst=some t->t<E.N) {x:Value} {d:D}
 (l:R b (aW E.O b H' w') w' x d):St E (fj h dst d) H' (a.put dst x) w':=
 ⟨by grind [Zp],by grind [qfA],b,hm.1,qjq j (λt=>hm.2 _ _ (k t)) dst c l⟩
end
section
inductive Yt where
 |int|str|bool|nil
inductive KK where
 |int (k:IntKind)|str|bool|ptr
inductive MOp where
 |mk
 |look (ok agg ka:Bool) (ks:List KK) (z:List Value)
 |upd (ka:Bool) (ks:List KK)
 |del (ka:Bool) (ks:List KK)
 |rng
 |next
 |entry
 |len
 |aidx (len sz:Nat)
def MOp.isRead:MOp->Bool
 | .look .. | .entry| .len| .aidx .. =>true
 | _=>false
inductive COp where
 |mv (x:Operand)
 |pick (c x y:Operand)
 |alloc (el:Nat) (z:List Value)
 |box (el:Nat) (im:Bool) (x:Operand)
 |tbx (el:Nat) (x:Operand)
 |build (z:List Value) (parts:List (Nat×Nat×Operand))
 |bslice (el n:Nat) (parts:List Operand)
 |nslice (el n:Nat)
 |mslice (el n:Nat) (parts:List Operand)
 |load (agg:Bool) (sz:Nat) (x:Operand)
 |store (rt:Option Nat) (sz:Nat) (x y:Operand)
 |nilck (x:Operand)
 |arith (op:BinOp) (x y:Operand)
 |cmp (op:BinOp) (x y:Operand)
 |eql (neg agg:Bool) (ks:List Yt) (x y:Operand)
 |scat (x y:Operand)
 |not (x:Operand)
 |neg (x:Operand)
 |conv (k:IntKind) (x:Operand)
 |clo (f:Nat) (caps:List Operand)
 |mkslice (el n bytes:Nat) (agg:Bool) (z:List Value) (l c:Operand)
 |slice (n:Nat) (x:Operand) (lo hi:Option Operand)
 |sslice (x:Operand) (lo hi:Option Operand)
 |faddr (off:Nat) (x:Operand)
 |fld (agg:Bool) (sz off:Nat) (x:Operand)
 |iaddr (n:Nat) (x i:Operand)
 |sidx (x i:Operand)
 |ext (x:Operand) (i:Nat)
 |len (x:Operand)
 |slen (x:Operand)
 |mm (mx:Bool) (xs:List Operand)
 |append (rt:Option Nat) (el n bytes:Nat) (x y:Operand)
 |appmk (el n bytes:Nat) (agg:Bool) (z:List Value) (x c:Operand)
 |clear (n:Nat) (agg:Bool) (z:List Value) (x:Operand)
 |copy (n:Nat) (x y:Operand)
 |cap (x:Operand)
 |srange (x:Operand)
 |snext (x:Operand)
 |sbytes (x:Operand)
 |srunes (x:Operand)
 |bstr (x:Operand)
 |rstr (x:Operand)
 |mkif (t:Nat) (x:Operand)
 |m (o:MOp) (xs:List Operand)
 |bad
 |call (f:Nat) (args:List Operand)
 |callv (f:Operand) (args:List Operand)
 |callb (r f:Nat) (args:List Operand)
def qd:Value->D
 | .bool b=> .v (.bool b)
 | .int k n=> .v (.int k n)
 | .string s=> .v (.string s)
 | .pointer a=> .v (.pointer a)
 | .slice a l c=> .v (.slice a l c)
 | .nilFunc=> .v .nilFunc
 | .map a=> .v (.map a)
 | _=> .any
def ev(a:Sg):Operand->D
 | .tmp t=>a t
 | .const x=>qd x
 | .global g=> .v (.pointer (some ⟨g,0,none⟩))
 | .func f=> .clo f []
def zQ:Operand->Bool
 | .const (.string s)=>decide (s.size<=1000000)
 | _=>true
def cj(P:Program)(t:TypeId):Option Nat:=(P.info? t).map (·.size)
def gj(P:Program)(t:TypeId):Option Bool:=
 match P.underlying t with
 |some (.struct _)|some (.array _ _)=>some true
 |some _=>some false
 |none=>none
def cg(P:Program)(t:TypeId):Option (List Value):=do
 let i <-P.info? t
 let z <-i.zero
 if z.cells.toList.all (·.oneCell') && z.cells.size==i.size && z.cells.toList.all (λx=>match x with| .string s=>decide (s.size<=1000000)| .bool _| .int _ _| .pointer _| .slice _ _ _| .nilFunc| .map _=>true|_=>false)then some z.cells.toList else none
def K8(P:Program)(t:TypeId)(agg:Bool):Bool:=match(P.info? t).bind (·.zero)with
 |some (.agg _)=>agg
 |some x=>!agg && x.oneCell'
 |none=>false
def Ch(P:Program)(kf:TypeId->Option (List KK)):List Field->Nat->Option (List KK)
 | [],_=>some []
 | f::r,off=>do
   let ks <-kf f.type
   if f.offset = off && decide (f.name ≠ "_") && decide (cj P f.type = some ks.length) then
    let l <-Ch P kf r (off+ks.length)
    some (ks++l)
   else none
def KR(P:Program):Nat->TypeId->Option (List KK)
 | 0,_=>none
 | n+1,t=>match P.underlying t with
   |some (.int k)=>some [.int k]
   |some .string=>some [.str]
   |some .bool=>some [.bool]
   | some (.pointer e)=>match cj P e with
     |some (_+1)=>some [.ptr]
     | _=>none
   |some (.struct fs)=>if P.stoodInHeld t then none else Ch P (KR P n) fs.toList 0
   | some (.array len e)=>do
     let ks <-KR P n e
     if cj P e=some ks.length then some (List.replicate len ks).flatten else none
   | _=>none
def qgh(P:Program)(t:TypeId):Option (Bool×List KK):=do
 let ka <-gj P t
 let ks <-KR P 50 t
 some (ka,ks)
def lu(P:Program)(t:TypeId):Option Yt:=
 match P.underlying t with
 |some (.int _)=>some .int
 |some .string=>some .str
 |some .bool=>some .bool
 |some (.slice _)=>some .nil
 | _=>none
def yX(P:Program)(t:TypeId):Option (List Yt):=
 match P.underlying t with
 | some (.struct fs)=>
   if !P.stoodInHeld t && !P.eqGuardType P.depth t && decide (fs.toList.map (·.offset) = List.range' 0 fs.toList.length) && fs.toList.all (fun f => decide (f.name ≠ "_")) then fs.toList.mapM (fun f => lu P f.type) else none
 | _=>none
def mQ(P:Program)(neg:Bool)(t:TypeId)(x y:Operand):Option COp:=
 match lu P t with
 |some k=>some (.eql neg false [k] x y)
 |none=>(yX P t).map λks=> .eql neg true ks x y
def wF(parts:Array (Nat×Operand))(n:Nat):Option (List Operand):=
 if parts.toList.map (·.1)=List.range n then some (parts.toList.map (·.2))else none
def qha(im:List Nat)(d:Option Nat):Bool:=d.any im.contains
def qqm(im:List Nat)(d:Option Nat):Bool:=d.any λd=>im.contains (d+100000)
def qi3(im:List Nat)(d:Option Nat):Bool:=d.any λd=>im.contains (d+200000)
def qfp(im:List Nat)(d:Option Nat):Option Nat:=d.bind λd=>(im.find? λc=>c/1000=1000+d).map λc=>c % 1000
def qmE(im:List Nat)(x:Operand):Option Nat:=match x with
 | .tmp t=>(im.find? λc=>c/1000=2000+t).map λc=>c % 1000
 | _=>none
def qbX(im:List Nat)(d:Option Nat):Option Nat:=d.bind λd=>(im.find? λc=>c/1000=3000+d).map λc=>c % 1000
def Z7(b:Option Nat)(f:Nat)(args:List Operand):COp:=match b with
 |none=> .call f args
 |some r=> .callb r f args
def qlw(im:List Nat):Bool:=im.contains 300000
def C7:Nat:=1000000007
def SZ(P:Program)(t:TypeId):Bool:=match P.underlying t with|some (.int _)=>true|_=>false
def cI(P:Program)(im:List Nat)(o:Oper):Option COp:=
 if !o.op.operands.toList.all zQ then none else
 match o.op with
 | .move x| .assign x=>some (.mv x)
 | .pick c x y=>some (.pick c x y)
 | .alloc el=>do some (.alloc el (<-cg P el))
 | .box el x=>if qi3 im o.dst then some (.tbx el x)else some (.box el (qha im o.dst) x)
 | .build t parts=>do
   let z <-cg P t
   match P.underlying t with
   | some (.struct fs)=>
     let a <-parts.toList.mapM λp=>do
      let f <-fs[p.1]?
      let sz <-cj P f.type
      if f.offset+sz<=z.length then some (f.offset,sz,p.2)else none
     if fs.toList.all (λf=>(cj P f.type).isSome)then some (.build z a)else none
   | some (.array _ el)=>
     let sz <-cj P el
     let a <-parts.toList.mapM λp=>if p.1*sz+sz<=z.length then some (p.1*sz,sz,p.2)else none
     some (.build z a)
   | _=>none
 | .buildSlice t len parts=>do
   match P.underlying t with
   | some (.slice el)=>
     let n <-cj P el
     let _ <-cg P el
     let a <-wF parts len
     if len*n<=2^24 && 0<n then(if len=0 then some (.nslice el n)else if qqm im o.dst then some (.mslice el n a)else some (.bslice el n a))else none
   | _=>none
 | .load t x=>do
   let agg <-gj P t
   let sz <-cj P t
   if agg||sz=1 then some (.load agg sz x)else none
 | .store t x y=>do some (.store (qmE im x) (<-cj P t) x y)
 | .nilCheck x=>some (.nilck x)
 | .binOp op t x y _=>
   match op with
   | .add=>if SZ P t then some (.arith .add x y)else match P.underlying t with|some .string=>some (.scat x y)|_=>none
   | .sub| .mul| .quo| .rem=>if SZ P t then some (.arith op x y)else none
   | .and| .or| .shl| .shr=>if SZ P t then some (.arith op x y)else none
   | .lss| .leq| .gtr| .geq=>if SZ P t then some (.cmp op x y)else match P.underlying t with|some .string=>some (.cmp op x y)|_=>none
   | .eql=>mQ P false t x y
   | .neq=>mQ P true t x y
   | _=>none
 | .unOp .not _ x=>some (.not x)
 | .unOp .neg _ x=>some (.neg x)
 | .convert s t x=>
   match P.underlying s,P.underlying t with
   |some (.int _),some (.int k)=>some (.conv k x)
   |some (.int _),some .string=>some (.rstr x)
   | some .string,some (.slice el)=>match P.underlying el with
     |some (.int .u8)=>some (.sbytes x)
     |some (.int .i32)=>some (.srunes x)
     | _=>none
   | some (.slice el),some .string=>match P.underlying el with
     |some (.int .u8)=>some (.bstr x)
     | _=>none
   | _,_=>none
 | .makeFunc (.func f) first caps=>if first.isEmpty then some (.clo f caps.toList)else none
 | .makeSlice t l c=>do
   match P.underlying t with
   | some (.slice el)=>
     let n <-cj P el
     let z <-cg P el
     let b:=P.bytesOf el
     let agg <-gj P el
     if 0<n && (agg||n=1)then some (.mkslice el n b agg z l c)else none
   | _=>none
 | .slice t x lo hi none=>
   match P.underlying t with
   |some (.slice el)=>do some (.slice (<-cj P el) x lo hi)
   |some .string=>some (.sslice x lo hi)
   | _=>none
 | .fieldAddr t x f=>do
   match P.underlying t with
   | some (.struct fs)=>
     let fd <-fs[f]?
     let sz <-cj P fd.type
     if 0<sz then some (.faddr fd.offset x)else none
   | _=>none
 | .field t x f=>do
   match P.underlying t with
   | some (.struct fs)=>
     let fd <-fs[f]?
     let agg <-gj P fd.type
     let sz <-cj P fd.type
     if agg||sz=1 then some (.fld agg sz fd.offset x)else none
   | _=>none
 | .indexAddr t x i=>do
   match P.underlying t with
   |some (.slice el)=>some (.iaddr (<-cj P el) x i)
   | some (.array len el)=>match i with
     | .const (.int .i64 k)=>do
       let sz <-cj P el
       if 0<=k/\k<len then some (.faddr (k.toNat*sz) x)else none
     | _=>do some (.m (.aidx len (<-cj P el)) [x,i])
   | _=>none
 | .index t x i=>
   match P.underlying t with
   |some .string=>some (.sidx x i)
   | _=>none
 | .extract x i=>some (.ext x i)
 | .range t x=>match P.underlying t with
   |some .string=>some (.srange x)
   |some (.map _ _)=>some (.m .rng [x])
   | _=>none
 | .next x true=>some (.snext x)
 | .next x false=>some (.m .next [x])
 | .entry x=>some (.m .entry [x])
 | .makeMap t none=>some (.m .mk [])
 | .lookup t x k ok=>match P.underlying t with
   | some (.map d h)=>do
     let (ka,ks) <-qgh P d
     let z <-cg P h
     let agg <-gj P h
     if K8 P h agg then some (.m (.look ok agg ka ks z) [x,k])else none
   | _=>none
 | .mapUpdate t x k v| .insert t x k v=>match P.underlying t with
   | some (.map d _)=>do
     let (ka,ks) <-qgh P d
     some (.m (.upd ka ks) [x,k,v])
   | _=>none
 | .makeInterface t x=>if qlw im then(match P.underlying t with|some (.struct _)=>some (.mkif t x)|_=>none)else some .bad
 | .panic x=>if qlw im && decide (P.funcs.size<=C7)then some (.call C7 [x])else some .bad
 | .call c=>
   match c.callee with
   | .value (.func f)=>if f=C7 then none else some (Z7 (qbX im o.dst) f c.args.toList)
   | .value f=>some (.callv f c.args.toList)
   | .builtin .len=>match c.argTypes.toList,c.args.toList with
     | [t], [x]=>match P.underlying t with|some (.slice _)=>some (.len x)|some .string=>some (.slen x)|some (.map _ _)=>some (.m .len [x])|_=>none
     | _,_=>none
   | .builtin .min=>some (.mm false c.args.toList)
   | .builtin .max=>some (.mm true c.args.toList)
   | .builtin .append=>match c.argTypes.toList,c.args.toList with
     | [t,u], [x,y]=>if t=u then(match P.underlying t with
       | some (.slice el)=>do
         let n <-cj P el
         let _ <-cg P el
         if 0<n then some (.append (qfp im o.dst) el n (P.bytesOf el) x y)else none
       | _=>none)else(match P.underlying t,P.underlying u with
       | some (.slice el),some (.int _)=>do
         let n <-cj P el
         let z <-cg P el
         let agg <-gj P el
         if 0<n && (agg||n=1)then some (.appmk el n (P.bytesOf el) agg z x y)else none
       | some (.slice el),some .string=>do
         let n <-cj P el
         let _ <-cg P el
         if n=1 then some (.append (qfp im o.dst) el n (P.bytesOf el) x y)else none
       | _,_=>none)
     | _,_=>none
   | .builtin .clear=>match c.argTypes.toList,c.args.toList with
     | [t], [x]=>match P.underlying t with
       | some (.slice el)=>do
         let n <-cj P el
         let z <-cg P el
         let agg <-gj P el
         if 0<n && (agg||n=1)then some (.clear n agg z x)else none
       | _=>none
     | _,_=>none
   | .builtin .copy=>match c.argTypes.toList,c.args.toList with
     | [t,u], [x,y]=>if t=u then(match P.underlying t with
       | some (.slice el)=>do
         let n <-cj P el
         if 0<n then some (.copy n x y)else none
       | _=>none)else none
     | _,_=>none
   | .builtin .cap=>match c.argTypes.toList,c.args.toList with
     | [t], [x]=>match P.underlying t with|some (.slice _)=>some (.cap x)|_=>none
     | _,_=>none
   | .builtin .delete=>match c.argTypes.toList,c.args.toList with
     | [t,_], [x,k]=>match P.underlying t with
       | some (.map d _)=>do
         let (ka,ks) <-qgh P d
         some (.m (.del ka ks) [x,k])
       | _=>none
     | _,_=>none
   | _=>none
 | _=>none
abbrev PT:=Nat->List D->ab->(D->ab->Prop)->Prop
structure PC where
 pre:List D->Prop
 post:List D->D->Prop
def sD(A:PT):Prop:=∀(d:Nat) (ds:List D) (H:ab) (K a:D->ab->Prop),(∀r H,K r H->a r H)->A d ds H K->A d ds H a
inductive Spc where
 |none
 |pure (c:PC)
 |gen (A:PT) (h:sD A)
def Spc.pt:Spc->PT
 | .none=>λ_ _ _ _=>False
 | .pure c=>λ_ ds H K=>c.pre ds/\∀r,c.post ds r->K r H
 | .gen A _=>A
def InR:IntKind->Int->Prop
 | .i64,n=> -9223372036854775808<=n/\n<=9223372036854775807
 | .i32,n=> -2147483648<=n/\n<=2147483647
 | .i16,n=> -32768<=n/\n<=32767
 | .i8,n=> -128<=n/\n<=127
 | .u64,n=>0<=n/\n<=18446744073709551615
 | .u32,n=>0<=n/\n<=4294967295
 | .u16,n=>0<=n/\n<=65535
 | .u8,n=>0<=n/\n<=255
def InR.wrap{k:IntKind}{n:Int}(h:InR k n):k.wrap n=n:=by
 cases k<;>simp[InR]at h<;>simp[IntKind.wrap,IntKind.bits,IntKind.signed] <;>lia
def Yf(k:IntKind)(a b:Int):Int:=k.wrap (BitVec.ofInt k.bits a &&& BitVec.ofInt k.bits b).toNat
def qoT(k:IntKind)(a b:Int):Int:=k.wrap (BitVec.ofInt k.bits a|||BitVec.ofInt k.bits b).toNat
def RN(k:IntKind)(a b:Int):Int:=k.wrap (a*2^min b.toNat k.bits)
def qcE(k:IntKind)(a b:Int):Int:=a.fdiv (2^min b.toNat k.bits)
def qdk(op:BinOp)(k a:IntKind):Prop:=match op with
 | .shl| .shr=>True
 | _=>k=a
def gu(op:BinOp)(k:IntKind)(a b:Int)(K:D->Prop):Prop:=
 match op with
 | .add=>InR k (a+b)/\K (.v (.int k (a+b)))
 | .sub=>InR k (a -b)/\K (.v (.int k (a -b)))
 | .mul=>InR k (a*b)/\K (.v (.int k (a*b)))
 | .quo=>b≠0/\InR k (a.tdiv b)/\K (.v (.int k (a.tdiv b)))
 | .rem=>b≠0/\K (.v (.int k (a.tmod b)))
 | .and=>K (.v (.int k (Yf k a b)))
 | .or=>K (.v (.int k (qoT k a b)))
 | .shl=>0<=b/\K (.v (.int k (RN k a b)))
 | .shr=>0<=b/\K (.v (.int k (qcE k a b)))
 | _=>False
def TH(op:BinOp)(a b:Int):Option Bool:=
 match op with
 | .lss=>some (decide (a<b))
 | .leq=>some (decide (a<=b))
 | .gtr=>some (decide (b<a))
 | .geq=>some (decide (b<=a))
 | _=>none
def XJ(op:BinOp)(a b:ByteArray):Option Bool:=
 match op with
 | .lss=>some (Op.bytesLess a.toList b.toList)
 | .leq=>some (Op.bytesLess a.toList b.toList||a.toList==b.toList)
 | .gtr=>some (!(Op.bytesLess a.toList b.toList||a.toList==b.toList))
 | .geq=>some (!Op.bytesLess a.toList b.toList)
 | _=>none
def qtz:List D->Option (List Value)
 | []=>some []
 | .v x::l=>(qtz l).map (x:: ·)
 | _=>none
def lF:D->Option (IntKind×Int)
 | .v (.int k n)=>some (k,n)
 | _=>none
def qr8:D->Option ByteArray
 | .v (.string s)=>some s
 | _=>none
def qr9:D->Option Bool
 | .v (.bool b)=>some b
 | _=>none
def qm7:D->D->Option Bool
 | .v (.slice none 0 0), .v (.slice none 0 0)=>some true
 | .list _ (_::_), .v (.slice none 0 0)=>some false
 | _,_=>none
def Xj(k:Yt)(d e:D):Option Bool:=
 match k with
 | .int=>(lF d).bind λp=>(lF e).bind λq=>if p.1=q.1 then some (decide (p.2=q.2))else none
 | .str=>(qr8 d).bind λp=>(qr8 e).bind λq=>some (decide (p=q))
 | .bool=>(qr9 d).bind λp=>(qr9 e).bind λq=>some (decide (p=q))
 | .nil=>qm7 d e
def ZY:List Yt->List D->List D->Option Bool
 | [],as,c=>if as.isEmpty && c.isEmpty then some true else none
 |k::ks,as,c=>as.head?.bind λa=>c.head?.bind λb=>(Xj k a b).bind λp=>(ZY ks as.tail c.tail).bind λq=>some (p && q)
def uJ:D->Option (List D)
 | .agg cs=>some cs
 | _=>none
def qg0(agg:Bool)(ks:List Yt)(a b:D):Option Bool:=
 if agg then(uJ a).bind λas=>(uJ b).bind λc=>ZY ks as c
 else match ks with
  | [k]=>Xj k a b
  | _=>none
def kW(lo hi:Option (Option (IntKind×Int)))(len:Nat)(K:Nat->Nat->Prop):Prop:=
 match lo,hi with
 |none,none=>K 0 len
 |some (some (_,l)),none=>0<=l/\l<=len/\K l.toNat len
 |none,some (some (_,h))=>0<=h/\h<=len/\K 0 h.toNat
 |some (some (_,l)),some (some (_,h))=>0<=l/\l<=h/\h<=len/\K l.toNat h.toNat
 | _,_=>False
def Ug(agg:Bool)(z:List Value):D:=if agg then .agg (z.map qd)else qd (z.headD (.bool false))
def setAt(l:List D)(off:Nat)(new:List D):List D:=l.take off++new++l.drop (off+new.length)
def KQ(agg:Bool)(sz:Nat)(cs:List D)(off:Nat):D:=if agg then .agg ((cs.drop off).take sz)else(cs[off]?).getD .any
def jz(a:Sg):List (Nat×Nat×Operand)->List D->(List D->Prop)->Prop
 | [],cs,K=>K cs
 |(off,sz,x)::r,cs,K=>(ev a x).kn=true/\(ev a x).cells.length=sz/\jz a r (setAt cs off (ev a x).cells) K
def jr(n:Nat):List D->Prop
 | []=>True
 |d::r=>d.kn=true/\d.cells.length=n/\jr n r
def qaa:D->Option UInt8
 | .v (.int .u8 n)=>some (UInt8.ofNat n.toNat)
 | _=>none
def qlS(es:List D):Bool:=es.all λd=>(qaa d).isSome
def qn5(es:List D):ByteArray:=⟨(es.map λd=>(qaa d).getD 0).toArray⟩
def qkl:KK->D->Bool
 | .int k, .v (.int a _)=>decide (k=a)
 | .str, .v (.string _)=>true
 | .bool, .v (.bool _)=>true
 | .ptr, .cptr cs _=>decide (cs.length≠1)
 | .ptr, .v (.pointer none)=>true
 | _,_=>false
def qkk:List KK->List D->Bool
 | [], []=>true
 |k::ks,d::ds=>qkl k d && qkk ks ds
 | _,_=>false
def ZR(ka:Bool)(ks:List KK)(d:D):Bool:=
 if ka then(match uJ d with|some cs=>qkk ks cs|none=>false)else(match ks with|[k]=>qkl k d|_=>false)
def qdA(ka:Bool)(ks:List KK):D->Bool
 | .tup [k,_]=>ZR ka ks k
 | _=>false
def qxe:D->Bool
 | .v _=>true
 | _=>false
def Yo(d:D):Bool:=d.cells.all qxe
def qif(a b:D):Prop:=∃(tp I:Nat->Prop) (w:World) (x:Value),R tp I w x a/\R tp I w x b
def Gw(d:D)(H:ab)(K:List D->Prop):Prop:=
 match d with
 | .mp es=>K es
 | .v (.map none)=>K []
 | .own id x=>match H id with
   |some (.mrow a es)=>a=x/\K es
   | _=>False
 | _=>False
def qtW(ok:Bool)(v:D)(b:Bool):D:=if ok then .tup [v, .v (.bool b)]else v
def qnf(ok agg ka:Bool)(ks:List KK)(z:List Value)(k:D)(es:List D)(K:D->Prop):Prop:=
 es.all (qdA ka ks)=true/\ZR ka ks k=true/\(∀a v,D.tup [a,v] ∈es->qif k a->K (qtW ok v true))/\((Yo k=true->∀v,D.tup [k,v] ∉es)->K (qtW ok (Ug agg z) false))
def qlg(ka:Bool)(ks:List KK)(k v:D)(es:List D)(K:List D->Prop):Prop:=
 es.all (qdA ka ks)=true/\ZR ka ks k=true/\(∀a b v' c,es=a++D.tup [b,v']::c->qif k b->K (a++D.tup [k,v]::c))/\((Yo k=true->∀v',D.tup [k,v'] ∉es)->K (es++ [.tup [k,v]]))
def qlQ(ka:Bool)(ks:List KK)(k:D)(es:List D)(st:List Nat)(K:List D->List Nat->Prop):Prop:=
 es.all (qdA ka ks)=true/\ZR ka ks k=true/\(∀(i:Nat) (a v':D),es[i]? =some (D.tup [a,v'])->qif k a->K (es.eraseIdx i) (st.eraseIdx i))/\((Yo k=true->∀v',D.tup [k,v'] ∉es)->K es st)
def qsz(st:List Nat)(clock n:Nat):Prop:=st.length=n/\st.Nodup/\∀s∈st,s<clock
def qbR(x:Value)(clock:Nat)(seen:List Nat)(r:Option Res)(K:D->Prop):Prop:=match r with
 | some (.raw (.mrs b es st a))=>b=x/\a=clock/\match seen.getLast? with
   |some s=>s∈st/\∀(i:Nat) (e:D),st[i]? =some s->es[i]? =some e->K e
   |none=>False
 | _=>False
def qfU(id b m:Nat)(x:Value)(clock:Nat)(seen:List Nat)(r:Option Res)(H:ab)(K:D->ab->Prop):Prop:=match r with
 | some (.raw (.mrs c es st a))=>c=x/\a=clock/\((∀s∈st,s∈seen)->K (.tup [.v (.bool false)]) (ak H m (some (.mrow c es))))/\
    ∀s,s∈st->s∉seen->K (.tup [.v (.bool true), .any, .any]) (ak H id (some (.raw (.mit b m x clock (seen++ [s])))))
 | _=>False
def qfq(t id:Nat)(x:Value)(r:Option Res)(H:ab)(K:D->ab->Prop):Prop:=match r with
 |some (.mrow a es)=>a=x/\∀b st clock,qsz st clock es.length->K (.bptr t b 0) (ak (ak H id (some (.raw (.mrs a es st clock)))) t (some (.raw (.mit b id a clock []))))
 | _=>False
def qgR(off:Nat)(d:D)(K:D->Prop):Prop:=match d with
 | .cptr cs o=>K (.cptr cs (o+off))
 | .bptr id b o=>K (.bptr id b (o+off))
 | .eptr id x n i o=>K (.eptr id x n i (o+off))
 | _=>False
def Bb(o:MOp)(ds:List D)(H:ab)(K:D->Prop):Prop:=
 match o,ds with
 | .look ok agg ka ks z, [x,k]=>Gw x H λes=>qnf ok agg ka ks z k es K
 | .len, [x]=>Gw x H λes=>K (.v (.int .i64 es.length))
 | .entry, [.bptr id b off]=>off=0/\match H id with
   |some (.miter b' [e] _)=>b'=b/\K e
   |some (.raw (.mit b' m x clock seen))=>b'=b/\qbR x clock seen (H m) K
   | _=>False
 | .aidx len sz, [x, .v (.int _ k)]=>0<=k/\k<len/\qgR (k.toNat*sz) x K
 | _,_=>False
def nH(o:MOp)(ds:List D)(dst:Option Nat)(H:ab)(K:D->ab->Prop):Prop:=
 match o,ds with
 | .mk, []=>match dst with
   |some t=>∀x,K (.own t x) (ak H t (some (.mrow x [])))
   |none=>False
 | .upd ka ks, [.own id x,k,v]=>match H id with
   |some (.mrow a es)=>a=x/\qlg ka ks k v es λes'=>K .undef (ak H id (some (.mrow a es')))
   | _=>False
 | .rng, [x]=>match dst with
   | some t=>(match x with
     | .mp es=>∀b,K (.bptr t b 0) (ak H t (some (.miter b [] es)))
     | .v (.map none)=>∀b,K (.bptr t b 0) (ak H t (some (.miter b [] [])))
     | .own id x=>qfq t id x (H id) H K
     | _=>False)
   |none=>False
 | .next, [.bptr id b off]=>off=0/\match H id with
   |some (.miter b' cur left)=>b'=b/\(left=[]->K (.tup [.v (.bool false)]) H)/\∀h e j,left=h++e::j->K (.tup [.v (.bool true), .any, .any]) (ak H id (some (.miter b' [e] (h++j))))
   |some (.raw (.mit b' m x clock seen))=>b'=b/\qfU id b' m x clock seen (H m) H K
   | _=>False
 | .del ka ks, [.own id x,k]=>match H id with
   |some (.raw (.mrs a es st clock))=>a=x/\qlQ ka ks k es st λes' c=>K (.tup []) (ak H id (some (.raw (.mrs a es' c clock))))
   | _=>False
 |o,ds=>Bb o ds H λd=>K d H
def aj(c:COp)(j:Sg)(H:ab)(K:D->Prop):Prop:=
 match c with
 | .mv x=>K (ev j x)
 | .pick c x y=>match ev j c with
   | .v (.bool t)=>(t=true->K (ev j x))/\(t=false->K (ev j y))
   | _=>False
 | .box _ true x=>(ev j x).kn=true/\K (.cptr (ev j x).cells 0)
 | .build z parts=>jz j parts (z.map qd) λcs=>K (.agg cs)
 | .bslice _ n A=>jr n (A.map (ev j))/\K (.list n (A.map (ev j)))
 | .load agg sz x=>match ev j x with
   | .cptr cs off=>off+sz<=cs.length/\K (KQ agg sz cs off)
   | .bptr id b off=>match H id with
     |some (.box b' cells)=>b'=b/\off+sz<=cells.length/\K (KQ agg sz cells off)
     | _=>False
   | .eptr id x n i off=>match H id with
     |some (.row r _ q es)=>r=x/\q=n/\off+sz<=n/\i<es.length/\∀d,es[i]? =some d->K (KQ agg sz d.cells off)
     | _=>False
   | _=>False
 | .nilck x=>match ev j x with
   | .cptr cs off=>K (.cptr cs off)
   | .bptr id b off=>K (.bptr id b off)
   | .eptr id x n i off=>K (.eptr id x n i off)
   | .tape L=>K (.tape L)
   | .clo f caps=>K (.clo f caps)
   | _=>False
 | .arith op x y=>match ev j x,ev j y with
   | .v (.int k a), .v (.int u b)=>qdk op k u/\gu op k a b K
   | _,_=>False
 | .cmp op x y=>match ev j x,ev j y with
   | .v (.int k a), .v (.int u b)=>k=u/\(match TH op a b with|some t=>K (.v (.bool t))|none=>False)
   | .v (.string a), .v (.string b)=>match XJ op a b with|some t=>K (.v (.bool t))|none=>False
   | _,_=>False
 | .eql neg agg ks x y=>match qg0 agg ks (ev j x) (ev j y)with
   |some p=>K (.v (.bool (if neg then !p else p)))
   |none=>False
 | .scat x y=>match ev j x,ev j y with
   | .v (.string a), .v (.string b)=>a.size+b.size<=1000000000/\K (.v (.string (a++b)))
   | _,_=>False
 | .not x=>match ev j x with
   | .v (.bool b)=>K (.v (.bool (!b)))
   | _=>False
 | .neg x=>match ev j x with
   | .v (.int k n)=>InR k (0 -n)/\K (.v (.int k (0 -n)))
   | _=>False
 | .conv k x=>match ev j x with
   | .v (.int _ n)=>K (.v (.int k (k.wrap n)))
   | _=>False
 | .clo f caps=>K (.clo f (caps.map (ev j)))
 | .slice n x lo hi=>match ev j x with
   | .list q es=>q=n/\(match lo.map (λo=>lF (ev j o)),hi.map (λo=>lF (ev j o))with
     |none,none=>K (.list n es)
     |some (some (_,l)),none=>0<=l/\l<=es.length/\K (.list n (es.drop l.toNat))
     |none,some (some (_,h))=>0<=h/\h<=es.length/\K (.list n (es.take h.toNat))
     |some (some (_,l)),some (some (_,h))=>0<=l/\l<=h/\h<=es.length/\K (.list n ((es.take h.toNat).drop l.toNat))
     | _,_=>False)
   | .own id x=>match H id with
     |some (.row r _ q es)=>r=x/\q=n/\kW (lo.map λo=>lF (ev j o)) (hi.map λo=>lF (ev j o)) es.length λl h=>K (.sub id x n l h)
     | _=>False
   | .sub id x q a b=>q=n/\kW (lo.map λo=>lF (ev j o)) (hi.map λo=>lF (ev j o)) (b -a) λl h=>K (.sub id x n (a+l) (a+h))
   | .v (.slice none 0 0)=>kW (lo.map λo=>lF (ev j o)) (hi.map λo=>lF (ev j o)) 0 λ_ _=>K (.v (.slice none 0 0))
   | _=>False
 | .sslice x lo hi=>match ev j x with
   | .v (.string s)=>(match lo.map (λo=>lF (ev j o)),hi.map (λo=>lF (ev j o))with
     |none,none=>K (.v (.string (s.extract 0 s.size)))
     |some (some (_,l)),none=>0<=l/\l<=s.size/\K (.v (.string (s.extract l.toNat s.size)))
     |none,some (some (_,h))=>0<=h/\h<=s.size/\K (.v (.string (s.extract 0 h.toNat)))
     |some (some (_,l)),some (some (_,h))=>0<=l/\l<=h/\h<=s.size/\K (.v (.string (s.extract l.toNat h.toNat)))
     | _,_=>False)
   | _=>False
 | .faddr off x=>match ev j x with
   | .cptr cs o=>K (.cptr cs (o+off))
   | .bptr id b o=>K (.bptr id b (o+off))
   | .eptr id x n i o=>K (.eptr id x n i (o+off))
   | _=>False
 | .fld agg sz off x=>match ev j x with
   | .agg cs=>off+sz<=cs.length/\K (KQ agg sz cs off)
   | _=>False
 | .iaddr n x i=>match ev j i with
   | .v (.int _ k)=>match ev j x with
     | .list q es=>q=n/\0<=k/\k<es.length/\∀d,es[k.toNat]? =some d->K (.cptr d.cells 0)
     | .own id x=>match H id with
       |some (.row r _ q es)=>r=x/\q=n/\0<=k/\k<es.length/\K (.eptr id x n k.toNat 0)
       | _=>False
     | .sub id x q lo hi=>q=n/\0<=k/\k<(hi -lo:Nat)/\K (.eptr id x n (lo+k.toNat) 0)
     | _=>False
   | _=>False
 | .sidx x i=>match ev j i with
   | .v (.int _ k)=>match ev j x with
     | .v (.string s)=>0<=k/\k<s.size/\∀c,s.data[k.toNat]? =some c->K (.v (.int .u8 c.toNat))
     | _=>False
   | _=>False
 | .ext x i=>match ev j x with
   | .tup ds=>match ds[i]? with
     |some d=>K d
     |none=>False
   | _=>False
 | .len x=>match ev j x with
   | .list _ es=>(es.length:Int)<=9223372036854775807->K (.v (.int .i64 es.length))
   | .own id x=>match H id with
     |some (.row r _ _ es)=>r=x/\((es.length:Int)<=9223372036854775807->K (.v (.int .i64 es.length)))
     | _=>False
   | .v (.slice _ n _)=>K (.v (.int .i64 n))
   | .sub _ _ _ lo hi=>((hi -lo:Nat):Int)<=9223372036854775807->K (.v (.int .i64 (hi -lo:Nat)))
   | _=>False
 | .cap x=>match ev j x with
   | .v (.slice none 0 0)=>K (.v (.int .i64 0))
   | _=>False
 | .sbytes x=>match ev j x with
   | .v (.string s)=>K (.list 1 (s.data.toList.map λc=> .v (.int .u8 c.toNat)))
   | _=>False
 | .srunes x=>match ev j x with
   | .v (.string s)=>s.size<=1000000000/\K (.list 1 ((Conv.runesFrom s s.size 0 #[]).toList.map D.v))
   | _=>False
 | .bstr x=>match ev j x with
   | .own id x=>match H id with
     |some (.row r _ n es)=>r=x/\n=1/\qlS es=true/\K (.v (.string (qn5 es)))
     | _=>False
   | .v (.slice none 0 0)=>K (.v (.string ⟨#[]⟩))
   | _=>False
 | .rstr x=>match ev j x with
   | .v (.int _ n)=>K (.v (.string (Utf8.encode n)))
   | _=>False
 | .mkif t x=>match ev j x with
   | .agg cs=>match qtz cs with
     |some xs=>K (.v (.iface t (.agg xs.toArray)))
     |none=>False
   | _=>False
 | .slen x=>match ev j x with
   | .v (.string s)=>(s.size:Int)<=9223372036854775807->K (.v (.int .i64 s.size))
   | _=>False
 | .m o xs=>Bb o (xs.map (ev j)) H K
 | .mm mx [x,y]=>match ev j x,ev j y with
   | .v (.int k a), .v (.int u b)=>k=u/\K (.v (.int k (if mx then max a b else min a b)))
   | _,_=>False
 | .mm mx [x,y,z]=>match ev j x,ev j y,ev j z with
   | .v (.int k a), .v (.int u b), .v (.int w c)=>k=u/\k=w/\K (.v (.int k (if mx then max (max a b) c else min (min a b) c)))
   | _,_,_=>False
 | _=>False
def lJ(n:Nat)(d:D)(H:ab)(K:List D->Prop):Prop:=
 match d with
 | .list a es=>a=n/\K es
 | .own id x=>match H id with
   |some (.row b _ a es)=>b=x/\a=n/\K es
   | _=>False
 | .v (.slice none 0 0)=>K []
 | .sub id x a lo hi=>match H id with
   |some (.row b _ c es)=>b=x/\a=n/\c=n/\K ((es.take hi).drop lo)
   | _=>False
 | _=>False
def FH(s:ByteArray):List D:=s.data.toList.map λb=> .v (.int .u8 b.toNat)
def ti(n:Nat)(d:D)(H:ab)(K:List D->Prop):Prop:=
 match d with
 | .v (.string s)=>n=1/\K (FH s)
 |d=>lJ n d H K
def bc(c:COp)(dst:Option Nat)(a:Sg)(H:ab)(K:D->ab->Prop):Prop:=
 match c with
 | .alloc _ z=>match dst with
   |some t=>∀b,K (.bptr t b 0) (ak H t (some (.box b (z.map qd))))
   |none=>False
 | .box _ false x=>match dst with
   |some t=>(ev a x).kn=true/\∀b,K (.bptr t b 0) (ak H t (some (.box b (ev a x).cells)))
   |none=>False
 | .tbx el x=>match dst with
   |some t=>(ev a x).kn=true/\∀b,K (.bptr t b 0) (ak H t (some (.tbox el b (ev a x).cells)))
   |none=>False
 | .nslice el n=>match dst with
   |some t=>∀x,K (.own t x) (ak H t (some (.row x el n [])))
   |none=>False
 | .mslice el n q=>match dst with
   |some t=>jr n (q.map (ev a))/\∀x,K (.own t x) (ak H t (some (.row x el n (q.map (ev a)))))
   |none=>False
 | .mkslice el n bytes agg z l c=>match dst with
   | some t=>match lF (ev a l),lF (ev a c)with
     |some (_,l),some (_,c)=>0<=l/\l<=c/\bytes*c<=140737488355328/\c<=140737488355328/\∀x,K (.own t x) (ak H t (some (.row x el n (List.replicate l.toNat (if agg then .agg (z.map qd)else qd (z.headD (.bool false)))))))
     | _,_=>False
   |none=>False
 | .store _ sz x y=>(ev a y).kn=true/\(ev a y).cells.length=sz/\match ev a x with
   | .bptr id b off=>match H id with
     |some (.box b' cells)=>b'=b/\off+sz<=cells.length/\K .undef (ak H id (some (.box b' (setAt cells off (ev a y).cells))))
     | _=>False
   | .eptr id x n i off=>match H id with
     | some (.row h el j es)=>h=x/\j=n/\0<n/\off+sz<=n/\i<es.length/\∀d,es[i]? =some d->
        K .undef (ak H id (some (.row h el j (es.set i (if off=0/\sz=n then ev a y else .agg (setAt d.cells off (ev a y).cells))))))
     | _=>False
   | _=>False
 | .srange x=>match dst,ev a x with
   |some t, .v (.string s)=>∀b,K (.bptr t b 0) (ak H t (some (.iter b s 0)))
   | _,_=>False
 | .snext x=>match ev a x with
   | .bptr id b off=>off=0/\match H id with
     |some (.iter b' s pos)=>b'=b/\(pos<s.size->K (.tup [.v (.bool true), .v (.int .i64 pos), .v (.int .i32 (Utf8.decode s pos).1)]) (ak H id (some (.iter b' s (pos+ (Utf8.decode s pos).2)))))/\(¬pos<s.size->K (.tup [.v (.bool false)]) H)
     | _=>False
   | _=>False
 | .append _ el n bytes x y=>ti n (ev a y) H λes2=>match ev a x with
   | .own id x=>match H id with
     |some (.row h p j es)=>h=x/\p=el/\j=n/\(es.length+es2.length) *bytes<=140737488355328/\es.length+es2.length<=140737488355328/\∀v,K (.own id v) (ak H id (some (.row v el n (es++es2))))
     | _=>False
   | .v (.slice none 0 0)=>match dst with
     |some t=>es2.length*bytes<=140737488355328/\es2.length<=140737488355328/\∀v,K (.own t v) (ak H t (some (.row v el n es2)))
     |none=>False
   | .sub id x j lo hi=>match H id with
     |some (.row h p k es)=>h=x/\p=el/\j=n/\k=n/\lo=0/\(hi+es2.length) *bytes<=140737488355328/\hi+es2.length<=140737488355328/\∀v,K (.own id v) (ak H id (some (.row v el n (es.take hi++es2))))
     | _=>False
   | _=>False
 | .appmk el n bytes agg z x c=>match ev a x with
   | .v (.slice none 0 0)=>match dst,lF (ev a c)with
     |some t,some (_,c)=>0<=c/\c*bytes<=140737488355328/\c<=140737488355328/\∀v,K (.own t v) (ak H t (some (.row v el n (List.replicate c.toNat (Ug agg z)))))
     | _,_=>False
   | _=>False
 | .clear n agg z x=>match ev a x with
   | .own id x=>match H id with
     |some (.row h el j es)=>h=x/\j=n/\K (.tup []) (ak H id (some (.row h el j (List.replicate es.length (Ug agg z)))))
     | _=>False
   | .sub id x j lo hi=>match H id with
     |some (.row h el k es)=>h=x/\j=n/\k=n/\K (.tup []) (ak H id (some (.row h el k (es.take lo++List.replicate (hi -lo) (Ug agg z) ++es.drop hi))))
     | _=>False
   | .v (.slice none 0 0)=>K (.tup []) H
   | _=>False
 | .copy n x y=>lJ n (ev a y) H λsrc=>match ev a x with
   | .own id x=>match H id with
     |some (.row h el j es)=>h=x/\j=n/\K (.v (.int .i64 (min src.length es.length:Nat))) (ak H id (some (.row h el j (src.take es.length++es.drop src.length))))
     | _=>False
   | .sub id x j lo hi=>match H id with
     |some (.row h el k es)=>h=x/\j=n/\k=n/\K (.v (.int .i64 (min src.length (hi -lo):Nat))) (ak H id (some (.row h el k (es.take lo++src.take (hi -lo) ++es.drop (lo+min src.length (hi -lo))))))
     | _=>False
   | _=>False
 | .m o xs=>nH o (xs.map (ev a)) dst H K
 |c=>aj c a H λd=>K d H
end
section
def COp.isCall:COp->Bool
 | .call _ _| .callv _ _| .callb _ _ _=>true
 | _=>false
def COp.isRead:COp->Bool
 | .call _ _| .callv _ _| .callb _ _ _| .alloc _ _| .box _ false _| .tbx _ _| .nslice _ _| .mslice .. | .mkslice .. | .store .. | .append .. | .appmk .. | .clear .. | .copy .. | .srange .. | .snext .. =>false
 | .m o _=>o.isRead
 | _=>true
@[simp] theorem XP(b:Option Nat)(f:Nat)(args:List Operand):(Z7 b f args).isCall=true:=by cases b<;>rfl
@[simp] theorem XO(b:Option Nat)(f:Nat)(args:List Operand):(Z7 b f args).isRead=false:=by cases b<;>rfl
end
end Go.Gv
