/- I7 -/
import Derived.RangeFuncNested
import Derived.RangeFuncBound
import Derived.RangeFuncCalls
import Derived.RangeFuncLeaves
import Derived.Shelf.Abstract
import Derived.Shelf.RegionOpen
import Derived.OwnWalkIn
import Derived.TacticsInMore
import Derived.LoopNIn
import Derived.LoopIn
import Derived.OrdersIn
import Derived.TacticsIn
import Derived.Test.YtfpmgnnippjblaaGreatDoorGc19
set_option linter.all false
set_option maxRecDepth 100000
set_option maxHeartbeats 0
namespace Go.Gv
open Go.RowKit Go.Proofs
variable {F:Fence}{n:Nat}{P:Program}
structure GrL (B:Nat) (W W':World):Prop where
 os:W'.os=W.os
 tape:W'.tape=W.tape
 output:W'.output=W.output
 size:W.heap.size<=W'.heap.size
 low:∀j,j<B->W'.heap[j]? =W.heap[j]?
 drawn:W.drawn<=W'.drawn
def GrL.refl(B:Nat)(W:World):GrL B W W:=⟨rfl,rfl,rfl,qGb _,λ_ _=>rfl,qGb _⟩
def GrL.trans{B:Nat}{X Y Z:World}(h:GrL B X Y)(k:GrL B Y Z):GrL B X Z:=⟨k.os.trans h.os,k.tape.trans h.tape,k.output.trans h.output,qGA h.size k.size,λj a=>(k.low j a).trans (h.low j a),qGA h.drawn k.drawn⟩
def GrL.mono{A B:Nat}{X Y:World}(h:GrL B X Y)(a:A<=B):GrL A X Y:=⟨h.os,h.tape,h.output,h.size,λj b=>h.low j (qGl b a),h.drawn⟩
def GrL.alloc{B:Nat}(W:World)(a:B<=W.heap.size)(o:Obj):GrL B W (W.alloc o):=⟨rfl,rfl,rfl,by simp,λj b=>Below.heap_alloc W o j (qGl b a),qGb _⟩
def GrL.put{B:Nat}(W:World){l:Nat}(a:B<=l)(o:Obj):GrL B W (W.putObj l o):=⟨rfl,rfl,rfl,by simp,λj b=>World.putObj_heap_other (by omega),qGb _⟩
structure GrR (B C:Nat) (W W':World):Prop where
 os:W'.os=W.os
 tape:W'.tape=W.tape
 output:W'.output=W.output
 size:W.heap.size<=W'.heap.size
 at_:B<=W.heap.size
 low:∀j,j<W.heap.size->(j<B\/C<=j)->W'.heap[j]? =W.heap[j]?
 drawn:W.drawn<=W'.drawn
def GrR.toL{B C:Nat}{X Y:World}(h:GrR B C X Y):GrL B X Y:=⟨h.os,h.tape,h.output,h.size,λj a=>h.low j (qGl a h.at_) (.inl a),h.drawn⟩
def GrR.mono{A B C D:Nat}{X Y:World}(h:GrR B C X Y)(a:A<=B)(b:C<=D):GrR A D X Y:=⟨h.os,h.tape,h.output,h.size,qGA a h.at_,λj c hs=>h.low j c (hs.imp (λh=>qGl h a) λh=>qGA b h),h.drawn⟩
def GrR.trans{B C:Nat}{X Y Z:World}(h:GrR B C X Y)(k:GrR B C Y Z):GrR B C X Z:=⟨k.os.trans h.os,k.tape.trans h.tape,k.output.trans h.output,qGA h.size k.size,h.at_,λj a hs=>(k.low j (qGl a h.size) hs).trans (h.low j a hs),qGA h.drawn k.drawn⟩
def GrR.get{B C:Nat}{X Y:World}(h:GrR B C X Y){j:Nat}{o:Obj}(a:X.heap[j]? =some o)(hs:j<B\/C<=j):Y.heap[j]? =some o:=(h.low j (qGg.1 a).1 hs).trans a
def GrR.alloc{B C:Nat}(W:World)(a:B<=W.heap.size)(o:Obj):GrR B C W (W.alloc o):=⟨rfl,rfl,rfl,by simp,a,λj b _=>Below.heap_alloc W o j b,qGb _⟩
def GrR.put{B C:Nat}(W:World){l:Nat}(a:B<=l)(b:l<C)(h:B<=W.heap.size)(o:Obj):GrR B C W (W.putObj l o):=⟨rfl,rfl,rfl,by simp,h,λj _ hs=>World.putObj_heap_other (by omega),qGb _⟩
def GrR.set{B C b k:Nat}(W:World)(a:B<=b)(c:b<C)(h:B<=W.heap.size)(v:Value):GrR B C W (W.setCell ⟨b,k,none⟩ v):=⟨rfl,rfl,rfl,by simp,h,λj _ hs=>Below.heap_setCell W ⟨b,k,none⟩ v j (by grind),qGb _⟩
structure KBt (B:Nat) (S:Nat->Prop) (W W':World):Prop where
 size:W.heap.size<=W'.heap.size
 block:∀k,k<W.heap.size->(S k\/B<=k)->W'.heap[k]? =W.heap[k]?
def KBt.refl(B:Nat)(S:Nat->Prop)(W:World):KBt B S W W:=⟨qGb _,λ_ _ _=>rfl⟩
def KBt.trans{B:Nat}{S:Nat->Prop}{X Y Z:World}(h:KBt B S X Y)(k:KBt B S Y Z):KBt B S X Z:=⟨qGA h.size k.size,λi hi hs=>(k.block i (qGl hi h.size) hs).trans (h.block i hi hs)⟩
def KBt.mono{A B:Nat}{S:Nat->Prop}{X Y:World}(h:KBt A S X Y)(a:A<=B):KBt B S X Y:=⟨h.size,λi hi hs=>h.block i hi (hs.imp id λh=>qGA a h)⟩
def KBt.alloc(B:Nat)(S:Nat->Prop)(W:World)(o:Obj):KBt B S W (W.alloc o):=⟨by simp,λk hk _=>Below.heap_alloc W o k hk⟩
def qwY(B C:Nat)(I:Nat->World->Prop):Prop:=∀k W W',I k W->GrR B C W W'->I k W'
def qq3(S:Nat->Prop)(B:Nat)(I a:Nat->World->Prop)(k:Nat)(W:World):Exit->Act->World->Prop
 | .normal,_,W'=>KeepsFrom B W W'/\KBt B S W W'/\I (k+1) W'
 | .ret,_,W'=>KeepsFrom B W W'/\a k W'
 | _,_,_=>False
def qwV(F:Fence)(n:Nat)(P:Program)(gf:Nat)(lb:Array Value)(len:Nat)(a:Nat->Array Value)(S:Nat->Prop)(m:Nat)(w:World):Prop:=
 ∀ (l:Nat) (J c:Nat->World->Prop) (W:World),KBt w.heap.size S w W->w.heap.size<=W.heap.size->(∀k A C,GrR W.heap.size (W.heap.size+m) A C->J k A->J k C)->
  (∀k b,J k b->W.heap.size+m<=b.heap.size->k<len->YieldAt F (n -1) P l (a k) b λe W'=>
    (e= .returned (.bool true)/\J (k+1) W'/\KBt W.heap.size S b W')\/(e= .returned (.bool false)/\c k W'))->
  J 0 W->CallsIn F n P gf (#[.func (.yield l) #[] #[]] ++lb) W λe W'=>(∃v,e= .returned v)/\(J len W'\/ ∃k,k<len/\c k W')
theorem Vl{g:Operand}{ps:Array Tmp}{assign body:Code}{Q:Exit->Act->World->Prop}{a:Act}{w:World}
 (hro:F.round=none) (h1:1<=n) {gf:Nat} {lb:Array Value} (U:a.eval g= .func (.func gf) #[] lb) (hFg:F.fn gf) (eg:∀args w,(callFunc gf args).run P w= .ok (.enter gf args) w)
 {len:Nat} {d:Nat->Array Value} {S:Nat->Prop} {m:Nat} (Y:qwV F (n -1) P gf lb len d S m w) (hS:∀k,S k->k<w.heap.size) (hps:∀x,(d x).size=ps.size)
 (I Ix:Nat->World->Prop) (hI:qwY w.heap.size (w.heap.size+2+m) I) (Z:qwY w.heap.size (w.heap.size+2+m) Ix) (h0:I 0 w)
 (Ax:Nat->Act->World->Prop) (hAx:∀y,∀k W o,w.heap.size+1<W.heap.size->Ax k y W->Ax k y (W.putObj (w.heap.size+1) o))
 (q:∀ (l k:Nat) (W:World),w.heap.size+2+m<=W.heap.size->w.heap.size<=l->I k W->k<len->
   assign.wpIn (F.inRound l) (n -1 -1) P (Exit.then (λy W'=>KeepsFrom w.heap.size W W'/\KBt w.heap.size S W W'/\I k W'/\Ax k y W') (λ_ _ _=>False)) { tmps:=(ps.zip (d k)).foldl (λt (p,v)=>t.setIfInBounds p v) a.tmps,defers:=[] } W)
 (J:∀(l k:Nat) (y:Act) (W:World),w.heap.size+2+m<=W.heap.size->w.heap.size<=l->I k W->Ax k y W->k<len->body.wpIn (F.inRound l) (n -1 -1) P (qq3 S w.heap.size I Ix k W) y W)
 (K:∀(D:Nat) (W:World),w.heap.size<=D->I len W->W.heap[D]? =some (.deferred (some []))->Q .normal { a with defers:={ target:= .collected D,args:= #[] } ::a.defers } W)
 (L:∀(D k:Nat) (W:World),w.heap.size<=D->k<len->Ix k W->W.heap[D]? =some (.deferred (some []))->Code.ret.wpIn F n P Q { a with defers:={ target:= .collected D,args:= #[] } ::a.defers } W):
 (Code.rangeFunc g ps assign body).wpIn F n P Q a w:=by
 refine wpIn_rangeFunc ?_;intro fn hfn;rw[hro];obtain⟨rec,b⟩:∃rec:LoopState->Option Code->Loop,rec=λst pe=>{ state:=st,pending:=pe,fn,tmps:=a.tmps,params:=ps,assign,body,defers:=w.heap.size } :=⟨_,rfl⟩
 obtain⟨r,M⟩:∃r,(w.alloc (.deferred (some []))).alloc (.loop (rec .ready none))=r:=⟨_,rfl⟩
 have hL1:r.heap[w.heap.size+1]? =some (.loop (rec .ready none)):=by
  grind [World.alloc_heap_new,World.size_alloc]
 have hK1:r.heap[w.heap.size]? =some (.deferred (some [])):=by
  grind [Below.heap_alloc,World.alloc_heap_new]
 have hI1:I 0 r:=by rw[<-M];exact hI 0 _ _ (hI 0 _ _ h0 (GrR.alloc w (qGb _) _)) (GrR.alloc _ (by simp) _)
 have hs1:r.heap.size=w.heap.size+2:=by rw[<-M];simp
 have hb1:KBt w.heap.size S w r:=by
  rw[<-M];exact(KBt.alloc _ _ _ _).trans (KBt.alloc _ _ _ _)
 refine⟨w.heap.size+1, [{ target:= .collected w.heap.size,args:= #[] }],r, { target:= .fn (.func gf) lb,args:= #[.func (.yield (w.heap.size+1)) #[] #[]] },r,gf,
  #[.func (.yield (w.heap.size+1)) #[] #[]] ++lb,r,?_,?_,?_,?_,λ_=>h1,?_⟩
 grind [run_enterLoop_outer]
 ·simp only[resolve,U];simp[go_sem]
 grind [Target.leads];grind [invoke]
 ·refine(Y (w.heap.size+1)
   (λk W=>I k W/\W.heap[w.heap.size+1]? =some (.loop (rec .ready none))/\W.heap[w.heap.size]? =some (.deferred (some [])))
   (λk W=>Ix k W/\W.heap[w.heap.size+1]? =some (.loop (rec .done (some .ret)))/\W.heap[w.heap.size]? =some (.deferred (some [])))
   r hb1 (by omega)
   (λk A C U hs=>by
     rw[hs1]at U;exact⟨hI k A C hs.1 (U.mono (by omega) (by omega)),U.get hs.2.1 (.inl (by omega)),U.get hs.2.2 (.inl (by omega))⟩)
   ?_ ⟨hI1,hL1,hK1⟩).mono ?_
  ·rintro k W ⟨hi,hl,hk⟩ hsz hlen;rw[hs1]at hsz ⊢;have hy:=run_yield (P:=P) (args:=d k) hl (by rw[b];exact hps k);rw[b]at hy;refine⟨fn,_,assign,body,hy,roundIn_of_wpIn hfn (wpIn_mono (q _ k W (by omega) (by omega) hi hlen) ?_)⟩;clear hy;rintro e y Wa he;cases e with
   | normal=>
     obtain⟨s,hba,hia,hax⟩:=he;have hla:=s.same _ _ (by omega) hl rfl;have hka:=s.same _ _ (qGb _) hk rfl;have hlt:w.heap.size+1<Wa.heap.size:=(qGg.1 hla).1;refine⟨_,run_beginRound hla (by rw[b]),?_⟩;have hl2:(Wa.putObj (w.heap.size+1) (.loop { rec .ready none with state:= .busy })).heap[w.heap.size+1]? =some (.loop { rec .ready none with state:= .busy }):=World.putObj_heap_same hlt;have hk2:(Wa.putObj (w.heap.size+1) (.loop { rec .ready none with state:= .busy })).heap[w.heap.size]? =some (.deferred (some [])):=(World.putObj_heap_other (by omega)).trans hka;have E:∀(X:World) (o:Obj),KBt (w.heap.size+2) S X (X.putObj (w.heap.size+1) o):=λX o=>⟨by simp,λj hj hs=>World.putObj_heap_other (by rcases hs with h|h;(have:=hS j h;omega);omega)⟩
     refine wpIn_mono (J _ k y _ (by simp;have:=s.size;omega) (by omega) (hI k _ _ hia (GrR.put _ (by omega) (by omega) (by omega) _)) (hAx y k _ _ hlt hax) hlen) ?_;rintro e a3 W3 hp;cases e with
     | normal=>
       obtain⟨u,hb3,N⟩:=hp;have c:=u.same _ _ (by omega) hl2 rfl;have O:=u.same _ _ (qGb _) hk2 rfl;have hr:=run_endRound (P:=P) none c;refine⟨_,_,hr, .inl ⟨rfl,⟨hI _ _ _ N (GrR.put _ (by omega) (by omega) (by have:=(qGg.1 c).1;omega) _),?_,(World.putObj_heap_other (by omega)).trans O⟩,(hba.mono (by omega)).trans ((E _ _).trans ((hb3.mono (by omega)).trans (E _ _)))⟩⟩;rw[World.putObj_heap_same (qGg.1 c).1,b];rfl
     | ret=>
       obtain⟨u,N⟩:=hp;have c:=u.same _ _ (by omega) hl2 rfl;have O:=u.same _ _ (qGb _) hk2 rfl;have hr:=run_endRound (P:=P) (some .ret) c;refine⟨_,_,hr, .inr ⟨rfl,Z _ _ _ N (GrR.put _ (by omega) (by omega) (by have:=(qGg.1 c).1;omega) _),?_,(World.putObj_heap_other (by omega)).trans O⟩⟩;rw[World.putObj_heap_same (qGg.1 c).1,b];rfl
     |exit id=>exact hp.elim
     |goto t=>exact hp.elim
     |panic ch=>exact hp.elim
     |outgrown=>exact hp.elim
   |ret=>exact he.elim
   |exit id=>exact he.elim
   |goto t=>exact he.elim
   |panic ch=>exact he.elim
   |outgrown=>exact he.elim
  ·rintro e W2 ⟨⟨v,rfl⟩,(⟨hi,hl,hk⟩|⟨k,hk0,hi,hl,hk⟩)⟩
   ·exact⟨none,_,by have:=run_endLoop (P:=P) hl (by rw[b];simp);rw[b]at this;exact this,K _ _ (qGb _) (hI _ _ _ hi (GrR.put _ (by omega) (by omega) (by have:=(qGg.1 hl).1;omega) _)) ((World.putObj_heap_other (by omega)).trans hk)⟩
   ·exact⟨some .ret,_,by have:=run_endLoop (P:=P) hl (by rw[b];simp);rw[b]at this;exact this,L _ k _ (qGb _) hk0 (Z _ _ _ hi (GrR.put _ (by omega) (by omega) (by have:=(qGg.1 hl).1;omega) _)) ((World.putObj_heap_other (by omega)).trans hk)⟩
end Go.Gv
namespace Go.Proofs
open Go.RowKit Go.Shelf Go.Gv
attribute [local go_sem] Oper.semAt_some
set_option maxRecDepth 100000 in
set_option maxHeartbeats 2000000 in
def Tryz.units_in(F:Fence)(n:Nat)(h95:F.fn 296)(hro:F.round=none)(s:ByteArray)(w:World):
 CallsIn F n Tryz.prog 296 #[.string s] w λe w'=>
  e= .returned (.func (.func 320) #[] #[.pointer (some ⟨w.heap.size,0,none⟩)])/\w'=w.alloc (.cells #[.string s] av):=by
 refine callsIn_of_wp Tryz.func296 rfl h95 ?_ hro;simp only[Tryz.ntmps296,List.size_toArray,List.length_cons,List.length_nil,Nat.reduceAdd,Nat.reduceSub,Array.replicate_succ,Array.replicate_zero,List.push_toArray,List.append_toArray,List.nil_append,List.cons_append]
 gi_wp2
 all_goals go_ret
 exact⟨rfl,rfl⟩
def Vi{P:Program}(W:World)(Bi:Nat)(s:ByteArray)(pos:Nat)(ty:TypeId)(hB:W.heap[Bi]? =some (.stringIter s pos))(h:pos<s.size)(ha:(s[pos]'h).toNat< 128):
 (Instr.next (.pointer (some ⟨Bi,0,none⟩)) true ty).run P W= .ok (.tuple #[.bool true, .int .i64 pos, .int .i32 (s[pos]'h).toNat]) (W.putObj Bi (.stringIter s (pos+1))):=by
 simp only[Instr.next,getObj,setObj,Sem.run_bind,Sem.run,hB,Result.andThen,h,if_true,decode_ascii s pos h ha];simp[goInt,Sem.run,hB,World.putObj]
def Vj{P:Program}(W:World)(Bi:Nat)(s:ByteArray)(pos:Nat)(ty:TypeId)(hB:W.heap[Bi]? =some (.stringIter s pos))(h:¬pos<s.size):
 (Instr.next (.pointer (some ⟨Bi,0,none⟩)) true ty).run P W= .ok (.tuple #[.bool false]) W:=by
 simp[Instr.next,getObj,Sem.run,hB,h]
def rP{W:World}{b k:Nat}{xs:Array Value}{t:TypeId}{v:Value}(h:W.heap[b]? =some (.cells xs t (0,0))):(W.setCell ⟨b,k,none⟩ v).heap[b]? =some (.cells (xs.setIfInBounds k v) t (0,0)):=by
 simp[World.setCell,Array.getElem?_modify,h]
def GrL.setCell{B b k:Nat}{W:World}(hb:B<=b)(v:Value):GrL B W (W.setCell ⟨b,k,none⟩ v):=⟨rfl,rfl,rfl,by simp[World.setCell],λj hj=>Below.heap_setCell W ⟨b,k,none⟩ v j (by show j≠b;omega),Nat.le_refl _⟩
def sD{W:World}{b k:Nat}{xs:Array Value}{t:TypeId}(h:W.heap[b]? =some (.cells xs t (0,0))):W.frozen? ⟨b,k,none⟩=false:=by simp[World.frozen?,h]
def bW{W:World}{b k:Nat}{xs:Array Value}{t:TypeId}{v:Value}(h:W.heap[b]? =some (.cells xs t (0,0)))(hk:xs[k]? =some v):W.cell? ⟨b,k,none⟩=some v:=by simp[World.cell?,h,hk]
theorem qD7{B C b i:Nat}{W:World}{x0 x1 x2:Value}{t:TypeId}{o:Obj}(hb:W.heap[b]? =some (.cells #[x0,x1,x2] t (0,0)))(hi:W.heap[i]? =some o)(hne:i≠b)(hB:B<=b)(hC:b<C)(y0 y1 y2:Value):
 (((W.setCell ⟨b,0,none⟩ y0).setCell ⟨b,1,none⟩ y1).setCell ⟨b,2,none⟩ y2).heap[b]? =some (.cells #[y0,y1,y2] t (0,0))/\(((W.setCell ⟨b,0,none⟩ y0).setCell ⟨b,1,none⟩ y1).setCell ⟨b,2,none⟩ y2).heap[i]? =some o/\GrR B C W (((W.setCell ⟨b,0,none⟩ y0).setCell ⟨b,1,none⟩ y1).setCell ⟨b,2,none⟩ y2):=by
 have hlt:=(Array.getElem?_eq_some_iff.1 hb).1;refine⟨rP (rP (rP hb)),?_,((GrR.set _ hB hC (by omega) y0).trans (GrR.set _ hB hC (by simp[World.setCell];omega) y1)).trans (GrR.set _ hB hC (by simp[World.setCell];omega) y2)⟩;rw[Below.heap_setCell _ _ _ _ hne,Below.heap_setCell _ _ _ _ hne,Below.heap_setCell _ _ _ _ hne];exact hi
def qfZ(s:ByteArray)(k:Nat):Array Value:= #[.agg #[.int .i32 (((s.data.toList[k]?).map λc=>(c.toNat:Int)).getD 0), .int .i64 (k:Int), .int .i64 1]]
set_option maxRecDepth 100000 in
set_option maxHeartbeats 4000000 in
theorem Tryz.units1_it(F:Fence)(n:Nat)(h128:F.fn 320)(hro:F.round=none)(hn:1<=n)(s:ByteArray)(hs:s.size<=100000)(ha:∀(k:Nat) (h:k<s.size),(s[k]'h).toNat< 128)(S:Nat->Prop)(Bs:Nat)(hBs:S Bs)(w:World)(hS:∀k,S k->k<w.heap.size)(hB:w.cell? ⟨Bs,0,none⟩=some (.string s)):
 qwV F n Tryz.prog 320 #[.pointer (some ⟨Bs,0,none⟩)] s.size (qfZ s) S 2 w:=by
 intro l J Jx W hW hsz hJ hY h0;have hB':W.cell? ⟨Bs,0,none⟩=some (.string s):=by
  rw[World.cell?_of_block (hW.block Bs (hS Bs hBs) (.inl hBs))];exact hB
 show CallsIn F n Tryz.prog 320 #[.func (.yield l) #[] #[], .pointer (some ⟨Bs,0,none⟩)] W _;refine callsIn_of_wp Tryz.func320 rfl h128 ?_ hro;simp only[Tryz.ntmps320,List.size_toArray,List.length_cons,List.length_nil,Nat.reduceAdd,Nat.reduceSub,Array.replicate_succ,Array.replicate_zero,List.push_toArray,List.append_toArray,List.nil_append,List.cons_append];have hBW:Bs<W.heap.size:=Nat.lt_of_lt_of_le (hS Bs hBs) hsz;have hBx:∀o,(W.alloc o).cell? ⟨Bs,0,none⟩=some (.string s):=λo=>by
  rw[World.cell?_of_block (Below.heap_alloc W o Bs hBW)];exact hB'
 gi_wp2
 gi_loopw [] (λwr=>∃p:Nat,p<=s.size/\wr.heap[W.heap.size+1]? =some (.stringIter s p)/\(∃r sz:Int,(0<p->r=((s.data.toList[p -1]?).map λc=>(c.toNat:Int)).getD 0)/\wr.heap[W.heap.size]? =some (.cells #[.int .i32 r, .int .i64 ((p:Int) -1), .int .i64 sz] 289 (0,0)))/\J (p -1) wr/\W.heap.size+2<=wr.heap.size/\wr.heap[Bs]? =W.heap[Bs]?) (λwr=>s.size -wr.iterPos (W.heap.size+1))
 case atStart=>
  have hz:(W.alloc (.cells #[.int .i32 0, .int .i64 (-1), .int .i64 0] 289)).heap.size=W.heap.size+1:=by simp
  refine⟨0,Nat.zero_le _,?_,⟨0,0,λh=>by omega,?_⟩,?_,?_,?_⟩
  ·rw[<-hz];exact World.iter_heap _ _ _
  ·exact(Below.heap_alloc _ _ _ (by simp)).trans (World.alloc_heap_new W _)
  ·exact hJ 0 _ _ ((GrR.alloc W (Nat.le_refl _) _).trans (GrR.alloc _ (by simp) _)) h0
  ·simp[World.iter]
  ·exact(Below.heap_alloc _ _ _ (by simp;omega)).trans (Below.heap_alloc W _ Bs hBW)
 case round=>
  obtain⟨p,hp,hBi,⟨r,sz,hr,hBu⟩,hJp,hsz2,hbs⟩:=hrel;by_cases hlt:p<s.size
  ·have hnx:∀ty,(Instr.next (.pointer (some ⟨W.heap.size+1,0,none⟩)) true ty).run Tryz.prog wr=_:=λty=>Vi wr (W.heap.size+1) s p ty hBi hlt (ha p hlt)
   obtain⟨W2,hW2⟩:∃W2,W2=wr.putObj (W.heap.size+1) (.stringIter s (p+1)):=⟨_,rfl⟩
   rw[<-hW2]at hnx;have hBu2:W2.heap[W.heap.size]? =some (.cells #[.int .i32 r, .int .i64 ((p:Int) -1), .int .i64 sz] 289 (0,0)):=by
    rw[hW2];exact(World.putObj_heap_other (by omega)).trans hBu
   have hBi2:W2.heap[W.heap.size+1]? =some (.stringIter s (p+1)):=by
    rw[hW2];exact World.putObj_heap_same (by omega)
   have hJ2:J (p -1) W2:=by rw[hW2];exact hJ _ _ _ (GrR.put _ (by omega) (by omega) (by omega) _) hJp
   have hbs2:W2.heap[Bs]? =W.heap[Bs]?:=by rw[hW2];exact(World.putObj_heap_other (by omega)).trans hbs
   have hsz3:W2.heap.size=wr.heap.size:=by rw[hW2];simp
   have c0:W2.cell? ⟨W.heap.size,0,none⟩=some (.int .i32 r):=by simp[World.cell?,hBu2]
   have c1:W2.cell? ⟨W.heap.size,1,none⟩=some (.int .i64 ((p:Int) -1)):=by simp[World.cell?,hBu2]
   have c2:W2.cell? ⟨W.heap.size,2,none⟩=some (.int .i64 sz):=by simp[World.cell?,hBu2]
   have f2:W2.frozen? ⟨W.heap.size,2,none⟩=false:=by simp[World.frozen?,hBu2]
   obtain⟨ch,hch⟩:∃ch,ch=(s[p]'hlt).toNat:=⟨_,rfl⟩
   rw[<-hch]at hnx;have hip:wr.iterPos (W.heap.size+1)=p:=by simp[World.iterPos,hBi]
   have hip2:W2.iterPos (W.heap.size+1)=p+1:=by simp[World.iterPos,hBi2]
   clear hW2;have hpi:(-9223372036854775808:Int)<=(p:Int) - ((p:Int) -1)/\(p:Int) - ((p:Int) -1)<=9223372036854775807:=by omega
   have hset:∀v,(W2.setCell ⟨W.heap.size,2,none⟩ v).heap[W.heap.size]? =some (.cells #[.int .i32 r, .int .i64 ((p:Int) -1),v] 289 (0,0)):=λv=>rP hBu2
   have hfr:∀v k,(W2.setCell ⟨W.heap.size,2,none⟩ v).frozen? ⟨W.heap.size,k,none⟩=false:=λv k=>sD (hset v)
   by_cases hp0:p=0
   ·subst hp0
    gi_wp2
    refine⟨λ_ h=>(by cases h),?_⟩
    gi_wp2
    have h3:=hset (.int .i64 1);have h3i:(W2.setCell ⟨W.heap.size,2,none⟩ (.int .i64 1)).heap[W.heap.size+1]? =some (.stringIter s (0+1)):=(Below.heap_setCell _ _ _ _ (by simp)).trans hBi2;obtain⟨q1,q2,q3⟩:=qD7 (B:=W.heap.size) (C:=W.heap.size+2) h3 h3i (by omega) (Nat.le_refl _) (by omega) (.int .i32 ((s[0]'hlt).toNat:Int)) (.int .i64 0) (.int .i64 0);have q4:=(GrR.set (C:=W.heap.size+2) (k:=2) W2 (Nat.le_refl W.heap.size) (by omega) (by omega) (.int .i64 1)).trans q3;refine⟨⟨0+1,by omega,q2,⟨((s[0]'hlt).toNat:Int),0,λ_=>?_,q1⟩,hJ _ _ _ q4 hJ2,by have:=q4.size;omega,(q4.toL.low Bs hBW).trans hbs2⟩,?_⟩
    ·have e:s.data.toList[0]? =some (s[0]'hlt):=by
      rw[List.getElem?_eq_getElem (by rw[Array.length_toList];exact hlt),Array.getElem_toList];rfl
     rw[Nat.add_sub_cancel,e];rfl
    ·rw[show((((W2.setCell ⟨W.heap.size,2,none⟩ (.int .i64 1)).setCell ⟨W.heap.size,0,none⟩ (.int .i32 ((s[0]'hlt).toNat:Int))).setCell ⟨W.heap.size,1,none⟩ (.int .i64 0)).setCell ⟨W.heap.size,2,none⟩ (.int .i64 0)).iterPos (W.heap.size+1)=1 from by simp[World.iterPos,q2],hip];omega
   have hp1:0<p:=by omega
   have e1:(p:Int) - ((p:Int) -1)=1:=by omega
   have h3:=hset (.int .i64 ((p:Int) - ((p:Int) -1)));obtain⟨W3,hW3⟩:∃W3,W3=W2.setCell ⟨W.heap.size,2,none⟩ (.int .i64 ((p:Int) - ((p:Int) -1))):=⟨_,rfl⟩
   have g3:GrR W.heap.size (W.heap.size+2) W2 W3:=by rw[hW3];exact GrR.set _ (Nat.le_refl W.heap.size) (by omega) (by omega) _
   have hJ3:J (p -1) W3:=hJ _ _ _ g3 hJ2;have h3i:W3.heap[W.heap.size+1]? =some (.stringIter s (p+1)):=by rw[hW3];exact(Below.heap_setCell _ _ _ _ (by simp)).trans hBi2
   rw[<-hW3]at h3;have hsz4:W.heap.size+2<=W3.heap.size:=by have:=g3.size;omega
   obtain⟨fn,tmps,assign,body,hy,hR⟩:=hY (p -1) W3 hJ3 (by omega) (by omega);have hue:qfZ s (p -1)= #[.agg #[.int .i32 r, .int .i64 ((p:Int) -1), .int .i64 ((p:Int) - ((p:Int) -1))]]:=by
    unfold qfZ;rw[<-hr hp1,e1,show((p -1:Nat):Int)=(p:Int) -1 by omega]
   rw[hue]at hy;rw[hW3]at hy hR;clear hr e1 hue
   gi_wp2
   refine hR.mono ?_;clear hy;rintro e W4 (⟨rfl,hJ4,hk4⟩|⟨rfl,hJx4⟩)
   ·rw[<-hW3]at hk4;have h4:W4.heap[W.heap.size]? =some (.cells #[.int .i32 r, .int .i64 ((p:Int) -1), .int .i64 ((p:Int) - ((p:Int) -1))] 289 (0,0)):=(hk4.block _ (by omega) (.inr (Nat.le_refl _))).trans h3;have h4i:W4.heap[W.heap.size+1]? =some (.stringIter s (p+1)):=(hk4.block _ (by omega) (.inr (by omega))).trans h3i;have h4s:W4.heap[Bs]? =W.heap[Bs]?:=((hk4.block _ (by omega) (.inl hBs)).trans (g3.toL.low Bs hBW)).trans hbs2;have hf4:∀k,W4.frozen? ⟨W.heap.size,k,none⟩=false:=λk=>sD h4
    have k0:W4.cell? ⟨W.heap.size,0,none⟩=some (.int .i32 r):=bW h4 rfl;have k1:W4.cell? ⟨W.heap.size,1,none⟩=some (.int .i64 ((p:Int) -1)):=bW h4 rfl;have k2:W4.cell? ⟨W.heap.size,2,none⟩=some (.int .i64 ((p:Int) - ((p:Int) -1))):=bW h4 rfl;have h4z:W.heap.size+2<=W4.heap.size:=by have:=hk4.size;omega
    rw[show p -1+1=p by omega]at hJ4;clear hW3
    gi_wp2
    obtain⟨q1,q2,q3⟩:=qD7 (B:=W.heap.size) (C:=W.heap.size+2) h4 h4i (by omega) (Nat.le_refl _) (by omega) (.int .i32 ((s[p]'hlt).toNat:Int)) (.int .i64 p) (.int .i64 0)
    go_roundw
    case rel=>
     refine⟨p+1,by omega,q2,⟨((s[p]'hlt).toNat:Int),0,λ_=>?_,?_⟩,hJ _ _ _ q3 hJ4,by have:=q3.size;omega,(q3.toL.low Bs hBW).trans h4s⟩
     ·have e:s.data.toList[p]? =some (s[p]'hlt):=by
       rw[List.getElem?_eq_getElem (by rw[Array.length_toList];exact hlt),Array.getElem_toList];rfl
      rw[Nat.add_sub_cancel,e];rfl
     ·rw[show(((p+1:Nat):Int) -1)=(p:Int)by omega];exact q1
    case measure=>
     rw[hip];simp only[World.iterPos,q2];omega
   ·clear hW3
    gi_wp2
    refine bodyPost_ret (results_none rfl _ _ _) rfl ?_;exact⟨⟨_,rfl⟩, .inr ⟨p -1,by omega,hJx4⟩⟩
  ·have hnx:∀ty,(Instr.next (.pointer (some ⟨W.heap.size+1,0,none⟩)) true ty).run Tryz.prog wr=_:=λty=>Vj wr (W.heap.size+1) s p ty hBi hlt
   have hpe:p=s.size:=by omega
   subst hpe;have hcs:wr.cell? ⟨Bs,0,none⟩=some (.string s):=by rw[World.cell?_of_block hbs];exact hB'
   have c1:wr.cell? ⟨W.heap.size,1,none⟩=some (.int .i64 ((s.size:Int) -1)):=bW hBu rfl;have f2:wr.frozen? ⟨W.heap.size,2,none⟩=false:=sD hBu;have hset:∀v,(wr.setCell ⟨W.heap.size,2,none⟩ v).heap[W.heap.size]? =some (.cells #[.int .i32 r, .int .i64 ((s.size:Int) -1),v] 289 (0,0)):=λv=>rP hBu
   have hg:∀v,GrR W.heap.size (W.heap.size+2) wr (wr.setCell ⟨W.heap.size,2,none⟩ v):=λv=>GrR.set _ (Nat.le_refl _) (by omega) (by omega) v
   have c0:wr.cell? ⟨W.heap.size,0,none⟩=some (.int .i32 r):=bW hBu rfl;have c2:wr.cell? ⟨W.heap.size,2,none⟩=some (.int .i64 sz):=bW hBu rfl;have hsz': -9223372036854775808<=(s.size:Int) - ((s.size:Int) -1)/\(s.size:Int) - ((s.size:Int) -1)<=9223372036854775807:=by omega
   by_cases h00:s.size=0
   ·have hJ0:∀v,J s.size (wr.setCell ⟨W.heap.size,2,none⟩ v):=λv=>by
     have:=hJ _ _ _ (hg v) hJp;rwa [show s.size -1=s.size by omega]at this
    have i0:¬(0:Int)<=(s.size:Int) -1:=by omega
    clear hset hg hJp hr
    gi_wp2
    go_end0
    have hJ00:=hJ0 (.int .i64 1);rw[h00]at hJ00;exact⟨⟨_,rfl⟩,hJ00⟩
   have hJ3:J (s.size -1) (wr.setCell ⟨W.heap.size,2,none⟩ (.int .i64 ((s.size:Int) - ((s.size:Int) -1)))):=hJ _ _ _ (hg _) hJp;have hz3:=(hg (.int .i64 ((s.size:Int) - ((s.size:Int) -1)))).size;obtain⟨fn,tmps,assign,body,hy,hR⟩:=hY (s.size -1) _ hJ3 (by omega) (by omega);have hue:qfZ s (s.size -1)= #[.agg #[.int .i32 r, .int .i64 ((s.size:Int) -1), .int .i64 ((s.size:Int) - ((s.size:Int) -1))]]:=by
    unfold qfZ;rw[<-hr (by omega),show((s.size -1:Nat):Int)=(s.size:Int) -1 by omega,show(s.size:Int) - ((s.size:Int) -1)=1 by omega]
   rw[hue]at hy;clear hr hue
   gi_wp2
   refine hR.mono ?_;clear hy;have hl1:s.size -1<s.size:=by omega
   rintro e W4 (⟨rfl,hJ4,hk4⟩|⟨rfl,hJx4⟩)
   ·rw[show s.size -1+1=s.size by omega]at hJ4
    gi_wp2
    go_end0
    exact⟨⟨_,rfl⟩, .inl hJ4⟩
   ·gi_wp2
    go_end0
    exact⟨⟨_,rfl⟩, .inr ⟨_,hl1,hJx4⟩⟩
end Go.Proofs
namespace Go.Proofs
open Go.RowKit Go.Shelf Go.Gv
attribute [local go_sem] Oper.semAt_some
def Sj(s:ByteArray)(k:Nat):Int:=((s.data.toList[k]?).map λc=>(c.toNat:Int)).getD 0
set_option maxRecDepth 100000 in
set_option maxHeartbeats 2000000 in
def Tryz.unit_valid_x(F:Fence)(n:Nat)(h132:F.fn 297)(hro:F.round=none)(r a z:Int)(hr:0<=r)(hr2:r< 128)(w:World):
 CallsIn F n Tryz.prog 297 #[.agg #[.int .i32 r, .int .i64 a, .int .i64 z]] w λe w'=>
  e= .returned (.bool true)/\w'=w.alloc (.cells #[.int .i32 r, .int .i64 a, .int .i64 z] 289):=by
 refine callsIn_of_wp Tryz.func297 rfl h132 ?_ hro;simp only[Tryz.ntmps297,List.size_toArray,List.length_cons,List.length_nil,Nat.reduceAdd,Nat.reduceSub,Array.replicate_succ,Array.replicate_zero,List.push_toArray,List.append_toArray,List.nil_append,List.cons_append]
 gi_wp2
 go_ret
 exact⟨rfl,rfl⟩
def qoV{s:ByteArray}(ha:∀(k:Nat) (h:k<s.size),(s[k]'h).toNat< 128){k:Nat}(hk:k<s.size):0<=Sj s k/\Sj s k< 128:=by
 have e:s.data.toList[k]? =some (s[k]'hk):=by
  rw[List.getElem?_eq_getElem (by rw[Array.length_toList];exact hk),Array.getElem_toList];rfl
 have h:=ha k hk;unfold Sj;rw[e];show 0<=((s[k]'hk).toNat:Int)/\((s[k]'hk).toNat:Int)< 128;omega
def UQ(s:ByteArray)(k:Nat):qfZ s k= #[.agg #[.int .i32 (Sj s k), .int .i64 (k:Int), .int .i64 1]]:=rfl
set_option maxRecDepth 100000 in
set_option maxHeartbeats 4000000 in
theorem Tryz.Valid_in(F:Fence)(n:Nat)(h101:F.fn 256)(h95:F.fn 296)(h128:F.fn 320)(h132:F.fn 297)(hro:F.round=none)(hn:10<=n)(s:ByteArray)(hs:s.size<=100000)(ha:∀(k:Nat) (h:k<s.size),(s[k]'h).toNat< 128)(w:World):
 CallsIn F n Tryz.prog 256 #[.string s] w λe W'=>e= .returned (.bool true)/\GrL w.heap.size w W':=by
 have h1:1<=n:=by omega
 refine callsIn_of_wp_marks Tryz.func256 rfl h101 ?_ hro;simp only[Tryz.ntmps256,List.size_toArray,List.length_cons,List.length_nil,Nat.reduceAdd,Nat.reduceSub,Array.replicate_succ,Array.replicate_zero,List.push_toArray,List.append_toArray,List.nil_append,List.cons_append]
 gi_wp2_with (gi_at_call 296;refine(Tryz.units_in F (n -1) h95 hro _ _).mono ?_;rintro e w' ⟨rfl,rfl⟩)
 obtain⟨W0,hW0⟩:∃W0,(w.alloc (.cells #[.bool false] 4)).alloc (.cells #[.string s] av)=W0:=⟨_,rfl⟩
 rw[hW0];have hsz:W0.heap.size=w.heap.size+2:=by rw[<-hW0];simp
 have g0:GrL w.heap.size w W0:=by rw[<-hW0];exact(GrL.alloc w (Nat.le_refl _) _).trans (GrL.alloc _ (by simp) _)
 have b0:W0.heap[w.heap.size]? =some (.cells #[.bool false] 4 (0,0)):=by
  rw[<-hW0];exact(Below.heap_alloc _ _ _ (by simp)).trans (World.alloc_heap_new w _)
 have b1:W0.heap[w.heap.size+1]? =some (.cells #[.string s] av (0,0)):=by
  have h:=World.alloc_heap_new (w.alloc (.cells #[.bool false] 4)) (.cells #[.string s] av);rw[World.size_alloc]at h;rw[<-hW0];exact h
 clear hW0;have hcs:W0.cell? ⟨w.heap.size+1,0,none⟩=some (.string s):=bW b1 rfl;refine Vl hro h1 (gf:=320) (lb:= #[.pointer (some ⟨w.heap.size+1,0,none⟩)]) rfl h128 (enters_of Tryz.func320 (by kernel_rfl) rfl)
  (Tryz.units1_it F (n -1) h128 hro (by omega) s hs ha (λk=>k<W0.heap.size) (w.heap.size+1) (by omega) W0 (λ_ h=>h) hcs) (λ_ h=>h) (λ_=>rfl)
  (λk W=>GrL w.heap.size w W/\W.heap[w.heap.size]? =some (.cells #[.bool false] 4 (0,0)))
  (λ_ _=>False)
  (λk A C hs hg0=>have hg:=hg0.toL;⟨hs.1.trans (hg.mono (by omega)),(hg.low _ (by omega)).trans hs.2⟩)
  (λ_ _ _ hs _=>hs)
  ⟨g0,b0⟩
  (λk a' W=>∃Br,W0.heap.size+2<=Br/\W.heap[Br]? =some (.cells #[.int .i32 (Sj s k), .int .i64 (k:Int), .int .i64 1] 289 (0,0))/\
    a'={ tmps:= #[.string s,undef, .pointer (some ⟨w.heap.size,0,none⟩), .pointer (some ⟨Br,0,none⟩), .string s, .func (.func 320) #[] #[.pointer (some ⟨w.heap.size+1,0,none⟩)], .agg #[.int .i32 (Sj s k), .int .i64 (k:Int), .int .i64 1],undef,undef,undef],defers:=[] })
  (λa' k W o hlt hs=>by
    obtain⟨Br,q1,q2,q3⟩:=hs;exact⟨Br,q1,(World.putObj_heap_other (by omega)).trans q2,q3⟩)
  ?assign ?body ?done ?stop
 case assign=>
  rintro l k W hsz2 hl ⟨i1,i2⟩ hk;rw[UQ];generalize Sj s k=c
  gi_wp2
  exact⟨(KeepsOthers.alloc _ _).from _,KBt.alloc _ _ _ _,⟨i1.trans (GrL.alloc W i1.size _),(Below.heap_alloc _ _ _ (by omega)).trans i2⟩,W.heap.size,by omega,World.alloc_heap_new W _,rfl⟩
 case body=>
  rintro l k a' W hsz2 hl ⟨i1,i2⟩ ⟨Br,hBr,bR,rfl⟩ hk;obtain⟨c0,c1⟩:=qoV ha hk;generalize Sj s k=c at bR c0 c1;have r0:W.cell? ⟨Br,0,none⟩=some (.int .i32 c):=bW bR rfl;have r1:W.cell? ⟨Br,1,none⟩=some (.int .i64 (k:Int)):=bW bR rfl;have r2:W.cell? ⟨Br,2,none⟩=some (.int .i64 1):=bW bR rfl;have hn2:1<=n -1 -1:=by omega
  gi_wp2_with (gi_at_call 297;refine(CallsIn.inRound l (Tryz.unit_valid_x F _ h132 hro _ _ _ c0 c1 _)).mono ?_;rintro e w' ⟨rfl,rfl⟩)
  exact⟨(KeepsOthers.alloc _ _).from _,KBt.alloc _ _ _ _,i1.trans (GrL.alloc W i1.size _),(Below.heap_alloc _ _ _ (by omega)).trans i2⟩
 case done=>
  rintro D W hD ⟨i1,i2⟩ hK;have q0:W.cell? ⟨w.heap.size,0,none⟩=some (.bool false):=bW i2 rfl;have q1:W.frozen? ⟨w.heap.size,0,none⟩=false:=sD i2
  gi_wp2
  have hK2:(W.setCell ⟨w.heap.size,0,none⟩ (.bool true)).heap[D]? =some (.deferred (some [])):=(Below.heap_setCell _ _ _ _ (by show D≠w.heap.size;omega)).trans hK;refine⟨by simp, .inl ⟨_,_,rfl,run_takeDeferred hK2,?_⟩⟩;have i3:(W.setCell ⟨w.heap.size,0,none⟩ (.bool true)).heap[w.heap.size]? =some (.cells #[.bool true] 4 (0,0)):=rP i2;have i4:((W.setCell ⟨w.heap.size,0,none⟩ (.bool true)).putObj D (.deferred none)).heap[w.heap.size]? =some (.cells #[.bool true] 4 (0,0)):=(World.putObj_heap_other (by omega)).trans i3;have g4:GrL w.heap.size w ((W.setCell ⟨w.heap.size,0,none⟩ (.bool true)).putObj D (.deferred none)):=(i1.trans (GrL.setCell (Nat.le_refl _) _)).trans (GrL.put _ (by omega) _);have k4:=bW (k:=0) i4 rfl;have hres:∀tmps:Array Value,tmps[2]? =some (.pointer (some ⟨w.heap.size,0,none⟩))->(results Tryz.f256 tmps).run Tryz.prog ((W.setCell ⟨w.heap.size,0,none⟩ (.bool true)).putObj D (.deferred none))= .ok (.bool true) ((W.setCell ⟨w.heap.size,0,none⟩ (.bool true)).putObj D (.deferred none)):=λtmps ht=>by
   simp[results,Tryz.f256,go_sem,k4,ht]
  exact⟨_,hres _ rfl,rfl,g4⟩
 case stop=>
  rintro D k W _ _ h _;exact h.elim
end Go.Proofs
namespace Go.Gv
section
open Go.RowKit
open Cod (enc dec)
variable {dq:Prop}
theorem qcf{P:Program}{f:Nat}{X Y:Type}{A:fN X}{pre:X->Prop}{er:Y->D}{post:X->Y->Prop}(u:dH P f)
 (h:∀ (tp I:Nat->Prop) (w:World) (vs:List Value) (x:X),pre x->(∀p∈sw,∃(el:Nat) (z:Nat×Nat),w.heap[p.1]? =some (.cells p.2 el z))->(∀b,I b->b<w.heap.size)->vs.length=(A.view x).length->
   (∀(k:Nat) (v:Value) (d:D),vs[k]? =some v->(A.view x)[k]? =some d->R tp I w v d)->
   Calls P f vs.toArray w λe w'=>∃v y,e= .returned v/\post x y/\(∀C L,R C L w' v (er y))/\Below w.heap.size w w'/\w.drawn<=w'.drawn):Tri dq P f (ax A pre er post).pt:=by
 intro O tp w vs ds H d K hO j a hlen l s;rw[lZ]at s;cases E:A.dec ds with
 |none=>rw[E]at s;exact s.elim
 | some x=>
   rw[E]at s;obtain⟨hp,M⟩:=s;have t:=A.le ds x E;refine⟨u,(h tp (be O tp H w) w vs x hp (λp hp=>(j.2 p hp).2.2) (λb hb=>hb.1) (by rw[hlen,t.1]) (λk v d h1 h2=>?_)).mono ?_⟩
   ·have F:k<ds.length:=by rw[<-hlen];exact(qF4.1 h1).1
    have he:=qF6 F;exact(t.2 k _ d he h2).R (H:=dm) (λi r h=>by cases h) (λ_ h=>h) (λi r b h=>by cases h) (l k _ _ h1 he)
   ·rintro e w' ⟨v,y,rfl,N,Q,hb,J⟩;have q:∀y e,R tp (be O tp H w) w y e->R tp (be O tp H w') w' y e:=λy e S=>
     S.mono (λ_ h=>h) (λb c=>⟨⟨qGl c.1 hb.size,c.2⟩,hb.block b c.1⟩) (λb c=> .same (hb.block b (j.1 b c)))
    exact⟨v,er y,H,tp,rfl,M y N,λ_ h=>h,λ_ h=> .inl h,λb h=>qGl (j.1 b h) hb.size,
     ⟨hb.os,hb.tape,hb.output,hb.size,λb h1 _ _=>hb.block b h1,λb h=> .same (hb.block b (j.1 b h)),λ_=>J⟩,λ_ h=> .inl h,
     ⟨a.dis,a.out,λi r h1=>(a.ok i r h1).conv q λb h2=>hb.block b ((a.ok i r h1).lt h2)⟩,Q _ _⟩
def uC{P:Program}{f:Nat}{X Y:Type}{A:fN X}{pre:X->Prop}{er:Y->D}{post:X->Y->Prop}(a:dH P f)
 (h:∀ (tp I:Nat->Prop) (w:World) (vs:List Value) (x:X),pre x->(∀b,I b->b<w.heap.size)->vs.length=(A.view x).length->
   (∀(k:Nat) (v:Value) (d:D),vs[k]? =some v->(A.view x)[k]? =some d->R tp I w v d)->
   Calls P f vs.toArray w λe w'=>∃v y,e= .returned v/\post x y/\(∀c j,R c j w' v (er y))/\Below w.heap.size w w'/\w.drawn<=w'.drawn):Tri dq P f (ax A pre er post).pt:=
 qcf a λtp I w vs x hp _ hI hl l=>h tp I w vs x hp hI hl l
def HH{tp I:Nat->Prop}{w:World}{x y:Value}(h:R tp I w x (.v y)):x=y:=by cases h;rfl
end
section
abbrev RF(l:Nat):Fence:=Fence.wide.inRound l
section
variable {P:Program}{l n:Nat}
def qcA{row:String}{args:Array Value}{w:World}{R:Value->World->Prop}(h:Rows P row args w R):RowsIn (RF l) n P row args w R:=λc cs _=>
 let ⟨v,w',r,s⟩:=h c cs
 ⟨v,w',r,stepsIn_wide.2 s⟩
def qa4{f:FuncId}{args:Array Value}{w:World}{R:Ending->World->Prop}(h:Calls P f args w R):CallsIn (RF l) n P f args w R:=(callsIn_wide.2 h).inRound l
theorem ZK{o:Oper}(b:∀c,o.op≠ .defer c){a:Act}{w:World}{K:Act->World->Prop}{Q:Exit->Act->World->Prop}(h:o.wp P a w K Q):o.wpIn (RF l) n P a w K Q:=by
 refine⟨λ_ _=>trivial,?_⟩;rw[Oper.semAt_eq _ _ _ b];unfold Oper.wp at h;generalize (execOp a.eval o).run P w=r at*;cases r with
 | ok x w'=>
   cases x<;>simp only[Oper.upon,Oper.uponIn]at h ⊢ <;>first
    |exact h
    |exact⟨λh=>absurd (show false=true from h) (by decide),CallsIn.mono (qa4 h) (λe d he=>by omega)⟩
    |exact⟨λh=>absurd (show false=true from h) (by decide),qcA h⟩
    |exact h.elim
 |halt x w'=>cases x<;>simp only[Oper.upon,Oper.uponIn]at h ⊢ <;>exact h
theorem Ej{k:Region.Mode}{ops:Array Oper}{Q:Exit->Act->World->Prop}(b:∀o∈ops,∀c,o.op≠ .defer c)(d:¬LetsOut Q):
 ∀(fuel:Nat) (listed:Array Bool) (a:Act) (w:World),wpAny P k ops Q fuel listed a w->wpAnyIn (RF l) n P k ops Q fuel listed a w
 | 0,listed,a,w,h=>h
 | fuel+1,listed,a,w,h=>by
   refine⟨h.1,λi hi=>?_⟩;have h:=h.2 i hi;unfold wpOp at h;unfold wpOpIn;split
   ·rename_i e;rw[e]at h;exact Ej b d fuel _ _ _ h
   ·rename_i o e;rw[e]at h;simp only at h;have ho:o∈ops:=Array.mem_of_getElem? e;split
    ·rename_i j;rw[if_pos j]at h;rcases h with h|⟨_,h⟩
     ·exact ZK (b o ho) (Oper.wp_mono (λa w h=>Ej b d fuel _ _ _ h) h)
     grind
    ·rename_i j;rw[if_neg j]at h;exact⟨λ_ _=>trivial,Ej b d fuel _ _ _ h⟩
def PL{ops:Array Oper}{Q:Exit->Act->World->Prop}(j:¬LetsOut Q):
 ∀(os:List Oper) (b:∀o∈os,∀c,o.op≠ .defer c) (a:Act) (w:World),wpList P ops Q os a w->wpListIn (RF l) n P ops Q os a w
 | [],b,a,w,h=>h
 | o::os,b,a,w,h=>by
   have k:=PL (ops:=ops) j os λo ho=>b o (by grind)
   unfold wpList at h;unfold wpListIn;split
   ·rename_i d;rw[if_pos d]at h;grind [ZK,Oper.wp_mono]
   ·rename_i d;rw[if_neg d]at h;exact⟨λ_ _=>trivial,k _ _ h⟩
end
section
variable {P:Program}{S:Nat->Spc}{im:List Nat}{E:BU}{l n:Nat}
theorem Nm{o:Oper}{c:COp}(h:cV P im o=some c):∀q,o.op≠ .defer q:=by
 grind [cV]
def L3{N:Nat}{ops:Array Oper}{cis:List CI}(h:lg P im N ops=some cis):∀o∈ops,∀q,o.op≠ .defer q:=by
 intro o ho;obtain⟨hl,a⟩:=vU h;grind [Array.mem_iff_getElem?,iq,Nm]
def qpK{z:List PanicEntry->Prop}{K:Ex->Sg->ab->Prop} :¬LetsOut (PostZ E z K):=by
 rintro⟨a,w,h⟩;exact h
theorem qfT{z:List PanicEntry->Prop}(hmix:P.follows .mixedOrders=true)(cc:CC):IG E.dq P z S cc->∀(code:Code),aG P im E.N code=some (bI cc)->∀(K:Ex->Sg->ab->Prop) (u:Sg) (H:ab) (a:Act) (w:World),
 St E u H a w->vc S cc K u H->code.wpIn (RF l) n P (PostZ E z K) a w:=by
 induction cc with
 | skip=>
   intro j code hc K u H a w d r;rcases br hc with⟨_,h⟩|⟨_,_,_,_,h,_⟩|⟨_,_,_,_,_,h⟩|⟨_,_,_,_,_,h,_⟩|⟨_,_,_,_,_,_,h,_⟩|⟨_,_,_,_,h,_⟩|⟨_,_,_,h,_⟩|⟨_,_,h⟩|⟨_,h⟩ <;>try (simp[bI]at h;done)
   rcases h with rfl|⟨l,rfl⟩
   ·exact wpIn_skip ⟨u,H,d,r⟩
   ·exact wpIn_label ⟨u,H,d,r⟩
 | reg l=>
   intro j code hc K u H a w d r;rcases br hc with⟨h,_⟩|⟨id,ops,l',rfl,h,hl⟩|⟨_,_,_,_,_,h⟩|⟨_,_,_,_,_,h,_⟩|⟨_,_,_,_,_,_,h,_⟩|⟨_,_,_,_,h,_⟩|⟨_,_,_,h,_⟩|⟨_,_,h⟩|⟨_,h⟩ <;>try (simp[bI]at h;done)
   simp only[bI,CC.reg.injEq]at h;subst h;refine wpIn_region_list (PL qpK _ (λo ho=>L3 hl o (by grind)) _ _ ?_);exact SC (im:=im) (Q:=PostZ E z K) (K:=K .norm) (λc a w' h1 h2=>⟨h1,h2⟩) (λu H a w hs hk=>⟨u,H,hs,hk⟩) l j ops.toList hl u H a w d r
 | regd pre tl=>
   intro j code hc K u H a w d r;rcases br hc with⟨h,_⟩|⟨_,_,_,_,h,_⟩|⟨id,ops,pre',tl',rfl,h⟩|⟨_,_,_,_,_,h,_⟩|⟨_,_,_,_,_,_,h,_⟩|⟨_,_,_,_,h,_⟩|⟨_,_,_,h,_⟩|⟨_,_,h⟩|⟨_,h⟩ <;>try (simp[bI]at h;done)
   have hc2:=hc;simp only[aG,qF5,qF3]at hc2;obtain⟨cis,hcis,_⟩:=hc2;exact wpIn_region_any hmix (Ej (L3 hcis) qpK _ _ _ _ (qaN j.1 j.2.1 j.2.2 hc d r))
 | seq x y M O=>
   intro j code hc K u H a w d r;rcases br hc with⟨h,_⟩|⟨_,_,_,_,h,_⟩|⟨_,_,_,_,_,h⟩|⟨p,q,x',y',rfl,h,U,hy⟩|⟨_,_,_,_,_,_,h,_⟩|⟨_,_,_,_,h,_⟩|⟨_,_,_,h,_⟩|⟨_,_,h⟩|⟨_,h⟩ <;>try (simp[bI]at h;done)
   simp only[bI,CC.seq.injEq]at h;obtain⟨rfl,rfl⟩:=h;refine wpIn_seq (wpIn_mono (M j.1 p U _ u H a w d r) ?_);intro e W w' hp;cases e with
   | normal=>
     obtain⟨A,H',hs,hk⟩:=hp;exact O j.2 q hy K A H' W w' hs hk
   |exit id=>exact hp
   |ret=>exact hp
   |goto l=>exact hp
   |panic c=>exact hp
   |outgrown=>exact hp
 | ite q x y M O=>
   intro j code hc K u H a w d r;rcases br hc with⟨h,_⟩|⟨_,_,_,_,h,_⟩|⟨_,_,_,_,_,h⟩|⟨_,_,_,_,_,h,_⟩|⟨q',p1,p2,x',y',rfl,h,I,U,hy⟩|⟨_,_,_,_,h,_⟩|⟨_,_,_,h,_⟩|⟨_,_,h⟩|⟨_,h⟩ <;>try (simp[bI]at h;done)
   simp only[bI,CC.ite.injEq]at h;obtain⟨rfl,rfl,rfl⟩:=h;simp only[vc]at r;have L:=d;obtain⟨hd,hN,tp,hw,Y⟩:=d;have hqr:=qdj Y q I;split at r
   ·rename_i t e1;rw[e1]at hqr;refine wpIn_cond_split hqr.inv_v (λh=>?_) (λh=>?_)
    ·exact M j.1 p1 U K u H a w L (r.1 h)
    ·exact O j.2 p2 hy K u H a w L (r.2 h)
   grind
 | block id b Z=>
   intro j code hc K u H a w d r;rcases br hc with⟨h,_⟩|⟨_,_,_,_,h,_⟩|⟨_,_,_,_,_,h⟩|⟨_,_,_,_,_,h,_⟩|⟨_,_,_,_,_,_,h,_⟩|⟨id',p,x',rfl,h,U⟩|⟨_,_,_,h,_⟩|⟨_,_,h⟩|⟨_,h⟩ <;>try (simp[bI]at h;done)
   simp only[bI,CC.block.injEq]at h;obtain⟨rfl,rfl⟩:=h;refine wpIn_block (wpIn_mono (Z j p U _ u H a w d r) ?_);intro e W w' hp;cases e with
   |normal=>exact hp
   | exit i=>
     obtain⟨A,H',hs,hk⟩:=hp;simp only[Exit.inBlock];by_cases hi:i=id
     ·simp only[if_pos hi]at hk ⊢;exact⟨A,H',hs,hk⟩
     ·simp only[if_neg hi]at hk ⊢;exact⟨A,H',hs,hk⟩
   |ret=>exact hp
   |goto l=>exact hp
   |panic c=>exact hp
   |outgrown=>exact hp
 | loop key b Z=>
   intro j code hc K u H a w d r;rcases br hc with⟨h,_⟩|⟨_,_,_,_,h,_⟩|⟨_,_,_,_,_,h⟩|⟨_,_,_,_,_,h,_⟩|⟨_,_,_,_,_,_,h,_⟩|⟨_,_,_,_,h,_⟩|⟨p,x',rfl,h,U⟩|⟨_,_,h⟩|⟨_,h⟩ <;>try (simp[bI]at h;done)
   simp only[bI,CC.loop.injEq,true_and]at h;subst h;simp only[vc]at r;obtain⟨F,⟨x0,hP0,hm0⟩,J⟩:=r;intro fr k cs hro hb Y;have key:∀(m:Nat) (x:F.X),F.P x->F.m x=m->∀a w,St E (F.s x) (F.h x) a w->
    ∃e W w',PostZ E z K e W w'/\ArrivesIn (Machine.fenced P (RF l)) P (lone (fr.atR a (.code p:: .inLoop p::k)) cs w) fr k cs e W w':=by
    intro m
    induction m using Nat.strongRecOn with
    | _ m ihn=>
      intro x hP hm a w d;obtain⟨e,a1,w1,I,C⟩:=Z j p U _ _ _ a w d (J x hP) fr (.inLoop p::k) cs hro hb Y;cases e with
      | normal=>
        obtain⟨A,H',hs,y,hPy,hy1,hlt⟩:=I;obtain⟨e2,a2,w2,hq2,harr2⟩:=ihn (F.m y) (by omega) y hPy rfl a1 w1 (hy1 _ _ _ hs);exact⟨e2,a2,w2,hq2, .of_steps (StepsIn.trans C (.one (fenced_calm hb Y rfl) stepR_inLoop)) harr2⟩
      | exit id=>
        obtain⟨A,H',hs,hk⟩:=I;exact⟨.exit id,a1,w1,⟨A,H',hs,hk⟩, .pass (x:= .inLoop p) rfl (λ_ _=> .inl (by simp)) C⟩
      | ret=>
        obtain⟨A,H',hs,hk⟩:=I;exact⟨.ret,a1,w1,⟨A,H',hs,hk⟩, .pass (x:= .inLoop p) rfl (λ_ _=> .inl (by simp)) C⟩
      |goto l=>exact I.elim
      |panic c=>exact⟨.panic c,a1,w1,I, .pass (x:= .inLoop p) rfl (λ_ _=> .inl (by simp)) C⟩
      |outgrown=>exact I.elim
   obtain⟨e,W,w',I,C⟩:=key _ x0 hP0 rfl a w (hm0 _ _ _ d);exact⟨e,W,w',I, .of_steps (.one (fenced_calm hb Y rfl) stepR_loop) C⟩
 | exit id=>
   intro j code hc K u H a w d r;rcases br hc with⟨h,_⟩|⟨_,_,_,_,h,_⟩|⟨_,_,_,_,_,h⟩|⟨_,_,_,_,_,h,_⟩|⟨_,_,_,_,_,_,h,_⟩|⟨_,_,_,_,h,_⟩|⟨_,_,_,h,_⟩|⟨id',rfl,h⟩|⟨_,h⟩ <;>try (simp[bI]at h;done)
   simp only[bI,CC.exit.injEq]at h;subst h;exact wpIn_exit ⟨u,H,d,r⟩
 | ret=>
   intro j code hc K u H a w d r;rcases br hc with⟨h,_⟩|⟨_,_,_,_,h,_⟩|⟨_,_,_,_,_,h⟩|⟨_,_,_,_,_,h,_⟩|⟨_,_,_,_,_,_,h,_⟩|⟨_,_,_,_,h,_⟩|⟨_,_,_,h,_⟩|⟨_,_,h⟩|⟨rfl,h⟩ <;>try (simp[bI]at h;done)
   exact wpIn_ret ⟨u,H,d,r⟩
 | cut key c Z=>
   intro j code hc K u H a w d r;simp only[vc]at r;obtain⟨A,H',hwk,hrest⟩:=r;exact Z j code hc K _ _ a w (hwk _ _ _ d) hrest
 | keep ls lh c Z=>
   intro j code hc K u H a w d r;simp only[vc]at r;refine Z j code hc K _ _ a w ?_ r;obtain⟨hd,hN,tp,hw,Y⟩:=d;have hm:=hw.sub (K0 (l:=lh));refine⟨hd,hN,tp,hm.1,λt=>hm.2 _ _ ?_⟩;unfold jr;exact Wq Y t
def Ys(j:∀f,Tri E.dq P f (S f).pt)(b:P.follows .mixedOrders=true){cc:CC}{code:Code}(hc:aG P im E.N code=some (bI cc)){K:Ex->Sg->ab->Prop}{c:Sg}{H:ab}{a:Act}{w:World}
 (d:St E c H a w) (k:vc S cc K c H):code.wpIn (RF l) n P (qsJ E K) a w:=
 wpIn_mono (qfT (z:=Z2) b cc (pj j cc) code hc K c H a w d k) λ_ _ _ h=>h.no
end
open Go.Proofs
variable {dq:Prop}
def qgA:Nat->Prop:=λ_=>False
def Nl(W:World)(H:ab)(N:Nat)(ds:List Deferred):BU:=⟨qgA,qgA,W,bG H,N,ds,True⟩
def qAG{W:World}{H:ab}{a:Act}{c:Sg}(d:sw=[])(dis:∀i j r s b,H i=some r->H j=some s->r.blk=some b->s.blk=some b->i=j)
 (ok:∀i r,H i=some r->ResOk (R qgA (be qgA qgA H W) W) W r) (k:∀t,R qgA (be qgA qgA H W) W (a.tmps.getD t undef) (c t)):
 St (Nl W H a.tmps.size a.defers) c H a W:=
 ⟨rfl,rfl,qgA,⟨λb h=>h.elim,λb h=>h,λb h=> .inl h,⟨λb h=>h.elim,λp hp=>by rw[d]at hp;cases hp⟩, .refl _ _ _,λb h=> .inl h,⟨dis,λi r b _ _=>⟨λh=>h,λh=>h⟩,ok⟩⟩,k⟩
def Bx(W:World)(b:Nat)(xs:Array Value):Prop:=∃el,W.heap[b]? =some (.cells xs el (0,0))
def Bx.lt{W:World}{b:Nat}{xs:Array Value}(h:Bx W b xs):b<W.heap.size:=by
 obtain⟨el,h⟩:=h;exact(qGg.1 h).1
def Bx.of{W:World}{b:Nat}{xs:Array Value}{el:Nat}(h:W.heap[b]? =some (.cells xs el (0,0))):Bx W b xs:=⟨el,h⟩
def Bx.keep{W W':World}{b:Nat}{xs:Array Value}(h:Bx W b xs)(hk:W'.heap[b]? =W.heap[b]?):Bx W' b xs:=by
 obtain⟨el,h⟩:=h;exact⟨el,hk.trans h⟩
def Bx.cell{W:World}{b k:Nat}{xs:Array Value}{v:Value}(h:Bx W b xs)(hk:xs[k]? =some v):W.cell? ⟨b,k,none⟩=some v:=by
 obtain⟨el,h⟩:=h;simp[World.cell?,h,hk]
def Bx.fr{W:World}{b k:Nat}{xs:Array Value}(h:Bx W b xs):W.frozen? ⟨b,k,none⟩=false:=by
 obtain⟨el,h⟩:=h;simp[World.frozen?,h]
def Bx.box{W:World}{b:Nat}{Q:Value->D->Prop}{l:List Value}(h:Bx W b l.toArray)(h1:∀x∈l,x.oneCell'=true)(d:∀x∈l,Q x (.v x)):ResOk Q W (.box b (l.map .v)):=by
 obtain⟨el,h⟩:=h;refine⟨l.toArray,el,h,by simp,λk y c a hc=>?_⟩;rw[qGn]at hc;have a:l[k]? =some y:=a;rw[a]at hc;cases hc;have hm:=qF7 a;exact⟨h1 y hm,d y hm⟩
def Bx.box1{W:World}{b:Nat}{Q:Value->D->Prop}{v:Value}(h:Bx W b #[v])(h1:v.oneCell'=true)(c:Q v (.v v)):ResOk Q W (.box b [.v v]):=
 h.box (l:=[v]) (λx a=>by rw[qHk.1 a];exact h1) (λx a=>by rw[qHk.1 a];exact c)
def Bx.cptr{tp I:Nat->Prop}{W:World}{b:Nat}(l:List Value)(h:Bx W b l.toArray)(hI:I b)(h1:∀x∈l,x.oneCell'=true/\R tp I W x (.v x)):R tp I W (.pointer (some ⟨b,0,none⟩)) (.cptr (l.map .v) 0):=by
 refine R.cptr b 0 (l.map .v) 0 (λk=>(l[k]?).getD undef) hI (λ_=>let ⟨el,h0⟩:=h;⟨_,el,h0⟩) (λk c hk=>?_) (λk c hk=>?_) (λk c hk=>?_)
 all_goals
  rw[qGn]at hk;obtain⟨x,a,rfl⟩:=qGe.1 hk
 ·rw[a,qGS];have d:l.toArray[k]? =some x:=by simpa using a
  exact h.cell d
 ·rw[a];exact(h1 x (qF7 a)).1
 ·rw[a];exact(h1 x (qF7 a)).2
def qso{tp I:Nat->Prop}{W:World}{b:Nat}{l:List Value}(h:ResOk (R tp I W) W (.box b (l.map .v))):Bx W b l.toArray:=by
 obtain⟨xs,el,h1,h2,h3⟩:=h;refine⟨el,?_⟩;rw[h1];have hl:xs.toList=l:=by
  apply qGN;intro k;rw[qGE]at h2;by_cases hk:k<l.length
  ·have a:xs.toList[k]? =some (xs.toList[k]'(by simpa [h2]using hk)):=qF6 _;have c:(l.map D.v)[k]? =some (.v l[k]):=by rw[qGn,qF6 hk];rfl
   have:=(h3 k _ _ a c).2.inv_v;rw[a,qF6 hk,this]
  ·rw[qGu (by simpa [h2]using hk),qGu (by omega)]
 rw[<-hl]
def Nv{W W':World}{H H':ab}{N:Nat}{ds:List Deferred}{a:Sg}{b:Act}(h:St (Nl W H N ds) a H' b W'):Step True qgA (bG H) W W':=by
 obtain⟨_,_,tp,c,_⟩:=h;exact c.step
def qim{W W':World}{H H':ab}{N:Nat}{ds:List Deferred}{a:Sg}{b:Act}(h:St (Nl W H N ds) a H' b W'){i:Nat}{r:Res}(hi:H' i=some r):∃tp I,ResOk (R tp I W') W' r:=by
 obtain⟨_,_,tp,c,_⟩:=h;exact⟨_,_,c.sat.ok i r hi⟩
def zW{W W':World}{H H':ab}{N:Nat}{ds:List Deferred}{a:Sg}{d:Act}(h:St (Nl W H N ds) a H' d W'){i b:Nat}(l:List Value)(hi:H' i=some (.box b (l.map .v))):Bx W' b l.toArray:=by
 obtain⟨tp,I,c⟩:=qim h hi;exact qso c
def qqB{W W':World}{H H':ab}{N:Nat}{ds:List Deferred}{a:Sg}{c:Act}(h:St (Nl W H N ds) a H' c W'){b:Nat}(hb:bG H' b):bG H b\/W.heap.size<=b:=by
 obtain⟨_,_,tp,d,_⟩:=h;exact d.loc b hb
def qqC{W W':World}{H H':ab}{N:Nat}{ds:List Deferred}{a:Sg}{c:Act}(h:St (Nl W H N ds) a H' c W'){i j b:Nat}{r s:Res}(hi:H' i=some r)(d:H' j=some s)(h1:r.blk=some b)(h2:s.blk=some b):i=j:=by
 obtain⟨_,_,tp,k,_⟩:=h;exact k.sat.dis i j r s b hi d h1 h2
def qqA{W W':World}{H H':ab}{N:Nat}{ds:List Deferred}{a:Sg}{c:Act}(h:St (Nl W H N ds) a H' c W'){i b id:Nat}{v:Value}(hi:H' i=some (.box b [.own id v])):Bx W' b #[v]:=by
 obtain⟨tp,I,xs,el,h1,h2,h3⟩:=qim h hi;refine⟨el,?_⟩;rw[h1];obtain⟨l⟩:=xs
 match l,h2 with
 | [x],_=>
   have:=(h3 0 x _ rfl rfl).2;cases this with
   |own _ _ _=>rfl
def qqy{W W':World}{H H':ab}{N:Nat}{ds:List Deferred}{a:Sg}{b:Act}(h:St (Nl W H N ds) a H' b W'){t:Nat}{x:Value}(c:a t= .v x):b.tmps.getD t undef=x:=by
 obtain⟨_,_,tp,j,d⟩:=h;have:=d t;rw[c]at this;exact this.inv_v
def quc{W W':World}{H H':ab}{N:Nat}{ds:List Deferred}{a:Sg}{b:Act}(h:St (Nl W H N ds) a H' b W'):b.defers=ds/\b.tmps.size=N:=⟨h.1,h.2.1⟩
def Step.kbt{W W':World}{H:ab}{B:Nat}{S:Nat->Prop}(h:Step True qgA (bG H) W W')(a:∀b,bG H b->b<B/\ ¬S b):KBt B S W W':=
 ⟨h.size,λk hk hs=>h.same k hk (λho=>by
  obtain⟨h1,h2⟩:=a k ho;rcases hs with hs|hs
  ·exact h2 hs
  ·omega) (λh=>h)⟩
def Step.kf{W W':World}{H:ab}{B:Nat}(h:Step True qgA (bG H) W W')(a:∀b,bG H b->b<B):KeepsFrom B W W':=
 ⟨h.size,λk o hb hk _=>by rw[h.same k (qGg.1 hk).1 (λho=>by have:=a k ho;omega) (λh=>h)];exact hk⟩
def Step.grL{W W':World}{H:ab}{B:Nat}(h:Step True qgA (bG H) W W')(a:∀b,bG H b->B<=b)(hs:B<=W.heap.size):GrL B W W':=
 ⟨h.os,h.tape,h.output,h.size,λj c=>h.same j (by omega) (λho=>by have:=a j ho;omega) (λh=>h),h.drawn trivial⟩
end
section
open Go.Proofs
def kD:CC:= .block 1 (.seq (oX [oC 12 1 3,oB 13 (.eql false false [.int] (oT 12) (oN 0))] [3,4,5,6,7,8,13] [3,4,5,6,7] (.ite (oT 13) (.seq (.regd [oE 14 0 8,oC 15 1 14,oE 16 1 8,oC 17 1 16,oE 18 2 8,oC 19 1 18,.op none none (.store (some 4) 1 (oT 4) (oT 15)),.op none none (.store (some 5) 1 (oT 5) (oT 17))] [.op none none (.store (some 6) 1 (oT 6) (oT 19)),
 .op none none (.store (some 7) 1 (oT 7) (.const (.bool true)))]) (.keep [3,4,5,6,7] [3,4,5,6,7] (.ret))) (.skip))) (.keep [3,4,5,6,7] [3,4,5,6,7] (.reg [oC 20 1 3,oB 21 (.arith .sub (oT 20) (oN 1)),oF 1 3 21])))
def gV:CC:= .block 1 (oX [oE 12 0 4,oC 13 1 12,oZ 14 eT [oT 13],oA 5 14] [1,2,3,4,5] [2,3,4,22,33] (oX [oA 15 5,oE 16 0 4,oC 17 1 16,oB 18 (.eql true false [.int] (oT 15) (oT 17))] [1,2,3,4,5,18] [2,3,4,22,33] (.ite (oT 18) (.reg [oC 19 1 3,oA 20 5,oB 21 (.rstr (oT 20)),oB 22 (.append none sq 1 1 (oT 19) (oT 21)),
 .op none none (.store (some 3) 1 (oT 3) (oT 22))]) (.regd [oC 23 1 3,oC 24 1 1,oE 25 1 4,oC 26 1 25,oE 27 1 4,oC 28 1 27,oE 29 2 4,oC 30 1 29,oB 31 (.arith .add (oT 28) (oT 30)),oB 32 (.sslice (oT 24) (some (oT 26)) (some (oT 31)))] [oB 33 (.append none sq 1 1 (oT 23) (oT 32)),.op none none (.store (some 3) 1 (oT 3) (oT 33))]))))
def fH:CC:=gq Tryz.f328 [] {} _
def fB:List ai:=[.tmp 2]
def Gj:FO eT [] fH fB 48:=fo
end
end Go.Gv
