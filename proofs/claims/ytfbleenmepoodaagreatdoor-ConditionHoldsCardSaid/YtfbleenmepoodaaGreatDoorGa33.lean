/- A part of the framework and of the walks: I7 I8 I9. -/
import Derived.RangeFuncNested
import Derived.RangeFuncBound
import Derived.RangeFuncCalls
import Derived.RangeFuncLeaves
import Derived.Shelf.Abstract
import Derived.Shelf.RegionOpen
import Derived.OwnWalkIn
import Derived.TacticsInMore
import Derived.LoopNIn
import Derived.LoopIn
import Derived.Test.YtfbleenmepoodaaGreatDoorGa32
set_option linter.unusedSimpArgs false
set_option linter.unusedVariables false
set_option linter.unusedSectionVars false
set_option linter.defProp false
namespace Go.Gv
open Go.RowKit Go.Proofs
variable {F:Fence}{n:Nat}{P:Program}
structure GrL (B:Nat) (W W':World):Prop where
 os:W'.os=W.os
 tape:W'.tape=W.tape
 output:W'.output=W.output
 size:W.heap.size<=W'.heap.size
 low:∀j,j < B->W'.heap[j]? =W.heap[j]?
 drawn:W.drawn<=W'.drawn
def GrL.refl(B:Nat)(W:World):GrL B W W:=⟨rfl,rfl,rfl,qjL _,λ_ _=>rfl,qjL _⟩
def GrL.trans{B:Nat}{X Y Z:World}(h:GrL B X Y)(k:GrL B Y Z):GrL B X Z:=⟨k.os.trans h.os,k.tape.trans h.tape,k.output.trans h.output,qj8 h.size k.size,λj hj=>(k.low j hj).trans (h.low j hj),qj8 h.drawn k.drawn⟩
def GrL.mono{A B:Nat}{X Y:World}(h:GrL B X Y)(hAB:A<=B):GrL A X Y:=⟨h.os,h.tape,h.output,h.size,λj hj=>h.low j (qjZ hj hAB),h.drawn⟩
def GrL.alloc{B:Nat}(W:World)(hB:B<=W.heap.size)(o:Obj):GrL B W (W.alloc o):=⟨rfl,rfl,rfl,by simp,λj hj=>Below.heap_alloc W o j (qjZ hj hB),qjL _⟩
def GrL.put{B:Nat}(W:World){l:Nat}(hB:B<=l)(o:Obj):GrL B W (W.putObj l o):=⟨rfl,rfl,rfl,by simp,λj hj=>World.putObj_heap_other (by omega),qjL _⟩
structure GrR (B C:Nat) (W W':World):Prop where
 os:W'.os=W.os
 tape:W'.tape=W.tape
 output:W'.output=W.output
 size:W.heap.size<=W'.heap.size
 at_:B<=W.heap.size
 low:∀j,j < W.heap.size->(j < B\/C<=j)->W'.heap[j]? =W.heap[j]?
 drawn:W.drawn<=W'.drawn
def GrR.toL{B C:Nat}{X Y:World}(h:GrR B C X Y):GrL B X Y:=⟨h.os,h.tape,h.output,h.size,λj hj=>h.low j (qjZ hj h.at_) (.inl hj),h.drawn⟩
def GrR.mono{A B C D:Nat}{X Y:World}(h:GrR B C X Y)(hAB:A<=B)(hCD:C<=D):GrR A D X Y:=⟨h.os,h.tape,h.output,h.size,qj8 hAB h.at_,λj hj hs=>h.low j hj (hs.imp (λh=>qjZ h hAB) λh=>qj8 hCD h),h.drawn⟩
def GrR.trans{B C:Nat}{X Y Z:World}(h:GrR B C X Y)(k:GrR B C Y Z):GrR B C X Z:=⟨k.os.trans h.os,k.tape.trans h.tape,k.output.trans h.output,qj8 h.size k.size,h.at_,λj hj hs=>(k.low j (qjZ hj h.size) hs).trans (h.low j hj hs),qj8 h.drawn k.drawn⟩
def GrR.get{B C:Nat}{X Y:World}(h:GrR B C X Y){j:Nat}{o:Obj}(hj:X.heap[j]? =some o)(hs:j < B\/C<=j):Y.heap[j]? =some o:=(h.low j (qjG.1 hj).1 hs).trans hj
def GrR.alloc{B C:Nat}(W:World)(hB:B<=W.heap.size)(o:Obj):GrR B C W (W.alloc o):=⟨rfl,rfl,rfl,by simp,hB,λj hj _=>Below.heap_alloc W o j hj,qjL _⟩
def GrR.put{B C:Nat}(W:World){l:Nat}(hB:B<=l)(hC:l < C)(h:B<=W.heap.size)(o:Obj):GrR B C W (W.putObj l o):=⟨rfl,rfl,rfl,by simp,h,λj _ hs=>World.putObj_heap_other (by omega),qjL _⟩
def GrR.set{B C b k:Nat}(W:World)(hB:B<=b)(hC:b < C)(h:B<=W.heap.size)(v:Value):GrR B C W (W.setCell ⟨b,k,none⟩ v):=⟨rfl,rfl,rfl,by simp[World.setCell],h,λj _ hs=>Below.heap_setCell W ⟨b,k,none⟩ v j (by show j≠b;omega),qjL _⟩
structure KBt (B:Nat) (S:Nat->Prop) (W W':World):Prop where
 size:W.heap.size<=W'.heap.size
 block:∀k,k < W.heap.size->(S k\/B<=k)->W'.heap[k]? =W.heap[k]?
def KBt.refl(B:Nat)(S:Nat->Prop)(W:World):KBt B S W W:=⟨qjL _,λ_ _ _=>rfl⟩
def KBt.trans{B:Nat}{S:Nat->Prop}{X Y Z:World}(h:KBt B S X Y)(k:KBt B S Y Z):KBt B S X Z:=⟨qj8 h.size k.size,λi hi hs=>(k.block i (qjZ hi h.size) hs).trans (h.block i hi hs)⟩
def KBt.mono{A B:Nat}{S:Nat->Prop}{X Y:World}(h:KBt A S X Y)(hAB:A<=B):KBt B S X Y:=⟨h.size,λi hi hs=>h.block i hi (hs.imp id λh=>qj8 hAB h)⟩
def KBt.alloc(B:Nat)(S:Nat->Prop)(W:World)(o:Obj):KBt B S W (W.alloc o):=⟨by simp,λk hk _=>Below.heap_alloc W o k hk⟩
def qcl(B C:Nat)(I:Nat->World->Prop):Prop:=∀k W W',I k W->GrR B C W W'->I k W'
def WY(S:Nat->Prop)(B:Nat)(I Ix:Nat->World->Prop)(k:Nat)(W:World):Exit->Act->World->Prop
 | .normal,_,W'=>KeepsFrom B W W'/\KBt B S W W'/\I (k+1) W'
 | .ret,_,W'=>KeepsFrom B W W'/\Ix k W'
 | _,_,_=>False
def qci(F:Fence)(n:Nat)(P:Program)(gf:Nat)(lb:Array Value)(len:Nat)(encs:Nat->Array Value)(S:Nat->Prop)(m:Nat)(w:World):Prop:=
 ∀ (l:Nat) (J Jx:Nat->World->Prop) (W:World),KBt w.heap.size S w W->w.heap.size<=W.heap.size->(∀k A C,GrR W.heap.size (W.heap.size+m) A C->J k A->J k C)->
  (∀k W1,J k W1->W.heap.size+m<=W1.heap.size->k < len->YieldAt F (n -1) P l (encs k) W1 λe W'=>
    (e= .returned (.bool true)/\J (k+1) W'/\KBt W.heap.size S W1 W')\/(e= .returned (.bool false)/\Jx k W'))->
  J 0 W->CallsIn F n P gf (#[.func (.yield l) #[] #[]] ++lb) W λe W'=>(∃v,e= .returned v)/\(J len W'\/ ∃k,k < len/\Jx k W')
theorem GE{g:Operand}{ps:Array Tmp}{assign body:Code}{Q:Exit->Act->World->Prop}{a:Act}{w:World}
 (hro:F.round=none) (h1:1<=n) {gf:Nat} {lb:Array Value} (hg:a.eval g= .func (.func gf) #[] lb) (hFg:F.fn gf) (eg:∀args w,(callFunc gf args).run P w= .ok (.enter gf args) w)
 {len:Nat} {encs:Nat->Array Value} {S:Nat->Prop} {m:Nat} (hseq:qci F (n -1) P gf lb len encs S m w) (hS:∀k,S k->k < w.heap.size) (hps:∀x,(encs x).size=ps.size)
 (I Ix:Nat->World->Prop) (hI:qcl w.heap.size (w.heap.size+2+m) I) (hIx:qcl w.heap.size (w.heap.size+2+m) Ix) (h0:I 0 w)
 (Ax:Nat->Act->World->Prop) (hAx:∀a',∀k W o,w.heap.size+1 < W.heap.size->Ax k a' W->Ax k a' (W.putObj (w.heap.size+1) o))
 (hassign:∀ (l k:Nat) (W:World),w.heap.size+2+m<=W.heap.size->w.heap.size<=l->I k W->k < len->
   assign.wpIn (F.inRound l) (n -1 -1) P (Exit.then (λa' W'=>KeepsFrom w.heap.size W W'/\KBt w.heap.size S W W'/\I k W'/\Ax k a' W') (λ_ _ _=>False)) { tmps:=(ps.zip (encs k)).foldl (λt (p,v)=>t.setIfInBounds p v) a.tmps,defers:=[] } W)
 (hbody:∀ (l k:Nat) (a':Act) (W:World),w.heap.size+2+m<=W.heap.size->w.heap.size<=l->I k W->Ax k a' W->k < len->body.wpIn (F.inRound l) (n -1 -1) P (WY S w.heap.size I Ix k W) a' W)
 (hdone:∀ (D:Nat) (W:World),w.heap.size<=D->I len W->W.heap[D]? =some (.deferred (some []))->Q .normal { a with defers:={ target:= .collected D,args:= #[] } ::a.defers } W)
 (hstop:∀ (D k:Nat) (W:World),w.heap.size<=D->k < len->Ix k W->W.heap[D]? =some (.deferred (some []))->Code.ret.wpIn F n P Q { a with defers:={ target:= .collected D,args:= #[] } ::a.defers } W):
 (Code.rangeFunc g ps assign body).wpIn F n P Q a w:=by
 refine wpIn_rangeFunc ?_;intro fn hfn;rw[hro];obtain⟨rec,hrec⟩:∃rec:LoopState->Option Code->Loop,rec=λst pe=>{ state:=st,pending:=pe,fn,tmps:=a.tmps,params:=ps,assign,body,defers:=w.heap.size } :=⟨_,rfl⟩
 obtain⟨W1,hW1⟩:∃W1,(w.alloc (.deferred (some []))).alloc (.loop (rec .ready none))=W1:=⟨_,rfl⟩
 have hL1:W1.heap[w.heap.size+1]? =some (.loop (rec .ready none)):=by
  rw[<-hW1];have:=World.alloc_heap_new (w.alloc (.deferred (some []))) (.loop (rec .ready none));rwa [World.size_alloc]at this
 have hK1:W1.heap[w.heap.size]? =some (.deferred (some [])):=by
  rw[<-hW1];exact(Below.heap_alloc _ _ _ (by simp)).trans (World.alloc_heap_new w _)
 have hI1:I 0 W1:=by rw[<-hW1];exact hI 0 _ _ (hI 0 _ _ h0 (GrR.alloc w (qjL _) _)) (GrR.alloc _ (by simp) _)
 have hs1:W1.heap.size=w.heap.size+2:=by rw[<-hW1];simp
 have hb1:KBt w.heap.size S w W1:=by
  rw[<-hW1];exact(KBt.alloc _ _ _ _).trans (KBt.alloc _ _ _ _)
 refine⟨w.heap.size+1, [{ target:= .collected w.heap.size,args:= #[] }],W1, { target:= .fn (.func gf) lb,args:= #[.func (.yield (w.heap.size+1)) #[] #[]] },W1,gf,
  #[.func (.yield (w.heap.size+1)) #[] #[]] ++lb,W1,?_,?_,?_,?_,λ_=>h1,?_⟩
 ·rw[<-hW1,hrec];exact run_enterLoop_outer _ _ _ _ _
 ·simp only[resolve,hg];simp[go_sem]
 ·intro f' hf';simp[Target.leads]at hf';subst hf';exact hFg
 ·simp[invoke,go_sem,eg]
 ·refine(hseq (w.heap.size+1)
   (λk W=>I k W/\W.heap[w.heap.size+1]? =some (.loop (rec .ready none))/\W.heap[w.heap.size]? =some (.deferred (some [])))
   (λk W=>Ix k W/\W.heap[w.heap.size+1]? =some (.loop (rec .done (some .ret)))/\W.heap[w.heap.size]? =some (.deferred (some [])))
   W1 hb1 (by omega)
   (λk A C hg hs=>by
     rw[hs1]at hg;exact⟨hI k A C hs.1 (hg.mono (by omega) (by omega)),hg.get hs.2.1 (.inl (by omega)),hg.get hs.2.2 (.inl (by omega))⟩)
   ?_ ⟨hI1,hL1,hK1⟩).mono ?_
  ·rintro k W ⟨hi,hl,hk⟩ hsz hlen;rw[hs1]at hsz ⊢;have hy:=run_yield (P:=P) (args:=encs k) hl (by rw[hrec];exact hps k);rw[hrec]at hy;refine⟨fn,_,assign,body,hy,roundIn_of_wpIn hfn (wpIn_mono (hassign _ k W (by omega) (by omega) hi hlen) ?_)⟩;clear hy;rintro e a' Wa he;cases e with
   | normal=>
     obtain⟨hkfa,hba,hia,hax⟩:=he;have hla:=hkfa.same _ _ (by omega) hl rfl;have hka:=hkfa.same _ _ (qjL _) hk rfl;have hlt:w.heap.size+1 < Wa.heap.size:=(qjG.1 hla).1;refine⟨_,run_beginRound hla (by rw[hrec]),?_⟩;have hl2:(Wa.putObj (w.heap.size+1) (.loop { rec .ready none with state:= .busy })).heap[w.heap.size+1]? =some (.loop { rec .ready none with state:= .busy }):=World.putObj_heap_same hlt;have hk2:(Wa.putObj (w.heap.size+1) (.loop { rec .ready none with state:= .busy })).heap[w.heap.size]? =some (.deferred (some [])):=(World.putObj_heap_other (by omega)).trans hka;have bput:∀ (X:World) (o:Obj),KBt (w.heap.size+2) S X (X.putObj (w.heap.size+1) o):=λX o=>⟨by simp,λj hj hs=>World.putObj_heap_other (by rcases hs with h|h; (have:=hS j h;omega);omega)⟩
     refine wpIn_mono (hbody _ k a' _ (by simp;have:=hkfa.size;omega) (by omega) (hI k _ _ hia (GrR.put _ (by omega) (by omega) (by omega) _)) (hAx a' k _ _ hlt hax) hlen) ?_;rintro e a3 W3 hp;cases e with
     | normal=>
       obtain⟨hk3,hb3,hi3⟩:=hp;have hl3:=hk3.same _ _ (by omega) hl2 rfl;have hd3:=hk3.same _ _ (qjL _) hk2 rfl;have hr:=run_endRound (P:=P) none hl3;refine⟨_,_,hr, .inl ⟨rfl,⟨hI _ _ _ hi3 (GrR.put _ (by omega) (by omega) (by have:=(qjG.1 hl3).1;omega) _),?_,(World.putObj_heap_other (by omega)).trans hd3⟩,(hba.mono (by omega)).trans ((bput _ _).trans ((hb3.mono (by omega)).trans (bput _ _)))⟩⟩;rw[World.putObj_heap_same (qjG.1 hl3).1,hrec];rfl
     | ret=>
       obtain⟨hk3,hi3⟩:=hp;have hl3:=hk3.same _ _ (by omega) hl2 rfl;have hd3:=hk3.same _ _ (qjL _) hk2 rfl;have hr:=run_endRound (P:=P) (some .ret) hl3;refine⟨_,_,hr, .inr ⟨rfl,hIx _ _ _ hi3 (GrR.put _ (by omega) (by omega) (by have:=(qjG.1 hl3).1;omega) _),?_,(World.putObj_heap_other (by omega)).trans hd3⟩⟩;rw[World.putObj_heap_same (qjG.1 hl3).1,hrec];rfl
     | exit id=>exact hp.elim
     | goto t=>exact hp.elim
     | panic ch=>exact hp.elim
     | outgrown=>exact hp.elim
   | ret=>exact he.elim
   | exit id=>exact he.elim
   | goto t=>exact he.elim
   | panic ch=>exact he.elim
   | outgrown=>exact he.elim
  ·rintro e W2 ⟨⟨v,rfl⟩,(⟨hi,hl,hk⟩|⟨k,hk0,hi,hl,hk⟩)⟩
   ·exact⟨none,_,by have:=run_endLoop (P:=P) hl (by rw[hrec];simp);rw[hrec]at this;exact this,hdone _ _ (qjL _) (hI _ _ _ hi (GrR.put _ (by omega) (by omega) (by have:=(qjG.1 hl).1;omega) _)) ((World.putObj_heap_other (by omega)).trans hk)⟩
   ·exact⟨some .ret,_,by have:=run_endLoop (P:=P) hl (by rw[hrec];simp);rw[hrec]at this;exact this,hstop _ k _ (qjL _) hk0 (hIx _ _ _ hi (GrR.put _ (by omega) (by omega) (by have:=(qjG.1 hl).1;omega) _)) ((World.putObj_heap_other (by omega)).trans hk)⟩
end Go.Gv
namespace Go.Proofs
open Go.RowKit Go.Shelf Go.Gv
attribute [local go_sem] Oper.semAt_some
set_option maxRecDepth 100000 in
set_option maxHeartbeats 2000000 in
def Tryz.units_in(F:Fence)(n:Nat)(h95:F.fn 130)(hro:F.round=none)(s:ByteArray)(w:World):
 CallsIn F n Tryz.prog 130 #[.string s] w λe w'=>
  e= .returned (.func (.func 162) #[] #[.pointer (some ⟨w.heap.size,0,none⟩)])/\w'=w.alloc (.cells #[.string s] aJ):=by
 refine callsIn_of_wp Tryz.func130 rfl h95 ?_ hro;simp only[Tryz.ntmps130,List.size_toArray,List.length_cons,List.length_nil,Nat.reduceAdd,Nat.reduceSub,Array.replicate_succ,Array.replicate_zero,List.push_toArray,List.append_toArray,List.nil_append,List.cons_append]
 gi_wp2
 all_goals go_ret
 exact⟨rfl,rfl⟩
def Gz{P:Program}(W:World)(Bi:Nat)(s:ByteArray)(pos:Nat)(ty:TypeId)(hB:W.heap[Bi]? =some (.stringIter s pos))(h:pos < s.size)(ha:(s[pos]'h).toNat < 128):
 (Instr.next (.pointer (some ⟨Bi,0,none⟩)) true ty).run P W= .ok (.tuple #[.bool true, .int .i64 pos, .int .i32 (s[pos]'h).toNat]) (W.putObj Bi (.stringIter s (pos+1))):=by
 simp only[Instr.next,getObj,setObj,Sem.run_bind,Sem.run,hB,Result.andThen,h,if_true,decode_ascii s pos h ha];simp[goInt,Sem.run,hB,World.putObj]
def GB{P:Program}(W:World)(Bi:Nat)(s:ByteArray)(pos:Nat)(ty:TypeId)(hB:W.heap[Bi]? =some (.stringIter s pos))(h:¬pos < s.size):
 (Instr.next (.pointer (some ⟨Bi,0,none⟩)) true ty).run P W= .ok (.tuple #[.bool false]) W:=by
 simp[Instr.next,getObj,Sem.run,hB,h]
def kX{W:World}{b k:Nat}{xs:Array Value}{t:TypeId}{v:Value}(h:W.heap[b]? =some (.cells xs t (0,0))):(W.setCell ⟨b,k,none⟩ v).heap[b]? =some (.cells (xs.setIfInBounds k v) t (0,0)):=by
 simp[World.setCell,Array.getElem?_modify,h]
def GrL.setCell{B b k:Nat}{W:World}(hb:B<=b)(v:Value):GrL B W (W.setCell ⟨b,k,none⟩ v):=⟨rfl,rfl,rfl,by simp[World.setCell],λj hj=>Below.heap_setCell W ⟨b,k,none⟩ v j (by show j≠b;omega),Nat.le_refl _⟩
def lC{W:World}{b k:Nat}{xs:Array Value}{t:TypeId}(h:W.heap[b]? =some (.cells xs t (0,0))):W.frozen? ⟨b,k,none⟩=false:=by simp[World.frozen?,h]
def bg{W:World}{b k:Nat}{xs:Array Value}{t:TypeId}{v:Value}(h:W.heap[b]? =some (.cells xs t (0,0)))(hk:xs[k]? =some v):W.cell? ⟨b,k,none⟩=some v:=by simp[World.cell?,h,hk]
theorem qhH{B C b i:Nat}{W:World}{x0 x1 x2:Value}{t:TypeId}{o:Obj}(hb:W.heap[b]? =some (.cells #[x0,x1,x2] t (0,0)))(hi:W.heap[i]? =some o)(hne:i≠b)(hB:B<=b)(hC:b < C)(y0 y1 y2:Value):
 (((W.setCell ⟨b,0,none⟩ y0).setCell ⟨b,1,none⟩ y1).setCell ⟨b,2,none⟩ y2).heap[b]? =some (.cells #[y0,y1,y2] t (0,0))/\(((W.setCell ⟨b,0,none⟩ y0).setCell ⟨b,1,none⟩ y1).setCell ⟨b,2,none⟩ y2).heap[i]? =some o/\GrR B C W (((W.setCell ⟨b,0,none⟩ y0).setCell ⟨b,1,none⟩ y1).setCell ⟨b,2,none⟩ y2):=by
 have hlt:=(Array.getElem?_eq_some_iff.1 hb).1;refine⟨kX (kX (kX hb)),?_,((GrR.set _ hB hC (by omega) y0).trans (GrR.set _ hB hC (by simp[World.setCell];omega) y1)).trans (GrR.set _ hB hC (by simp[World.setCell];omega) y2)⟩;rw[Below.heap_setCell _ _ _ _ hne,Below.heap_setCell _ _ _ _ hne,Below.heap_setCell _ _ _ _ hne];exact hi
def Oi(s:ByteArray)(k:Nat):Array Value:= #[.agg #[.int .i32 (((s.data.toList[k]?).map λc=>(c.toNat:Int)).getD 0), .int .i64 (k:Int), .int .i64 1]]
set_option maxRecDepth 100000 in
set_option maxHeartbeats 4000000 in
theorem Tryz.units1_it(F:Fence)(n:Nat)(h128:F.fn 162)(hro:F.round=none)(hn:1<=n)(s:ByteArray)(hs:s.size<=100000)(ha:∀ (k:Nat) (h:k < s.size),(s[k]'h).toNat < 128)(S:Nat->Prop)(Bs:Nat)(hBs:S Bs)(w:World)(hS:∀k,S k->k < w.heap.size)(hB:w.cell? ⟨Bs,0,none⟩=some (.string s)):
 qci F n Tryz.prog 162 #[.pointer (some ⟨Bs,0,none⟩)] s.size (Oi s) S 2 w:=by
 intro l J Jx W hW hsz hJ hY h0;have hB':W.cell? ⟨Bs,0,none⟩=some (.string s):=by
  rw[World.cell?_of_block (hW.block Bs (hS Bs hBs) (.inl hBs))];exact hB
 show CallsIn F n Tryz.prog 162 #[.func (.yield l) #[] #[], .pointer (some ⟨Bs,0,none⟩)] W _;refine callsIn_of_wp Tryz.func162 rfl h128 ?_ hro;simp only[Tryz.ntmps162,List.size_toArray,List.length_cons,List.length_nil,Nat.reduceAdd,Nat.reduceSub,Array.replicate_succ,Array.replicate_zero,List.push_toArray,List.append_toArray,List.nil_append,List.cons_append];have hBW:Bs < W.heap.size:=Nat.lt_of_lt_of_le (hS Bs hBs) hsz;have hBx:∀o,(W.alloc o).cell? ⟨Bs,0,none⟩=some (.string s):=λo=>by
  rw[World.cell?_of_block (Below.heap_alloc W o Bs hBW)];exact hB'
 gi_wp2
 gi_loopw [] (λwr=>∃p:Nat,p<=s.size/\wr.heap[W.heap.size+1]? =some (.stringIter s p)/\(∃r sz:Int,(0 < p->r=((s.data.toList[p -1]?).map λc=>(c.toNat:Int)).getD 0)/\wr.heap[W.heap.size]? =some (.cells #[.int .i32 r, .int .i64 ((p:Int) -1), .int .i64 sz] 152 (0,0)))/\J (p -1) wr/\W.heap.size+2<=wr.heap.size/\wr.heap[Bs]? =W.heap[Bs]?) (λwr=>s.size -wr.iterPos (W.heap.size+1))
 case atStart=>
  have hz:(W.alloc (.cells #[.int .i32 0, .int .i64 (-1), .int .i64 0] 152)).heap.size=W.heap.size+1:=by simp
  refine⟨0,Nat.zero_le _,?_,⟨0,0,λh=>by omega,?_⟩,?_,?_,?_⟩
  ·rw[<-hz];exact World.iter_heap _ _ _
  ·exact(Below.heap_alloc _ _ _ (by simp)).trans (World.alloc_heap_new W _)
  ·exact hJ 0 _ _ ((GrR.alloc W (Nat.le_refl _) _).trans (GrR.alloc _ (by simp) _)) h0
  ·simp[World.iter]
  ·exact(Below.heap_alloc _ _ _ (by simp;omega)).trans (Below.heap_alloc W _ Bs hBW)
 case round=>
  obtain⟨p,hp,hBi,⟨r,sz,hr,hBu⟩,hJp,hsz2,hbs⟩:=hrel;by_cases hlt:p < s.size
  ·have hnx:∀ty,(Instr.next (.pointer (some ⟨W.heap.size+1,0,none⟩)) true ty).run Tryz.prog wr=_:=λty=>Gz wr (W.heap.size+1) s p ty hBi hlt (ha p hlt)
   obtain⟨W2,hW2⟩:∃W2,W2=wr.putObj (W.heap.size+1) (.stringIter s (p+1)):=⟨_,rfl⟩
   rw[<-hW2]at hnx;have hBu2:W2.heap[W.heap.size]? =some (.cells #[.int .i32 r, .int .i64 ((p:Int) -1), .int .i64 sz] 152 (0,0)):=by
    rw[hW2];exact(World.putObj_heap_other (by omega)).trans hBu
   have hBi2:W2.heap[W.heap.size+1]? =some (.stringIter s (p+1)):=by
    rw[hW2];exact World.putObj_heap_same (by omega)
   have hJ2:J (p -1) W2:=by rw[hW2];exact hJ _ _ _ (GrR.put _ (by omega) (by omega) (by omega) _) hJp
   have hbs2:W2.heap[Bs]? =W.heap[Bs]?:=by rw[hW2];exact(World.putObj_heap_other (by omega)).trans hbs
   have hsz3:W2.heap.size=wr.heap.size:=by rw[hW2];simp
   have c0:W2.cell? ⟨W.heap.size,0,none⟩=some (.int .i32 r):=by simp[World.cell?,hBu2]
   have c1:W2.cell? ⟨W.heap.size,1,none⟩=some (.int .i64 ((p:Int) -1)):=by simp[World.cell?,hBu2]
   have c2:W2.cell? ⟨W.heap.size,2,none⟩=some (.int .i64 sz):=by simp[World.cell?,hBu2]
   have f2:W2.frozen? ⟨W.heap.size,2,none⟩=false:=by simp[World.frozen?,hBu2]
   obtain⟨ch,hch⟩:∃ch,ch=(s[p]'hlt).toNat:=⟨_,rfl⟩
   rw[<-hch]at hnx;have hip:wr.iterPos (W.heap.size+1)=p:=by simp[World.iterPos,hBi]
   have hip2:W2.iterPos (W.heap.size+1)=p+1:=by simp[World.iterPos,hBi2]
   clear hW2;have hpi:(-9223372036854775808:Int)<=(p:Int) - ((p:Int) -1)/\(p:Int) - ((p:Int) -1)<=9223372036854775807:=by omega
   have hset:∀v,(W2.setCell ⟨W.heap.size,2,none⟩ v).heap[W.heap.size]? =some (.cells #[.int .i32 r, .int .i64 ((p:Int) -1),v] 152 (0,0)):=λv=>kX hBu2
   have hfr:∀v k,(W2.setCell ⟨W.heap.size,2,none⟩ v).frozen? ⟨W.heap.size,k,none⟩=false:=λv k=>lC (hset v)
   by_cases hp0:p=0
   ·subst hp0
    gi_wp2
    refine⟨λ_ h=>(by cases h),?_⟩
    gi_wp2
    have h3:=hset (.int .i64 1);have h3i:(W2.setCell ⟨W.heap.size,2,none⟩ (.int .i64 1)).heap[W.heap.size+1]? =some (.stringIter s (0+1)):=(Below.heap_setCell _ _ _ _ (by simp)).trans hBi2;obtain⟨q1,q2,q3⟩:=qhH (B:=W.heap.size) (C:=W.heap.size+2) h3 h3i (by omega) (Nat.le_refl _) (by omega) (.int .i32 ((s[0]'hlt).toNat:Int)) (.int .i64 0) (.int .i64 0);have q4:=(GrR.set (C:=W.heap.size+2) (k:=2) W2 (Nat.le_refl W.heap.size) (by omega) (by omega) (.int .i64 1)).trans q3;refine⟨⟨0+1,by omega,q2,⟨((s[0]'hlt).toNat:Int),0,λ_=>?_,q1⟩,hJ _ _ _ q4 hJ2,by have:=q4.size;omega,(q4.toL.low Bs hBW).trans hbs2⟩,?_⟩
    ·have e:s.data.toList[0]? =some (s[0]'hlt):=by
      rw[List.getElem?_eq_getElem (by rw[Array.length_toList];exact hlt),Array.getElem_toList];rfl
     rw[Nat.add_sub_cancel,e];rfl
    ·rw[show((((W2.setCell ⟨W.heap.size,2,none⟩ (.int .i64 1)).setCell ⟨W.heap.size,0,none⟩ (.int .i32 ((s[0]'hlt).toNat:Int))).setCell ⟨W.heap.size,1,none⟩ (.int .i64 0)).setCell ⟨W.heap.size,2,none⟩ (.int .i64 0)).iterPos (W.heap.size+1)=1 from by simp[World.iterPos,q2],hip];omega
   have hp1:0 < p:=by omega
   have e1:(p:Int) - ((p:Int) -1)=1:=by omega
   have h3:=hset (.int .i64 ((p:Int) - ((p:Int) -1)));obtain⟨W3,hW3⟩:∃W3,W3=W2.setCell ⟨W.heap.size,2,none⟩ (.int .i64 ((p:Int) - ((p:Int) -1))):=⟨_,rfl⟩
   have g3:GrR W.heap.size (W.heap.size+2) W2 W3:=by rw[hW3];exact GrR.set _ (Nat.le_refl W.heap.size) (by omega) (by omega) _
   have hJ3:J (p -1) W3:=hJ _ _ _ g3 hJ2;have h3i:W3.heap[W.heap.size+1]? =some (.stringIter s (p+1)):=by rw[hW3];exact(Below.heap_setCell _ _ _ _ (by simp)).trans hBi2
   rw[<-hW3]at h3;have hsz4:W.heap.size+2<=W3.heap.size:=by have:=g3.size;omega
   obtain⟨fn,tmps,assign,body,hy,hR⟩:=hY (p -1) W3 hJ3 (by omega) (by omega);have hue:Oi s (p -1)= #[.agg #[.int .i32 r, .int .i64 ((p:Int) -1), .int .i64 ((p:Int) - ((p:Int) -1))]]:=by
    unfold Oi;rw[<-hr hp1,e1,show((p -1:Nat):Int)=(p:Int) -1 by omega]
   rw[hue]at hy;rw[hW3]at hy hR;clear hr e1 hue
   gi_wp2
   refine hR.mono ?_;clear hy;rintro e W4 (⟨rfl,hJ4,hk4⟩|⟨rfl,hJx4⟩)
   ·rw[<-hW3]at hk4;have h4:W4.heap[W.heap.size]? =some (.cells #[.int .i32 r, .int .i64 ((p:Int) -1), .int .i64 ((p:Int) - ((p:Int) -1))] 152 (0,0)):=(hk4.block _ (by omega) (.inr (Nat.le_refl _))).trans h3;have h4i:W4.heap[W.heap.size+1]? =some (.stringIter s (p+1)):=(hk4.block _ (by omega) (.inr (by omega))).trans h3i;have h4s:W4.heap[Bs]? =W.heap[Bs]?:=((hk4.block _ (by omega) (.inl hBs)).trans (g3.toL.low Bs hBW)).trans hbs2;have hf4:∀k,W4.frozen? ⟨W.heap.size,k,none⟩=false:=λk=>lC h4
    have k0:W4.cell? ⟨W.heap.size,0,none⟩=some (.int .i32 r):=bg h4 rfl;have k1:W4.cell? ⟨W.heap.size,1,none⟩=some (.int .i64 ((p:Int) -1)):=bg h4 rfl;have k2:W4.cell? ⟨W.heap.size,2,none⟩=some (.int .i64 ((p:Int) - ((p:Int) -1))):=bg h4 rfl;have h4z:W.heap.size+2<=W4.heap.size:=by have:=hk4.size;omega
    rw[show p -1+1=p by omega]at hJ4;clear hW3
    gi_wp2
    obtain⟨q1,q2,q3⟩:=qhH (B:=W.heap.size) (C:=W.heap.size+2) h4 h4i (by omega) (Nat.le_refl _) (by omega) (.int .i32 ((s[p]'hlt).toNat:Int)) (.int .i64 p) (.int .i64 0)
    go_roundw
    case rel=>
     refine⟨p+1,by omega,q2,⟨((s[p]'hlt).toNat:Int),0,λ_=>?_,?_⟩,hJ _ _ _ q3 hJ4,by have:=q3.size;omega,(q3.toL.low Bs hBW).trans h4s⟩
     ·have e:s.data.toList[p]? =some (s[p]'hlt):=by
       rw[List.getElem?_eq_getElem (by rw[Array.length_toList];exact hlt),Array.getElem_toList];rfl
      rw[Nat.add_sub_cancel,e];rfl
     ·rw[show(((p+1:Nat):Int) -1)=(p:Int) by omega];exact q1
    case measure=>
     rw[hip];simp only[World.iterPos,q2];omega
   ·clear hW3
    gi_wp2
    refine bodyPost_ret (results_none rfl _ _ _) rfl ?_;exact⟨⟨_,rfl⟩, .inr ⟨p -1,by omega,hJx4⟩⟩
  ·have hnx:∀ty,(Instr.next (.pointer (some ⟨W.heap.size+1,0,none⟩)) true ty).run Tryz.prog wr=_:=λty=>GB wr (W.heap.size+1) s p ty hBi hlt
   have hpe:p=s.size:=by omega
   subst hpe;have hcs:wr.cell? ⟨Bs,0,none⟩=some (.string s):=by rw[World.cell?_of_block hbs];exact hB'
   have c1:wr.cell? ⟨W.heap.size,1,none⟩=some (.int .i64 ((s.size:Int) -1)):=bg hBu rfl;have f2:wr.frozen? ⟨W.heap.size,2,none⟩=false:=lC hBu;have hset:∀v,(wr.setCell ⟨W.heap.size,2,none⟩ v).heap[W.heap.size]? =some (.cells #[.int .i32 r, .int .i64 ((s.size:Int) -1),v] 152 (0,0)):=λv=>kX hBu
   have hg:∀v,GrR W.heap.size (W.heap.size+2) wr (wr.setCell ⟨W.heap.size,2,none⟩ v):=λv=>GrR.set _ (Nat.le_refl _) (by omega) (by omega) v
   have c0:wr.cell? ⟨W.heap.size,0,none⟩=some (.int .i32 r):=bg hBu rfl;have c2:wr.cell? ⟨W.heap.size,2,none⟩=some (.int .i64 sz):=bg hBu rfl;have hsz': -9223372036854775808<=(s.size:Int) - ((s.size:Int) -1)/\(s.size:Int) - ((s.size:Int) -1)<=9223372036854775807:=by omega
   by_cases h00:s.size=0
   ·have hJ0:∀v,J s.size (wr.setCell ⟨W.heap.size,2,none⟩ v):=λv=>by
     have:=hJ _ _ _ (hg v) hJp;rwa [show s.size -1=s.size by omega]at this
    have i0:¬ (0:Int)<=(s.size:Int) -1:=by omega
    clear hset hg hJp hr
    gi_wp2
    go_end0
    have hJ00:=hJ0 (.int .i64 1);rw[h00]at hJ00;exact⟨⟨_,rfl⟩,hJ00⟩
   have hJ3:J (s.size -1) (wr.setCell ⟨W.heap.size,2,none⟩ (.int .i64 ((s.size:Int) - ((s.size:Int) -1)))):=hJ _ _ _ (hg _) hJp;have hz3:=(hg (.int .i64 ((s.size:Int) - ((s.size:Int) -1)))).size;obtain⟨fn,tmps,assign,body,hy,hR⟩:=hY (s.size -1) _ hJ3 (by omega) (by omega);have hue:Oi s (s.size -1)= #[.agg #[.int .i32 r, .int .i64 ((s.size:Int) -1), .int .i64 ((s.size:Int) - ((s.size:Int) -1))]]:=by
    unfold Oi;rw[<-hr (by omega),show((s.size -1:Nat):Int)=(s.size:Int) -1 by omega,show(s.size:Int) - ((s.size:Int) -1)=1 by omega]
   rw[hue]at hy;clear hr hue
   gi_wp2
   refine hR.mono ?_;clear hy;have hl1:s.size -1 < s.size:=by omega
   rintro e W4 (⟨rfl,hJ4,hk4⟩|⟨rfl,hJx4⟩)
   ·rw[show s.size -1+1=s.size by omega]at hJ4
    gi_wp2
    go_end0
    exact⟨⟨_,rfl⟩, .inl hJ4⟩
   ·gi_wp2
    go_end0
    exact⟨⟨_,rfl⟩, .inr ⟨_,hl1,hJx4⟩⟩
end Go.Proofs
namespace Go.Proofs
open Go.RowKit Go.Shelf Go.Gv
attribute [local go_sem] Oper.semAt_some
def EO(s:ByteArray)(k:Nat):Int:=((s.data.toList[k]?).map λc=>(c.toNat:Int)).getD 0
set_option maxRecDepth 100000 in
set_option maxHeartbeats 2000000 in
def Tryz.unit_valid_x(F:Fence)(n:Nat)(h132:F.fn 131)(hro:F.round=none)(r a z:Int)(hr:0<=r)(hr2:r < 128)(w:World):
 CallsIn F n Tryz.prog 131 #[.agg #[.int .i32 r, .int .i64 a, .int .i64 z]] w λe w'=>
  e= .returned (.bool true)/\w'=w.alloc (.cells #[.int .i32 r, .int .i64 a, .int .i64 z] 152):=by
 refine callsIn_of_wp Tryz.func131 rfl h132 ?_ hro;simp only[Tryz.ntmps131,List.size_toArray,List.length_cons,List.length_nil,Nat.reduceAdd,Nat.reduceSub,Array.replicate_succ,Array.replicate_zero,List.push_toArray,List.append_toArray,List.nil_append,List.cons_append]
 gi_wp2
 go_ret
 exact⟨rfl,rfl⟩
def Vi{s:ByteArray}(ha:∀ (k:Nat) (h:k < s.size),(s[k]'h).toNat < 128){k:Nat}(hk:k < s.size):0<=EO s k/\EO s k < 128:=by
 have e:s.data.toList[k]? =some (s[k]'hk):=by
  rw[List.getElem?_eq_getElem (by rw[Array.length_toList];exact hk),Array.getElem_toList];rfl
 have h:=ha k hk;unfold EO;rw[e];show 0<=((s[k]'hk).toNat:Int)/\((s[k]'hk).toNat:Int) < 128;omega
def Gi(s:ByteArray)(k:Nat):Oi s k= #[.agg #[.int .i32 (EO s k), .int .i64 (k:Int), .int .i64 1]]:=rfl
set_option maxRecDepth 100000 in
set_option maxHeartbeats 4000000 in
theorem Tryz.Valid_in(F:Fence)(n:Nat)(h101:F.fn 100)(h95:F.fn 130)(h128:F.fn 162)(h132:F.fn 131)(hro:F.round=none)(hn:10<=n)(s:ByteArray)(hs:s.size<=100000)(ha:∀ (k:Nat) (h:k < s.size),(s[k]'h).toNat < 128)(w:World):
 CallsIn F n Tryz.prog 100 #[.string s] w λe W'=>e= .returned (.bool true)/\GrL w.heap.size w W':=by
 have h1:1<=n:=by omega
 refine callsIn_of_wp_marks Tryz.func100 rfl h101 ?_ hro;simp only[Tryz.ntmps100,List.size_toArray,List.length_cons,List.length_nil,Nat.reduceAdd,Nat.reduceSub,Array.replicate_succ,Array.replicate_zero,List.push_toArray,List.append_toArray,List.nil_append,List.cons_append]
 gi_wp2_with (gi_at_call 130;refine(Tryz.units_in F (n -1) h95 hro _ _).mono ?_;rintro e w' ⟨rfl,rfl⟩)
 obtain⟨W0,hW0⟩:∃W0,(w.alloc (.cells #[.bool false] 4)).alloc (.cells #[.string s] aJ)=W0:=⟨_,rfl⟩
 rw[hW0];have hsz:W0.heap.size=w.heap.size+2:=by rw[<-hW0];simp
 have g0:GrL w.heap.size w W0:=by rw[<-hW0];exact(GrL.alloc w (Nat.le_refl _) _).trans (GrL.alloc _ (by simp) _)
 have b0:W0.heap[w.heap.size]? =some (.cells #[.bool false] 4 (0,0)):=by
  rw[<-hW0];exact(Below.heap_alloc _ _ _ (by simp)).trans (World.alloc_heap_new w _)
 have b1:W0.heap[w.heap.size+1]? =some (.cells #[.string s] aJ (0,0)):=by
  have h:=World.alloc_heap_new (w.alloc (.cells #[.bool false] 4)) (.cells #[.string s] aJ);rw[World.size_alloc]at h;rw[<-hW0];exact h
 clear hW0;have hcs:W0.cell? ⟨w.heap.size+1,0,none⟩=some (.string s):=bg b1 rfl;refine GE hro h1 (gf:=162) (lb:= #[.pointer (some ⟨w.heap.size+1,0,none⟩)]) rfl h128 (enters_of Tryz.func162 (by kernel_rfl) rfl)
  (Tryz.units1_it F (n -1) h128 hro (by omega) s hs ha (λk=>k < W0.heap.size) (w.heap.size+1) (by omega) W0 (λ_ h=>h) hcs) (λ_ h=>h) (λ_=>rfl)
  (λk W=>GrL w.heap.size w W/\W.heap[w.heap.size]? =some (.cells #[.bool false] 4 (0,0)))
  (λ_ _=>False)
  (λk A C hs hg0=>have hg:=hg0.toL; ⟨hs.1.trans (hg.mono (by omega)),(hg.low _ (by omega)).trans hs.2⟩)
  (λ_ _ _ hs _=>hs)
  ⟨g0,b0⟩
  (λk a' W=>∃Br,W0.heap.size+2<=Br/\W.heap[Br]? =some (.cells #[.int .i32 (EO s k), .int .i64 (k:Int), .int .i64 1] 152 (0,0))/\
    a'={ tmps:= #[.string s,undef, .pointer (some ⟨w.heap.size,0,none⟩), .pointer (some ⟨Br,0,none⟩), .string s, .func (.func 162) #[] #[.pointer (some ⟨w.heap.size+1,0,none⟩)], .agg #[.int .i32 (EO s k), .int .i64 (k:Int), .int .i64 1],undef,undef,undef],defers:=[] })
  (λa' k W o hlt hs=>by
    obtain⟨Br,q1,q2,q3⟩:=hs;exact⟨Br,q1,(World.putObj_heap_other (by omega)).trans q2,q3⟩)
  ?assign ?body ?done ?stop
 case assign=>
  rintro l k W hsz2 hl ⟨i1,i2⟩ hk;rw[Gi];generalize EO s k=c
  gi_wp2
  exact⟨(KeepsOthers.alloc _ _).from _,KBt.alloc _ _ _ _,⟨i1.trans (GrL.alloc W i1.size _),(Below.heap_alloc _ _ _ (by omega)).trans i2⟩,W.heap.size,by omega,World.alloc_heap_new W _,rfl⟩
 case body=>
  rintro l k a' W hsz2 hl ⟨i1,i2⟩ ⟨Br,hBr,bR,rfl⟩ hk;obtain⟨c0,c1⟩:=Vi ha hk;generalize EO s k=c at bR c0 c1;have r0:W.cell? ⟨Br,0,none⟩=some (.int .i32 c):=bg bR rfl;have r1:W.cell? ⟨Br,1,none⟩=some (.int .i64 (k:Int)):=bg bR rfl;have r2:W.cell? ⟨Br,2,none⟩=some (.int .i64 1):=bg bR rfl;have hn2:1<=n -1 -1:=by omega
  gi_wp2_with (gi_at_call 131;refine(CallsIn.inRound l (Tryz.unit_valid_x F _ h132 hro _ _ _ c0 c1 _)).mono ?_;rintro e w' ⟨rfl,rfl⟩)
  exact⟨(KeepsOthers.alloc _ _).from _,KBt.alloc _ _ _ _,i1.trans (GrL.alloc W i1.size _),(Below.heap_alloc _ _ _ (by omega)).trans i2⟩
 case done=>
  rintro D W hD ⟨i1,i2⟩ hK;have q0:W.cell? ⟨w.heap.size,0,none⟩=some (.bool false):=bg i2 rfl;have q1:W.frozen? ⟨w.heap.size,0,none⟩=false:=lC i2
  gi_wp2
  have hK2:(W.setCell ⟨w.heap.size,0,none⟩ (.bool true)).heap[D]? =some (.deferred (some [])):=(Below.heap_setCell _ _ _ _ (by show D≠w.heap.size;omega)).trans hK;refine⟨by simp, .inl ⟨_,_,rfl,run_takeDeferred hK2,?_⟩⟩;have i3:(W.setCell ⟨w.heap.size,0,none⟩ (.bool true)).heap[w.heap.size]? =some (.cells #[.bool true] 4 (0,0)):=kX i2;have i4:((W.setCell ⟨w.heap.size,0,none⟩ (.bool true)).putObj D (.deferred none)).heap[w.heap.size]? =some (.cells #[.bool true] 4 (0,0)):=(World.putObj_heap_other (by omega)).trans i3;have g4:GrL w.heap.size w ((W.setCell ⟨w.heap.size,0,none⟩ (.bool true)).putObj D (.deferred none)):=(i1.trans (GrL.setCell (Nat.le_refl _) _)).trans (GrL.put _ (by omega) _);have k4:=bg (k:=0) i4 rfl;have hres:∀tmps:Array Value,tmps[2]? =some (.pointer (some ⟨w.heap.size,0,none⟩))->(results Tryz.f100 tmps).run Tryz.prog ((W.setCell ⟨w.heap.size,0,none⟩ (.bool true)).putObj D (.deferred none))= .ok (.bool true) ((W.setCell ⟨w.heap.size,0,none⟩ (.bool true)).putObj D (.deferred none)):=λtmps ht=>by
   simp[results,Tryz.f100,go_sem,k4,ht]
  exact⟨_,hres _ rfl,rfl,g4⟩
 case stop=>
  rintro D k W _ _ h _;exact h.elim
end Go.Proofs
